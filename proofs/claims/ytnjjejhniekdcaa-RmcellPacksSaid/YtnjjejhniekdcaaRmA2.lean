/- What the laws of rmcell begin with. -/
import Derived.Test.YtnjjejhniekdcaaRmA
namespace Go.Proofs.Ytnjjejhniekdcaa
set_option linter.unusedVariables false
set_option linter.unusedSimpArgs false
open Go.RowKit
set_option maxRecDepth 100000
set_option maxHeartbeats 4000000
section
variable {ops : Array Oper} {rest : List Oper} {a : Act} {w : World} {Q : Exit → Act → World → Prop} {x y : Operand} {dst : Option Nat} {ty : TypeId} {pos : String} {after : Array Edge}
theorem wpList_fill31 (cs : List Value) {C : Array Value} {E : TypeId} (h1 : a.eval x = .pointer (some ⟨w.heap.size, 0, none⟩) ∧ a.eval y = .agg cs.toArray ∧ cs.length = 10 ∧ cs.toArray.all (·.oneCell') = true ∧ C.size = 10)
    (h : ∀ W2 : World, w.heap.size < W2.heap.size → Below w.heap.size w W2 → W2.rangeAt w.heap.size 0 cs → wpList Try.prog ops Q rest (a.put none undef) W2) : wpList Try.prog ops Q (⟨none, .store 31 x y, ty, pos, after, none⟩ :: rest) a (w.alloc (.cells C E)) := by
  obtain ⟨hx, hy, hl, h1, hC⟩ := h1
  have hX : cs.toArray.size = 10 := by simpa using hl
  have hf := fill_new (w := w) (E := E) hC hX rfl
  simp only [List.toList_toArray] at hf
  refine wpList_store_mid rfl 31 x y rfl _ 0 cs.toArray hx hy (by rw [hX]; exact there_new rfl hC) (by rw [siz31, hX]) h1 ?_
  exact h _ hf.1 hf.2.1 hf.2.2
theorem wpList_load31G {gd : Option (Nat × Bool)} (cs : List Value) (hw : Region.wanted ⟨dst, .load 31 x, ty, pos, after, gd⟩ (yielded ops a.tmps) = true) (h1 : ∃ b, a.eval x = .pointer (some ⟨b, 0, none⟩) ∧ cs.length = 10 ∧ w.rangeAt b 0 cs)
    (h : wpList Try.prog ops Q rest (a.put dst (.agg cs.toArray)) w) : wpList Try.prog ops Q (⟨dst, .load 31 x, ty, pos, after, gd⟩ :: rest) a w :=
  wpList_unguard hw (wpList_load31 cs h1 h)
theorem wpList_load48G {gd : Option (Nat × Bool)} (X : Array Value) (hw : Region.wanted ⟨dst, .load 26 x, ty, pos, after, gd⟩ (yielded ops a.tmps) = true) (h1 : ∃ b off, a.eval x = .pointer (some ⟨b, off, none⟩) ∧ X.size = 48 ∧ w.rangeAt b off X.toList)
    (h : wpList Try.prog ops Q rest (a.put dst (.agg X)) w) : wpList Try.prog ops Q (⟨dst, .load 26 x, ty, pos, after, gd⟩ :: rest) a w :=
  wpList_unguard hw (wpList_load48 X h1 h)
end
theorem rm_of_range {w : World} {b : Nat} {bk nr ci ni ra : Bool} {er cc mc ql sn : Int} (h : w.rangeAt b 0 (rmV bk nr ci ni ra er cc mc ql sn)) : RmAt w b bk nr ci ni ra er cc mc ql sn := by
  have g := fun j v (hv : (rmV bk nr ci ni ra er cc mc ql sn)[j]? = some v) => h j v hv
  simp only [Nat.zero_add] at g
  exact ⟨g 0 _ rfl, g 1 _ rfl, g 2 _ rfl, g 3 _ rfl, g 4 _ rfl, g 5 _ rfl, g 6 _ rfl, g 7 _ rfl, g 8 _ rfl, g 9 _ rfl⟩
theorem awake13 (w : World) : Calls Try.prog 9 #[] w fun e w' => e = .returned (.bool true) ∧ Below w.heap.size w w' := by
  obtain ⟨zs, hzs⟩ : ∃ zs, Hid (zs = sealZ (packZ false false true false false 32767 0 0 0 0)) := ⟨_, rfl⟩
  have hR : Hid ((rgtZ 32767 && rgtZ 0 && rgtZ 0) = true) := by show _ = _; kernel_rfl
  obtain ⟨k1, k2⟩ := pack_back false false true false false 32767 0 0 0 0 (by decide) (by decide) (by decide) (by decide) (by decide) (by decide) (by decide) (by decide) (by decide) (by decide) hR.out
  rw [← hzs.out] at k1 k2
  have hl : Hid (zs.length = 48) := by rw [hzs.out]; exact (sealZ_len _).trans (packZ_len ..)
  have hb : Hid (allB zs) := by rw [hzs.out]; exact sealZ_B (packZ_B _ _ _ _ _ _ _ _ _ _)
  have a0 : Hid (zs[0]?.getD 0 = 1) := by rw [hzs.out]; exact seal_at0 (packZ_len ..) 0 (by omega)
  have a2 : Hid (zs[2]?.getD 0 = 127) := by rw [hzs.out]; exact seal_at0 (packZ_len ..) 2 (by omega)
  have hpk := fun w => pack_yes false false true false false 32767 0 0 0 0 w (by decide) (by decide) (by decide) (by decide) (by decide) (by decide) (by decide) (by decide) (by decide) (by decide) hR
  rw [← hzs.out] at hpk
  have hfld : ∀ w, (Instr.field 31 (.agg (rmV true false true false false 32767 0 0 0 0).toArray) 0).run Try.prog w = .ok (.bool true) w := fun _ => by kernel_rfl
  have K1 := Lib.hid k1
  have K2 := Lib.hid k2
  have HPK := Lib.hid hpk
  clear k1 k2 hpk hR
  go_enter Try.func9, Try.ntmps9
  go_wp2_with (first | (go_at_call 10; (with_reducible refine (HPK.out _).mono ?_); rintro e wp ⟨⟨X, rfl, hX⟩, hb_wp⟩; have hsx := sizeP hX hl.out; have hs_wp := hb_wp.size) | ((with_reducible refine wpList_fill48 (w := wp) X ?_ ?_); (focus (exact ⟨rfl, rfl, hsx, oneP hX, rfl⟩)); intro W1 hs_W1 hb_W1 X_1; have Z_1 := (by rw [hX.out] at X_1; exact bytes_of_range X_1 hs_W1 hl.out hb.out)) | ((with_reducible refine wpList_load48 X ?_ ?_); (focus (exact ⟨_, _, rfl, hsx, X_1⟩))) | (go_at_call 12; (with_reducible refine (unpack_all zs X _ hX hl.out hb.out).mono ?_); rw [K1.out, K2.out]; rintro e wu ⟨rfl, hb_wu⟩; have Z_u := BytesAt.below Z_1 hb_wu) | ((with_reducible refine wpList_fill31 (w := wu) (rmV false false true false false 32767 0 0 0 0) ?_ ?_); (focus (exact ⟨rfl, rfl, rfl, one_rm _ _ _ _ _ _ _ _ _ _, rfl⟩)); intro W2 hs_W2 hb_W2 R_2; have Z_2 := BytesAt.below Z_u hb_W2; have q0 := Z_2.cellAt (k := 0) (by omega); have q2 := Z_2.cellAt (k := 2) (by omega); rw [Nat.zero_add, a0.out] at q0; rw [Nat.zero_add, a2.out] at q2; have r2 := (rm_of_range R_2).c2; have r5 := (rm_of_range R_2).c5) | ((with_reducible refine wpList_load31G (rmV false false true false false 32767 0 0 0 0) ?_ ?_ ?_); (focus (first | rfl | (simp [Region.wanted, yielded, Act.put]; done))); (focus (exact ⟨_, rfl, rfl, R_2⟩))) | (go_at_call 18; (with_reducible refine (turn_any _ _ _ _ _ _ _ _ _ _ _).mono ?_); rintro e wt ⟨rfl, hb_wt⟩))
  go_ret
  refine ⟨rfl, ?_⟩
  have B1 : Below w.heap.size w W1 := hb_wp.trans (hb_W1.mono hs_wp)
  have B2 : Below w.heap.size w W2 := (B1.trans (hb_wu.mono B1.size)).trans (hb_W2.mono (by have := hb_wu.size; have := B1.size; omega))
  exact B2.trans (hb_wt.mono B2.size)
end Go.Proofs.Ytnjjejhniekdcaa
