/- Slices of bytes that read as lists; are two alike? -/
import Derived.Test.YtnjjejhniekdcaaKit3
namespace Go.Proofs.Ytnjjejhniekdcaa
set_option linter.unusedVariables false
set_option linter.unusedSimpArgs false
open Go.RowKit
set_option maxRecDepth 100000
set_option maxHeartbeats 4000000
/-- a slice of bytes that reads as zs. -/
structure BytesAt (w : World) (a : Option Addr) (len : Nat) (zs : List Int) : Prop where
  length : zs.length = len
  most : len ≤ 140737488355328
  byte : ∀ k : Nat, 0 ≤ zs[k]?.getD 0 ∧ zs[k]?.getD 0 < 256
  cells : 0 < len → ∃ b off, a = some ⟨b, off, none⟩ ∧ b < w.heap.size ∧ ∀ k, k < len → w.cell? ⟨b, off + k, none⟩ = some (.int .u8 (zs[k]?.getD 0))
theorem BytesAt.below {w w' : World} {a : Option Addr} {len : Nat} {zs : List Int} (h : BytesAt w a len zs) (hb : Below w.heap.size w w') : BytesAt w' a len zs :=
  ⟨h.length, h.most, h.byte, fun hp => by
    obtain ⟨b, off, h1, h2, h3⟩ := h.cells hp
    exact ⟨b, off, h1, Nat.lt_of_lt_of_le h2 hb.size, fun k hk => (hb.cell (p := ⟨b, off + k, none⟩) h2).trans (h3 k hk)⟩⟩
theorem take_more {xs ys : List Int} {k : Nat} (h : xs.take k = ys.take k) (hx : k < xs.length) (hy : k < ys.length) (e : xs[k]?.getD 0 = ys[k]?.getD 0) : xs.take (k + 1) = ys.take (k + 1) := by
  rw [List.take_succ_eq_append_getElem hx, List.take_succ_eq_append_getElem hy, h]
  rw [List.getElem?_eq_getElem hx, List.getElem?_eq_getElem hy] at e
  simp at e
  rw [e]
theorem same_any {w : World} {a a' : Option Addr} {n n' cap cap' : Nat} {xs ys : List Int} (hx : BytesAt w a n xs) (hy : BytesAt w a' n' ys) :
    Calls Try.prog 14 #[.slice a n cap, .slice a' n' cap'] w fun e w' => e = .returned (.bool (decide (xs = ys))) ∧ Below w.heap.size w w' := by
  by_cases hn : n = n'
  · subst hn
    have hm := hx.most
    go_enter Try.func14, Try.ntmps14
    go_wp2
    go_loopw [5, 13] (fun s5 s13 wr => ∃ k : Nat, k ≤ n ∧ s13 = .int .i64 k ∧ xs.take k = ys.take k ∧ Below w.heap.size w wr) (fun s5 s13 wr => n - (intOf s13).toNat)
    case atStart => exact ⟨0, by omega, rfl, rfl, Below.refl _ _⟩
    case round =>
      obtain ⟨k, hk, rfl, ht, hw⟩ := hrel
      by_cases hlt : k < n
      · obtain ⟨b, off, rfl, hb, hc⟩ := hx.cells (by omega)
        obtain ⟨b', off', rfl, hb', hc'⟩ := hy.cells (by omega)
        have e1 := hc k hlt
        have e2 := hc' k hlt
        obtain ⟨x, hxk⟩ : ∃ x, xs[k]?.getD 0 = x := ⟨_, rfl⟩
        obtain ⟨y, hyk⟩ : ∃ y, ys[k]?.getD 0 = y := ⟨_, rfl⟩
        rw [hxk] at e1
        rw [hyk] at e2
        have HX := Lib.hid hxk
        have HY := Lib.hid hyk
        have HT := Lib.hid ht
        clear hc hc' hxk hyk ht
        have d1 : wr.cell? ⟨b, off + k, none⟩ = some (.int .u8 x) := (hw.cell (p := ⟨b, off + k, none⟩) hb).trans e1
        have d2 : wr.cell? ⟨b', off' + k, none⟩ = some (.int .u8 y) := (hw.cell (p := ⟨b', off' + k, none⟩) hb').trans e2
        clear e1 e2
        by_cases hxy : x = y
        · subst hxy
          go_wp2
          go_quiet (fail)
          go_wp2
          go_roundw
          case rel =>
            go_light
            refine ⟨k + 1, by omega, by go_num, ?_, by (repeat' (first | (with_reducible exact Below.refl _ _) | (with_reducible assumption) | (with_reducible refine below_drewN ?_ _) | (with_reducible refine Below.drew ?_) | ((with_reducible refine Below.alloc ?_ ?_ _); (rotate_left; focus (first | omega | (simp; done) | (simp; omega)))) | ((with_reducible refine Below.setCell ?_ ?_ _); (rotate_left; focus (first | omega | (simp; done) | (simp; omega)))) | (with_reducible refine Below.grown ?_ (by assumption) (by first | omega | (simp; omega)) (by simp [Value.ownBlock]; try omega)) | (with_reducible refine below_then ?_ (Aft.below _)) | (with_reducible apply below_then; rotate_left; assumption)))⟩
            exact take_more HT.out (by rw [hx.length]; exact hlt) (by rw [hy.length]; exact hlt) (HX.out.trans HY.out.symm)
          case measure => go_light; simp [intOf]; omega
        · have hxy' : (x == y) = false := by simpa using hxy
          have hxy2 : (x != y) = true := by simpa using hxy
          go_wp2
          go_quiet (fail)
          go_wp2
          go_ret
          refine ⟨ret_bool ?_, by (repeat' (first | (with_reducible exact Below.refl _ _) | (with_reducible assumption) | (with_reducible refine below_drewN ?_ _) | (with_reducible refine Below.drew ?_) | ((with_reducible refine Below.alloc ?_ ?_ _); (rotate_left; focus (first | omega | (simp; done) | (simp; omega)))) | ((with_reducible refine Below.setCell ?_ ?_ _); (rotate_left; focus (first | omega | (simp; done) | (simp; omega)))) | (with_reducible refine Below.grown ?_ (by assumption) (by first | omega | (simp; omega)) (by simp [Value.ownBlock]; try omega)) | (with_reducible refine below_then ?_ (Aft.below _)) | (with_reducible apply below_then; rotate_left; assumption)))⟩
          go_light
          have : xs ≠ ys := fun e => hxy (by rw [← HX.out, ← HY.out, e])
          simp [this]
      · go_wp2
        go_ret
        refine ⟨ret_bool ?_, by (repeat' (first | (with_reducible exact Below.refl _ _) | (with_reducible assumption) | (with_reducible refine below_drewN ?_ _) | (with_reducible refine Below.drew ?_) | ((with_reducible refine Below.alloc ?_ ?_ _); (rotate_left; focus (first | omega | (simp; done) | (simp; omega)))) | ((with_reducible refine Below.setCell ?_ ?_ _); (rotate_left; focus (first | omega | (simp; done) | (simp; omega)))) | (with_reducible refine Below.grown ?_ (by assumption) (by first | omega | (simp; omega)) (by simp [Value.ownBlock]; try omega)) | (with_reducible refine below_then ?_ (Aft.below _)) | (with_reducible apply below_then; rotate_left; assumption)))⟩
        go_light
        have hk2 : k = n := by omega
        subst hk2
        rw [List.take_of_length_le (by rw [hx.length]; omega), List.take_of_length_le (by rw [hy.length]; omega)] at ht
        simp [ht]
  · have hne : ((n : Int) == n') = false := by simp; omega
    have hne2 : ((n : Int) != n') = true := by simp; omega
    have hne3 : (n == n') = false := by simp; omega
    have hne4 : (n != n') = true := by simp; omega
    go_enter Try.func14, Try.ntmps14
    go_wp2
    go_ret
    refine ⟨ret_bool ?_, by (repeat' (first | (with_reducible exact Below.refl _ _) | (with_reducible assumption) | (with_reducible refine below_drewN ?_ _) | (with_reducible refine Below.drew ?_) | ((with_reducible refine Below.alloc ?_ ?_ _); (rotate_left; focus (first | omega | (simp; done) | (simp; omega)))) | ((with_reducible refine Below.setCell ?_ ?_ _); (rotate_left; focus (first | omega | (simp; done) | (simp; omega)))) | (with_reducible refine Below.grown ?_ (by assumption) (by first | omega | (simp; omega)) (by simp [Value.ownBlock]; try omega)) | (with_reducible refine below_then ?_ (Aft.below _)) | (with_reducible apply below_then; rotate_left; assumption)))⟩
    go_light
    have : xs ≠ ys := fun e => hn (by rw [← hx.length, ← hy.length, e])
    simp [this]
theorem BytesAt.nil (w : World) : BytesAt w none 0 [] := ⟨rfl, by omega, fun k => by simp, fun h => by omega⟩
theorem same_eq {w : World} {a a' : Option Addr} {n n' cap cap' : Nat} {xs ys : List Int} {b : Bool} (hx : BytesAt w a n xs) (hy : BytesAt w a' n' ys) (hb : decide (xs = ys) = b) :
    Calls Try.prog 14 #[.slice a n cap, .slice a' n' cap'] w fun e w' => e = .returned (.bool b) ∧ Below w.heap.size w w' := by
  subst hb; exact same_any hx hy
end Go.Proofs.Ytnjjejhniekdcaa
