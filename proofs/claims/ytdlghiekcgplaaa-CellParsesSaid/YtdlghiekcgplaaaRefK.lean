/- The walk of the reference's Bit. -/
import Derived.Test.YtdlghiekcgplaaaRefC
import Derived.Test.YtdlghiekcgplaaaSumsT
import Derived.Test.YtdlghiekcgplaaaSumsK
namespace Go.Proofs.Ytdlghiekcgplaaa
set_option linter.unusedVariables false
set_option linter.unusedSimpArgs false
open Go.RowKit Crc
set_option maxRecDepth 100000
set_option maxHeartbeats 4000000
def bitZ (s : Int) : Int := match bitOf s with
  | some k => k
  | none => -1
attribute [local irreducible] synd
theorem refBit_any (s : Int) (w : World) :
    Calls Try.prog 56 #[.int .u8 s] w fun e w' => e = .returned (.int .i64 (bitZ s)) ∧ Below w.heap.size w w' := by
  go_enter Try.func56, Try.ntmps56
  go_wp2
  have HR : BytesAt (w.alloc (.cells #[.int .u8 0, .int .u8 0, .int .u8 0, .int .u8 0, .int .u8 85] 5)) (some ⟨w.heap.size, 0, none⟩) 5 [0, 0, 0, 0, 85] := bytes_lit [0, 0, 0, 0, 85] (by decide) (by decide)
  have HB0 : Below w.heap.size w (w.alloc (.cells #[.int .u8 0, .int .u8 0, .int .u8 0, .int .u8 0, .int .u8 85] 5)) := by (repeat' (first | (with_reducible exact Below.refl _ _) | (with_reducible assumption) | (with_reducible refine below_drewN ?_ _) | (with_reducible refine Below.drew ?_) | ((with_reducible refine Below.alloc ?_ ?_ _); (rotate_left; focus (first | omega | (simp; done) | (simp; omega)))) | ((with_reducible refine Below.setCell ?_ ?_ _); (rotate_left; focus (first | omega | (simp; done) | (simp; omega)))) | (with_reducible refine Below.grown ?_ (by assumption) (by first | omega | (simp; omega)) (by simp [Value.ownBlock]; try omega)) | (with_reducible refine below_then ?_ (Aft.below _)) | (with_reducible apply below_then; rotate_left; assumption)))
  generalize w.alloc (.cells #[.int .u8 0, .int .u8 0, .int .u8 0, .int .u8 0, .int .u8 85] 5) = w1 at HR HB0 ⊢
  go_loopw [2, 4] (fun s2 s4 wr => ∃ i : Nat, i ≤ 40 ∧ s2 = .int .i64 0 ∧ s4 = .int .i64 i ∧ Hid (bitOf s = findZ s (40 - i) i) ∧ Below w.heap.size w wr ∧ Below w1.heap.size w1 wr) (fun s2 s4 wr => 40 - (intOf s4).toNat)
  case atStart => exact ⟨0, by omega, rfl, rfl, Lib.hid rfl, HB0, Below.refl _ _⟩
  case round =>
    obtain ⟨i, hi, rfl, rfl, HT, hBw, hB1⟩ := hrel
    by_cases hlt : i < 40
    · obtain ⟨t, ht⟩ : ∃ t, tabZ i = t := ⟨_, rfl⟩
      have ht2 : synd (flipZ [0, 0, 0, 0, 85] i) = t := ht
      have HT0 := Lib.hid ht
      clear ht
      by_cases hts : t = s
      · subst hts
        go_wp2_with (first | (go_at_call 33; (with_reducible refine (flip_any (HR.below ?hk1) (fun h => nomatch h) i ?hk2 _ ?hk3).mono ?_); (case hk1 => (repeat' (first | (with_reducible exact Below.refl _ _) | (with_reducible assumption) | (with_reducible refine below_drewN ?_ _) | (with_reducible refine Below.drew ?_) | ((with_reducible refine Below.alloc ?_ ?_ _); (rotate_left; focus (first | omega | (simp; done) | (simp; omega)))) | ((with_reducible refine Below.setCell ?_ ?_ _); (rotate_left; focus (first | omega | (simp; done) | (simp; omega)))) | (with_reducible refine Below.grown ?_ (by assumption) (by first | omega | (simp; omega)) (by simp [Value.ownBlock]; try omega)) | (with_reducible refine below_then ?_ (Aft.below _)) | (with_reducible apply below_then; rotate_left; assumption)))); (case hk2 => omega); (case hk3 => first | rfl | omega); rintro e w2 ⟨g, c, rfl, hg, hc1, hc2, hF, hb2⟩) | (go_at_call 35; (with_reducible refine (refSynd_at hF ?hl1 ?hl2 ?hl3).mono ?_); (case hl1 => omega); (case hl2 => omega); (case hl3 => omega); rw [ht2]; rintro e w3 ⟨rfl, hb3⟩))
        go_ret
        go_light
        refine ⟨ret_int ?_, by (repeat' (first | (with_reducible exact Below.refl _ _) | (with_reducible assumption) | (with_reducible refine below_drewN ?_ _) | (with_reducible refine Below.drew ?_) | ((with_reducible refine Below.alloc ?_ ?_ _); (rotate_left; focus (first | omega | (simp; done) | (simp; omega)))) | ((with_reducible refine Below.setCell ?_ ?_ _); (rotate_left; focus (first | omega | (simp; done) | (simp; omega)))) | (with_reducible refine Below.grown ?_ (by assumption) (by first | omega | (simp; omega)) (by simp [Value.ownBlock]; try omega)) | (with_reducible refine below_then ?_ (Aft.below _)) | (with_reducible apply below_then; rotate_left; assumption)))⟩
        have h40 : 40 - i = (39 - i) + 1 := by omega
        have e : bitOf t = some i := by
          rw [HT.out, h40]; unfold findZ; rw [if_pos HT0.out]
        unfold bitZ; rw [e]
      · have hne : (t == s) = false := by simpa using hts
        go_wp2_with (first | (go_at_call 33; (with_reducible refine (flip_any (HR.below ?hk1) (fun h => nomatch h) i ?hk2 _ ?hk3).mono ?_); (case hk1 => (repeat' (first | (with_reducible exact Below.refl _ _) | (with_reducible assumption) | (with_reducible refine below_drewN ?_ _) | (with_reducible refine Below.drew ?_) | ((with_reducible refine Below.alloc ?_ ?_ _); (rotate_left; focus (first | omega | (simp; done) | (simp; omega)))) | ((with_reducible refine Below.setCell ?_ ?_ _); (rotate_left; focus (first | omega | (simp; done) | (simp; omega)))) | (with_reducible refine Below.grown ?_ (by assumption) (by first | omega | (simp; omega)) (by simp [Value.ownBlock]; try omega)) | (with_reducible refine below_then ?_ (Aft.below _)) | (with_reducible apply below_then; rotate_left; assumption)))); (case hk2 => omega); (case hk3 => first | rfl | omega); rintro e w2 ⟨g, c, rfl, hg, hc1, hc2, hF, hb2⟩) | (go_at_call 35; (with_reducible refine (refSynd_at hF ?hl1 ?hl2 ?hl3).mono ?_); (case hl1 => omega); (case hl2 => omega); (case hl3 => omega); rw [ht2]; rintro e w3 ⟨rfl, hb3⟩))
        go_roundw
        case rel =>
          go_light
          refine ⟨i + 1, by omega, rfl, by go_num, Lib.hid ?_, by (repeat' (first | (with_reducible exact Below.refl _ _) | (with_reducible assumption) | (with_reducible refine below_drewN ?_ _) | (with_reducible refine Below.drew ?_) | ((with_reducible refine Below.alloc ?_ ?_ _); (rotate_left; focus (first | omega | (simp; done) | (simp; omega)))) | ((with_reducible refine Below.setCell ?_ ?_ _); (rotate_left; focus (first | omega | (simp; done) | (simp; omega)))) | (with_reducible refine Below.grown ?_ (by assumption) (by first | omega | (simp; omega)) (by simp [Value.ownBlock]; try omega)) | (with_reducible refine below_then ?_ (Aft.below _)) | (with_reducible apply below_then; rotate_left; assumption))), by (repeat' (first | (with_reducible exact Below.refl _ _) | (with_reducible assumption) | (with_reducible refine below_drewN ?_ _) | (with_reducible refine Below.drew ?_) | ((with_reducible refine Below.alloc ?_ ?_ _); (rotate_left; focus (first | omega | (simp; done) | (simp; omega)))) | ((with_reducible refine Below.setCell ?_ ?_ _); (rotate_left; focus (first | omega | (simp; done) | (simp; omega)))) | (with_reducible refine Below.grown ?_ (by assumption) (by first | omega | (simp; omega)) (by simp [Value.ownBlock]; try omega)) | (with_reducible refine below_then ?_ (Aft.below _)) | (with_reducible apply below_then; rotate_left; assumption)))⟩
          have h40 : 40 - i = (40 - (i + 1)) + 1 := by omega
          rw [HT.out, h40]
          show (if tabZ i = s then some i else findZ s (40 - (i + 1)) (i + 1)) = _
          rw [if_neg (by rw [HT0.out]; exact hts)]
        case measure => go_light; simp [intOf]; omega
    · obtain rfl : i = 40 := by omega
      go_wp2
      go_ret
      go_light
      refine ⟨ret_int ?_, hBw⟩
      have e : bitOf s = none := HT.out
      unfold bitZ; rw [e]
end Go.Proofs.Ytdlghiekcgplaaa
