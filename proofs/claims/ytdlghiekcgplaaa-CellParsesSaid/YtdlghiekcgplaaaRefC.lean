/- The walks of the reference's checks. -/
import Derived.Test.YtdlghiekcgplaaaRestW
import Derived.Test.YtdlghiekcgplaaaSumsE
namespace Go.Proofs.Ytdlghiekcgplaaa
set_option linter.unusedVariables false
set_option linter.unusedSimpArgs false
open Go.RowKit Crc
set_option maxRecDepth 100000
set_option maxHeartbeats 4000000
theorem rest8_lit {w : World} {a : Option Addr} {len cap : Nat} {bs : List Bool} (h : IntsAt w a len (bs.map bitI)) (hnone : a = none → cap = 0) (hlen : len ≤ 1000000) :
    Calls Try.prog 47 #[.slice a len cap, .int .u64 7, .int .i64 8, .bool false] w fun e w' => e = .returned (.int .u64 ((crcV 7#8 0#8 bs).toNat : Int)) ∧ Below w.heap.size w w' :=
  restRef_f (cap := cap) 7#8 h hnone hlen (by decide) (by decide) 0#8 rfl
theorem rest10_lit {w : World} {a : Option Addr} {len cap : Nat} {bs : List Bool} (h : IntsAt w a len (bs.map bitI)) (hnone : a = none → cap = 0) (hlen : len ≤ 1000000) :
    Calls Try.prog 47 #[.slice a len cap, .int .u64 563, .int .i64 10, .bool false] w fun e w' => e = .returned (.int .u64 ((crcV 563#10 0#10 bs).toNat : Int)) ∧ Below w.heap.size w w' :=
  restRef_f (cap := cap) 563#10 h hnone hlen (by decide) (by decide) 0#10 rfl
theorem rest32_lit {w : World} {a : Option Addr} {len cap : Nat} {bs : List Bool} (h : IntsAt w a len (bs.map bitI)) (hnone : a = none → cap = 0) (hlen : len ≤ 1000000) :
    Calls Try.prog 47 #[.slice a len cap, .int .u64 79764919, .int .i64 32, .bool true] w fun e w' => e = .returned (.int .u64 ((crcV 79764919#32 (BitVec.allOnes 32) bs).toNat : Int)) ∧ Below w.heap.size w w' :=
  restRef_t (cap := cap) 79764919#32 h hnone hlen (by decide) (by decide) (BitVec.allOnes 32) rfl
theorem refBits_at {w : World} {a : Option Addr} {len cap : Nat} {zs : List Int} (h : BytesAt w a len zs) (hlen : len ≤ 100000) :
    Calls Try.prog 46 #[.slice a len cap] w fun e w' => ∃ b c, e = .returned (.slice b (8 * len) c) ∧ IntsAt w' b (8 * len) ((bitsL zs).map bitI) ∧ (b = none → c = 0) ∧ 8 * len ≤ c ∧ c ≤ 9223372036854775807 ∧ Below w.heap.size w w' :=
  (refBits_any h (by omega)).mono fun e w' hh => by
    obtain ⟨v, rfl, ho, hb⟩ := hh
    obtain ⟨b, c, rfl, h1, h2, h3, h4, h5⟩ := ho.at (by omega)
    exact ⟨b, c, rfl, h3, (fun hn => by rcases h5 with h5 | ⟨x, h5⟩; exact h5.2; rw [h5] at hn; cases hn), h1, h2, hb⟩
theorem e8_of (zs : List Int) : bits .xor .u8 ((crcV 7#8 0#8 (bitsL zs)).toNat : Int) 85 = e8 zs := by
  have h := eight_eq zs
  rw [rest8] at h
  have hl := (c8 zs).isLt
  rw [Int.emod_eq_of_lt (by omega) (by omega)] at h
  exact h
theorem refEight_at {w : World} {a : Option Addr} {len cap : Nat} {zs : List Int} (h : BytesAt w a len zs) (hlen : len ≤ 100000) :
    Calls Try.prog 45 #[.slice a len cap] w fun e w' => e = .returned (.int .u8 (e8 zs)) ∧ Below w.heap.size w w' := by
  go_enter Try.func45, Try.ntmps45
  go_wp2_with (first | (go_at_call 46; (with_reducible refine (refBits_at h hlen).mono ?_); rintro e w1 ⟨b, c, rfl, hI, hn, hc1, hc2, hb1⟩) | (go_at_call 47; (with_reducible refine (rest8_lit hI hn ?hl).mono ?_); (case hl => omega); rintro e w2 ⟨rfl, hb2⟩))
  go_ret
  exact ⟨ret_int (e8_of zs), by (repeat' (first | (with_reducible exact Below.refl _ _) | (with_reducible assumption) | (with_reducible refine below_drewN ?_ _) | (with_reducible refine Below.drew ?_) | ((with_reducible refine Below.alloc ?_ ?_ _); (rotate_left; focus (first | omega | (simp; done) | (simp; omega)))) | ((with_reducible refine Below.setCell ?_ ?_ _); (rotate_left; focus (first | omega | (simp; done) | (simp; omega)))) | (with_reducible refine Below.grown ?_ (by assumption) (by first | omega | (simp; omega)) (by simp [Value.ownBlock]; try omega)) | (with_reducible refine below_then ?_ (Aft.below _)) | (with_reducible apply below_then; rotate_left; assumption)))⟩
theorem t10_of (zs : List Int) : ((crcV 563#10 0#10 (bitsL zs)).toNat : Int) = t10 zs := by
  have h := ten_eq zs
  have hl := (c10 zs).isLt
  rw [rest10, IntKind.wrap_u16, Int.emod_eq_of_lt (by omega) (by omega)] at h
  exact h
theorem l32_of (zs : List Int) : bits .xor .u32 IntKind.u32.max ((crcV 79764919#32 4294967295#32 (bitsL zs)).toNat : Int) = l32 zs := by
  have h := long_eq zs
  rw [rest32] at h
  exact h
theorem refSynd_at {w : World} {a : Option Addr} {len cap : Nat} {zs : List Int} (h : BytesAt w a len zs) (hcap : len ≤ cap) (hcap2 : cap ≤ 9223372036854775807) (hlen : len ≤ 100000) :
    Calls Try.prog 35 #[.slice a len cap] w fun e w' => e = .returned (.int .u8 (synd zs)) ∧ Below w.heap.size w w' := by
  by_cases h0 : len = 0
  · subst h0
    have hz : zs = [] := List.eq_nil_of_length_eq_zero h.length
    go_enter Try.func35, Try.ntmps35
    go_wp2
    go_ret
    exact ⟨ret_int (by simp [synd, hz]), by (repeat' (first | (with_reducible exact Below.refl _ _) | (with_reducible assumption) | (with_reducible refine below_drewN ?_ _) | (with_reducible refine Below.drew ?_) | ((with_reducible refine Below.alloc ?_ ?_ _); (rotate_left; focus (first | omega | (simp; done) | (simp; omega)))) | ((with_reducible refine Below.setCell ?_ ?_ _); (rotate_left; focus (first | omega | (simp; done) | (simp; omega)))) | (with_reducible refine Below.grown ?_ (by assumption) (by first | omega | (simp; omega)) (by simp [Value.ownBlock]; try omega)) | (with_reducible refine below_then ?_ (Aft.below _)) | (with_reducible apply below_then; rotate_left; assumption)))⟩
  · obtain ⟨b, off, rfl, hb, hc⟩ := h.cells (by omega)
    have hm := h.most
    obtain ⟨n, rfl⟩ : ∃ n, len = n + 1 := ⟨len - 1, by omega⟩
    have hi := hc n (by omega)
    clear hc
    have hl : (0 : Int) ≤ n := by omega
    have HH : BytesAt w (some ⟨b, off, none⟩) n (zs.take n) := h.head (by omega) (by omega)
    have hzl : zs.length = n + 1 := h.length
    have hds : zs.take n = zs.dropLast := by rw [List.dropLast_eq_take, hzl]; rfl
    have hsy : synd zs = bits .xor .u8 (zs[n]?.getD 0) (e8 (zs.take n)) := by
      unfold synd
      rw [if_neg (fun e => by rw [e] at hzl; simp at hzl), hzl, hds]; rfl
    rw [hsy]
    generalize zs[n]?.getD 0 = zl at hi ⊢
    generalize zs.take n = zh at HH ⊢
    clear hsy hds hzl h
    have hn1 : (n : Int) < (n : Int) + 1 := by omega
    have hn2 : (n : Int) ≤ cap := by omega
    have hn3 : n < n + 1 := by omega
    have hn4 : n ≤ cap := by omega
    have hn5 : ((n : Int) + 1 == 0) = false := by simp; omega
    go_enter Try.func35, Try.ntmps35
    go_wp2
    refine wp_region_hold (by kernel_rfl) (by kernel_rfl) ?_
    (repeat (go_big_quiet_step ((first | (go_at_call 45; exact aft_of (refEight_at (HH.below (Aft.below _)) (by omega)))))))
    refine wpQuiet_nil ?_
    intro _ hw'
    obtain ⟨g, hw''⟩ := hw'
    subst hw''
    have hg := g.below
    go_wp2
    go_ret
    exact ⟨ret_int (by simp), by (repeat' (first | (with_reducible exact Below.refl _ _) | (with_reducible assumption) | (with_reducible refine below_drewN ?_ _) | (with_reducible refine Below.drew ?_) | ((with_reducible refine Below.alloc ?_ ?_ _); (rotate_left; focus (first | omega | (simp; done) | (simp; omega)))) | ((with_reducible refine Below.setCell ?_ ?_ _); (rotate_left; focus (first | omega | (simp; done) | (simp; omega)))) | (with_reducible refine Below.grown ?_ (by assumption) (by first | omega | (simp; omega)) (by simp [Value.ownBlock]; try omega)) | (with_reducible refine below_then ?_ (Aft.below _)) | (with_reducible apply below_then; rotate_left; assumption)))⟩
end Go.Proofs.Ytdlghiekcgplaaa
