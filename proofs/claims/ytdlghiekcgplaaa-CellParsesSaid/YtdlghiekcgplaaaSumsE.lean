/- The walks of the layer 'sums': the three checks, how a header's check differs, and which bit that tells. -/
import Derived.Test.YtdlghiekcgplaaaSumsC
import Derived.Test.YtdlghiekcgplaaaSame
import Derived.Test.YtdlghiekcgplaaaKit3
import Derived.KernelRfl
import Derived.WalkLawsBesides
namespace Go.Proofs.Ytdlghiekcgplaaa
set_option linter.unusedVariables false
set_option linter.unusedSimpArgs false
open Go.RowKit
set_option maxRecDepth 100000
set_option maxHeartbeats 4000000
theorem rest_at {w : World} {a : Option Addr} {len cap : Nat} {zs : List Int} (h : BytesAt w a len zs) (r top by' : Int) :
    Calls Try.prog 52 #[.slice a len cap, .int .u32 r, .int .u32 top, .int .u32 by'] w fun e w' => e = .returned (.int .u32 (restZ zs r top by')) ∧ Below w.heap.size w w' :=
  rest_any a len cap zs h.length (by have := h.most; omega) h.byte r top by' w h.cells
attribute [local irreducible] restZ
theorem eight_at {w : World} {a : Option Addr} {len cap : Nat} {zs : List Int} (h : BytesAt w a len zs) :
    Calls Try.prog 50 #[.slice a len cap] w fun e w' => e = .returned (.int .u8 (e8 zs)) ∧ Below w.heap.size w w' := by
  go_enter Try.func50, Try.ntmps50
  go_wp2_with (go_at_call 52; refine (rest_at h _ _ _).mono ?_; rintro e w' ⟨rfl, hb⟩)
  go_ret
  exact ⟨ret_int (eight_eq zs), hb⟩
theorem ten_at {w : World} {a : Option Addr} {len cap : Nat} {zs : List Int} (h : BytesAt w a len zs) :
    Calls Try.prog 44 #[.slice a len cap] w fun e w' => e = .returned (.int .u16 (t10 zs)) ∧ Below w.heap.size w w' := by
  go_enter Try.func44, Try.ntmps44
  go_wp2_with (go_at_call 52; refine (rest_at h _ _ _).mono ?_; rintro e w' ⟨rfl, hb⟩)
  go_ret
  exact ⟨ret_int (ten_eq zs), hb⟩
/-- how a header's check differs. -/
def synd (zs : List Int) : Int := if zs = [] then 0 else bits .xor .u8 (zs[zs.length - 1]?.getD 0) (e8 zs.dropLast)
theorem BytesAt.head {w : World} {a : Option Addr} {len n : Nat} {zs : List Int} (h : BytesAt w a len zs) (hn : n ≤ len) (hp : 0 < len) : BytesAt w a n (zs.take n) := by
  refine ⟨by simp [h.length]; omega, by have := h.most; omega, fun k => ?_, fun h0 => ?_⟩
  · by_cases hk : k < n
    · rw [List.getElem?_take_of_lt hk]; exact h.byte k
    · rw [List.getElem?_take_eq_none (by omega)]; simp
  · obtain ⟨b, off, e1, e2, e3⟩ := h.cells hp
    refine ⟨b, off, e1, e2, fun k hk => ?_⟩
    rw [List.getElem?_take_of_lt hk]
    exact e3 k (by omega)
theorem synd_at {w : World} {a : Option Addr} {len cap : Nat} {zs : List Int} (h : BytesAt w a len zs) (hcap : len ≤ cap) (hcap2 : cap ≤ 9223372036854775807) :
    Calls Try.prog 53 #[.slice a len cap] w fun e w' => e = .returned (.int .u8 (synd zs)) ∧ Below w.heap.size w w' := by
  by_cases h0 : len = 0
  · subst h0
    have hz : zs = [] := List.eq_nil_of_length_eq_zero h.length
    go_enter Try.func53, Try.ntmps53
    go_wp2
    go_ret
    exact ⟨ret_int (by simp [synd, hz]), by (repeat' (first | (with_reducible exact Below.refl _ _) | (with_reducible assumption) | (with_reducible refine below_drewN ?_ _) | (with_reducible refine Below.drew ?_) | ((with_reducible refine Below.alloc ?_ ?_ _); (rotate_left; focus (first | omega | (simp; done) | (simp; omega)))) | ((with_reducible refine Below.setCell ?_ ?_ _); (rotate_left; focus (first | omega | (simp; done) | (simp; omega)))) | (with_reducible refine Below.grown ?_ (by assumption) (by first | omega | (simp; omega)) (by simp [Value.ownBlock]; try omega)) | (with_reducible refine below_then ?_ (Aft.below _)) | (with_reducible apply below_then; rotate_left; assumption)))⟩
  · obtain ⟨b, off, rfl, hb, hc⟩ := h.cells (by omega)
    have hm := h.most
    obtain ⟨n, rfl⟩ : ∃ n, len = n + 1 := ⟨len - 1, by omega⟩
    have hi := hc n (by omega)
    clear hc
    have hl : (0 : Int) ≤ n := by omega
    have HH : BytesAt w (some ⟨b, off, none⟩) n (zs.take n) := h.head (by omega) (by omega)
    have hlen : zs.length = n + 1 := h.length
    have hds : zs.take n = zs.dropLast := by rw [List.dropLast_eq_take, hlen]; rfl
    have hsy : synd zs = bits .xor .u8 (zs[n]?.getD 0) (e8 (zs.take n)) := by
      unfold synd
      rw [if_neg (fun e => by rw [e] at hlen; simp at hlen), hlen, hds]; rfl
    rw [hsy]
    generalize zs[n]?.getD 0 = zl at hi ⊢
    generalize zs.take n = zh at HH ⊢
    clear hsy hds hlen h
    go_enter Try.func53, Try.ntmps53
    go_wp2
    have hn1 : (n : Int) < (n : Int) + 1 := by omega
    have hn2 : (n : Int) ≤ cap := by omega
    have hn3 : n < n + 1 := by omega
    have hn4 : n ≤ cap := by omega
    refine wp_region_hold (by kernel_rfl) (by kernel_rfl) ?_
    (repeat (go_big_quiet_step ((first | (go_at_call 50; exact aft_of (eight_at (HH.below (Aft.below _))))))))
    refine wpQuiet_nil ?_
    intro _ hw'
    obtain ⟨g, hw''⟩ := hw'
    subst hw''
    have hg := g.below
    go_wp2
    go_ret
    exact ⟨ret_int (by simp), by (repeat' (first | (with_reducible exact Below.refl _ _) | (with_reducible assumption) | (with_reducible refine below_drewN ?_ _) | (with_reducible refine Below.drew ?_) | ((with_reducible refine Below.alloc ?_ ?_ _); (rotate_left; focus (first | omega | (simp; done) | (simp; omega)))) | ((with_reducible refine Below.setCell ?_ ?_ _); (rotate_left; focus (first | omega | (simp; done) | (simp; omega)))) | (with_reducible refine Below.grown ?_ (by assumption) (by first | omega | (simp; omega)) (by simp [Value.ownBlock]; try omega)) | (with_reducible refine below_then ?_ (Aft.below _)) | (with_reducible apply below_then; rotate_left; assumption)))⟩
end Go.Proofs.Ytdlghiekcgplaaa
