/- The walks of the reference of the layer 'sums'. -/
import Derived.Test.YtnjjejhniekdcaaSumsB
import Derived.Test.YtnjjejhniekdcaaBytes
namespace Go.Proofs.Ytnjjejhniekdcaa
set_option linter.unusedVariables false
set_option linter.unusedSimpArgs false
open Go.RowKit
set_option maxRecDepth 100000
set_option maxHeartbeats 4000000
theorem own_empty (w : World) : OwnB (w.alloc (.cells #[] 5)) w.heap.size (.slice (some ⟨w.heap.size, 0, none⟩) 0 0) 0 [] :=
  ⟨own_made (n := 0) #[] (Nat.le_refl _) (by unfold maxLen; omega) rfl, fun k => by simp⟩
theorem BytesAt.set {w : World} {g len q : Nat} {zs : List Int} {x : Int} (h : BytesAt w (some ⟨g, 0, none⟩) len zs) (hq : q < len) (x0 : 0 ≤ x) (x1 : x < 256) : BytesAt (w.setCell ⟨g, q, none⟩ (.int .u8 x)) (some ⟨g, 0, none⟩) len (zs.set q x) := by
  have hl := h.length
  obtain ⟨b, off, e, hb, hc⟩ := h.cells (by omega)
  injection e with e; injection e with e1 e2; subst e1; subst e2
  refine ⟨by simpa using hl, h.most, fun k => ?_, fun _ => ⟨g, 0, rfl, by simpa using hb, fun k hk => ?_⟩⟩
  · by_cases hkq : k = q
    · subst hkq; rw [List.getElem?_set_self (by omega)]; exact ⟨x0, x1⟩
    · rw [List.getElem?_set_ne (by omega)]; exact h.byte k
  · by_cases hkq : k = q
    · subst hkq
      rw [List.getElem?_set_self (by omega), Nat.zero_add]
      have := hc k hk
      rw [Nat.zero_add] at this
      exact cell_set this
    · rw [List.getElem?_set_ne (by omega), Nat.zero_add]
      have := hc k hk
      rw [Nat.zero_add] at this
      exact cell_off (by omega) this
theorem shr128 (m : Nat) (hm : m < 8) : ∀ w, (Op.shift BinOp.shr IntKind.u8 128 IntKind.i64 (m : Int)).run Try.prog w = .ok (.int .u8 (128 / 2 ^ m)) w := by
  have hmc : m = 0 ∨ m = 1 ∨ m = 2 ∨ m = 3 ∨ m = 4 ∨ m = 5 ∨ m = 6 ∨ m = 7 := by omega
  rcases hmc with rfl | rfl | rfl | rfl | rfl | rfl | rfl | rfl <;> intro w <;> rfl
theorem xor8_bd {z : Int} {m : Nat} (h0 : 0 ≤ z) (h1 : z < 256) : 0 ≤ bits .xor .u8 z (128 / 2 ^ m) ∧ bits .xor .u8 z (128 / 2 ^ m) < 256 := by
  obtain ⟨a, rfl⟩ := Int.eq_ofNat_of_zero_le h0
  have h2 : 128 / 2 ^ m ≤ 128 := Nat.div_le_self _ _
  have e : (128 / 2 ^ m : Int) = ((128 / 2 ^ m : Nat) : Int) := by push_cast; rfl
  have e2 := u8_xor_nat a (128 / 2 ^ m) (by omega) (by omega)
  have hb : a ^^^ (128 / 2 ^ m) < 2 ^ 8 := Nat.xor_lt_two_pow (by omega) (by omega)
  rw [e]
  show 0 ≤ bits .xor .u8 (a : Int) _ ∧ bits .xor .u8 (a : Int) _ < 256
  rw [e2]
  omega
theorem flip_any {w : World} {a : Option Addr} {len cap : Nat} {zs : List Int} (h : BytesAt w a len zs) (hnone : a = none → cap = 0) (k : Nat) (hk : k < 8 * len) (i : Int) (hi : i = (k : Int)) :
    Calls Try.prog 15 #[.slice a len cap, .int .i64 i] w fun e w' => ∃ g c, e = .returned (.slice (some ⟨g, 0, none⟩) len c) ∧ w.heap.size ≤ g ∧ len ≤ c ∧ c ≤ 9223372036854775807 ∧ BytesAt w' (some ⟨g, 0, none⟩) len (flipZ zs k) ∧ Below w.heap.size w w' := by
  have hmost := h.most
  obtain ⟨q, hq⟩ : ∃ q, k / 8 = q := ⟨_, rfl⟩
  obtain ⟨m, hm⟩ : ∃ m, k % 8 = m := ⟨_, rfl⟩
  have hq1 : q < len := by omega
  have hm1 : m < 8 := by omega
  have iq : i / 8 = (q : Int) := by omega
  have im : i % 8 = (m : Int) := by omega
  have i0 : 0 ≤ i := by omega
  have i1 : i ≤ 1125899906842624 := by omega
  have wq : IntKind.i64.wrap (i.tdiv 8) = (q : Int) := by rw [Int.tdiv_eq_ediv_of_nonneg i0, iq]; exact IntWalk.i64_in _ (by omega)
  have hsh : ∀ w, (Op.shift BinOp.shr IntKind.u8 128 IntKind.i64 (i.tmod 8)).run Try.prog w = .ok (.int .u8 (128 / 2 ^ m)) w := by
    rw [Int.tmod_eq_emod_of_nonneg i0, im]
    exact shr128 m hm1
  have hq2 : (q : Int) < len := by omega
  have HI := Lib.hid hi
  have HQ := Lib.hid hq
  have HM := Lib.hid hm
  clear hi hq hm
  go_enter Try.func15, Try.ntmps15
  go_wp2_with (at_builtin; refine wpList_append_bytes rfl _ _ rfl (v := .slice (some ⟨w.heap.size, 0, none⟩) 0 0) rfl (own_empty w) rfl (h.below ?hb1) hnone ?hb2 ?hb3 ?_; (case hb1 => (repeat' (first | (with_reducible exact Below.refl _ _) | (with_reducible assumption) | (with_reducible refine below_drewN ?_ _) | (with_reducible refine Below.drew ?_) | ((with_reducible refine Below.alloc ?_ ?_ _); (rotate_left; focus (first | omega | (simp; done) | (simp; omega)))) | ((with_reducible refine Below.setCell ?_ ?_ _); (rotate_left; focus (first | omega | (simp; done) | (simp; omega)))) | (with_reducible refine Below.grown ?_ (by assumption) (by first | omega | (simp; omega)) (by simp [Value.ownBlock]; try omega)) | (with_reducible refine below_then ?_ (Aft.below _)) | (with_reducible apply below_then; rotate_left; assumption)))); (case hb2 => omega); (case hb3 => (simp; done)); intro v2 w2 hown hgr; simp only [Nat.zero_add, List.nil_append] at hown; obtain ⟨a2, c2, rfl, hc1, hc2, hB2, hF, hN⟩ := hown.at (by omega))
  obtain ⟨g, hg⟩ : ∃ g, a2 = some ⟨g, 0, none⟩ := by
    rcases hN with hN | hN
    · obtain ⟨b, off, e, _⟩ := hB2.cells (by omega)
      rw [hN] at e; cases e
    · exact hN
  subst hg
  obtain ⟨hF1, _, hF2, hF3⟩ := hF g 0 rfl
  obtain ⟨b, off, e, hb, hcl⟩ := hB2.cells (by omega)
  injection e with e; injection e with e1 e2; subst e1; subst e2
  have hcq := hcl q hq1
  rw [Nat.zero_add] at hcq
  have hy := hB2.byte q
  obtain ⟨z, hz⟩ : ∃ z, zs[q]?.getD 0 = z := ⟨_, rfl⟩
  rw [hz] at hcq hy
  have HZ := Lib.hid hz
  clear hcl hz
  have hw : ∃ w3 : World, w3 = w2.drew := ⟨_, rfl⟩
  obtain ⟨w3, hw3⟩ := hw
  have B3 : BytesAt w3 (some ⟨g, 0, none⟩) len zs := by rw [hw3]; exact hB2.below ((Below.refl _ _).drew)
  have c3 : w3.cell? ⟨g, q, none⟩ = some (.int .u8 z) := by rw [hw3]; exact hcq
  have f3 : w3.frozen? ⟨g, q, none⟩ = false := by rw [hw3]; exact hF3 q
  have s3 : Below w.heap.size w w3 := by rw [hw3]; exact (((Below.refl _ _).alloc (Nat.le_refl _) _).trans hgr).drew
  refine region_tail 13 (by kernel_rfl) (by kernel_rfl) ?_
  rw [← hw3]
  clear hw3 hcq hF3 hF2 hb hgr hown hB2 hN
  simp only [List.take_succ_cons, List.take_zero, List.drop_succ_cons, List.drop_zero]
  repeat still_step
  refine wpStill_nil ?_
  go_wp2
  go_ret
  go_light
  have hx := xor8_bd (z := z) (m := m) hy.1 hy.2
  have hfl : flipZ zs k = zs.set q (bits .xor .u8 z (128 / 2 ^ m)) := by unfold flipZ; rw [HQ.out, HM.out, HZ.out]
  refine ⟨g, c2, rfl, hF1, hc1, hc2, ?_, by (repeat' (first | (with_reducible exact Below.refl _ _) | (with_reducible assumption) | (with_reducible refine below_drewN ?_ _) | (with_reducible refine Below.drew ?_) | ((with_reducible refine Below.alloc ?_ ?_ _); (rotate_left; focus (first | omega | (simp; done) | (simp; omega)))) | ((with_reducible refine Below.setCell ?_ ?_ _); (rotate_left; focus (first | omega | (simp; done) | (simp; omega)))) | (with_reducible refine Below.grown ?_ (by assumption) (by first | omega | (simp; omega)) (by simp [Value.ownBlock]; try omega)) | (with_reducible refine below_then ?_ (Aft.below _)) | (with_reducible apply below_then; rotate_left; assumption)))⟩
  rw [hfl]
  exact B3.set hq1 hx.1 hx.2
end Go.Proofs.Ytnjjejhniekdcaa
