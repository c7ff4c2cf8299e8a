/- The reference's Build and Seal of layer 4. -/
import Derived.Test.YtnjjejhniekdcaaCellM
import Derived.Test.YtnjjejhniekdcaaRefC
import Derived.Lib.SliceRun
namespace Go.Proofs.Ytnjjejhniekdcaa
set_option linter.unusedVariables false
set_option linter.unusedSimpArgs false
open Go.RowKit Crc
set_option maxRecDepth 100000
set_option maxHeartbeats 4000000
theorem eq_nil27 (a : Option Addr) (n c : Nat) (w : World) : (binOp .eql 32 (.slice a n c) (.slice none 0 0)).run Try.prog w = .ok (.bool a.isNone) w := Lib.run_eql_slice_nil w _ _ a n c 0 0 Try.underlying32
theorem IntsAt.headB {w : World} {a : Option Addr} {n m : Nat} {bs : List Bool} (h : IntsAt w a n (bs.map bitI)) (hm : m ≤ n) (hp : 0 < m) : IntsAt w a m ((bs.take m).map bitI) := by
  have hl := h.length
  rw [List.length_map] at hl
  refine ⟨by simp; omega, Nat.le_trans hm h.most, fun _ => ?_⟩
  obtain ⟨b, off, h1, h2, h3⟩ := h.cells (by omega)
  refine ⟨b, off, h1, h2, fun k hk => ?_⟩
  have := h3 k (by omega)
  rw [this]
  congr 2
  rw [List.getElem?_map, List.getElem?_map, List.getElem?_take_of_lt hk]
theorem refSeal_any {zs : List Int} {a : Option Addr} {cap : Nat} (w : World) (HZ : BytesAt w a 48 zs) (na : a = none → cap = 0) :
    Calls Try.prog 31 #[.slice a 48 cap] w fun e w' => ∃ a' c', e = .returned (.slice a' 48 c') ∧ BytesAt w' a' 48 (sealZ zs) ∧ (a' = none → c' = 0) ∧ Below w.heap.size w w' := by
  have hl : zs.length = 48 := HZ.length
  have hb : allB zs := fun z hz => by
    obtain ⟨k, hk, rfl⟩ := List.getElem_of_mem hz
    have := HZ.byte k
    rw [List.getElem?_eq_getElem hk] at this
    exact this
  obtain ⟨n, hn⟩ : ∃ n, regN zs = n := ⟨_, rfl⟩
  have hnb : 0 ≤ n ∧ n < 1024 := by rw [← hn]; exact regN_bd zs
  have hnn : ((crcV 563#10 0#10 ((bitsL zs).take 374)).toNat : Int) = n := hn
  obtain ⟨z, hz⟩ : ∃ z, zs[46]?.getD 0 = z := ⟨_, rfl⟩
  have hzb : 0 ≤ z ∧ z < 256 := by rw [← hz]; exact byte_B hb 46
  have HS : (zs.set 46 (z / 4 * 4 + n / 256)).set 47 (n % 256) = sealZ zs := by unfold sealZ; rw [hz, hn]
  have HN := Lib.hid hnn
  have HL := Lib.hid hl
  have HZZ := Lib.hid hz
  clear hn hnn hl hz
  go_enter Try.func31, Try.ntmps31
  go_wp2_with (first | (go_at_call 38; (with_reducible refine (refBits_at HZ (by omega)).mono ?_); rintro e w1 ⟨b, c, rfl, hI, hbn, hc1, hc2, hb_w1⟩; have hs1 := hb_w1.size) | (go_at_call 39; (refine (rest10_lit (bs := (bitsL zs).take 374) (hI.headB (by omega) (by omega)) hbn (by omega)).mono ?_); rw [HN.out]; rintro e w2 ⟨rfl, hb_w2⟩; have hs2 := hb_w2.size) | (at_builtin; refine wpList_append_bytes rfl _ _ rfl (v := .slice (some ⟨w2.heap.size, 0, none⟩) 0 0) (n := 0) (xs := []) (ad := a) (m := 48) (c := cap) (ys := zs) (base := w2.heap.size) rfl (own_empty w2) rfl ?hd2 na (by decide) ?hd3 ?hdx; (case hd2 => exact HZ.below (by (repeat' (first | (with_reducible exact Below.refl _ _) | (with_reducible assumption) | (with_reducible refine below_drewN ?_ _) | (with_reducible refine Below.drew ?_) | ((with_reducible refine Below.alloc ?_ ?_ _); (rotate_left; focus (first | omega | (simp; done) | (simp; omega)))) | ((with_reducible refine Below.setCell ?_ ?_ _); (rotate_left; focus (first | omega | (simp; done) | (simp; omega)))) | (with_reducible refine Below.grown ?_ (by assumption) (by first | omega | (simp; omega)) (by simp [Value.ownBlock]; try omega)) | (with_reducible refine below_then ?_ (Aft.below _)) | (with_reducible apply below_then; rotate_left; assumption))))); (case hd3 => (simp; done)); intro v5 w5 hown5 hgr5; simp only [Nat.zero_add, List.nil_append] at hown5; have hs5 := hgr5.size; have hB5 : Below w.heap.size w w5 := (by refine Below.trans ?_ (hgr5.mono (by omega)); (repeat' (first | (with_reducible exact Below.refl _ _) | (with_reducible assumption) | (with_reducible refine below_drewN ?_ _) | (with_reducible refine Below.drew ?_) | ((with_reducible refine Below.alloc ?_ ?_ _); (rotate_left; focus (first | omega | (simp; done) | (simp; omega)))) | ((with_reducible refine Below.setCell ?_ ?_ _); (rotate_left; focus (first | omega | (simp; done) | (simp; omega)))) | (with_reducible refine Below.grown ?_ (by assumption) (by first | omega | (simp; omega)) (by simp [Value.ownBlock]; try omega)) | (with_reducible refine below_then ?_ (Aft.below _)) | (with_reducible apply below_then; rotate_left; assumption)))); obtain ⟨a5, c5, rfl, hc5, hc5m, H5, F5, N5⟩ := hown5.at (by omega); obtain ⟨b5, o5, e5, hb5, _⟩ := H5.cells (by omega); subst e5; obtain ⟨f5, rfl, g5, F5⟩ := F5 b5 o5 rfl; have c46 := H5.cellAt (k := 46) (by omega); have c47 := H5.cellAt (k := 47) (by omega); rw [Nat.zero_add] at c46 c47; rw [HZZ.out] at c46; have f46 := F5 46; have f47 := F5 47))
  go_ret
  refine ⟨_, _, rfl, ?_, (by intro h; cases h), ?_⟩
  · rw [← HS]; (repeat (first | (with_reducible assumption) | (with_reducible refine BytesAt.drew ?_) | (with_reducible refine BytesAt.drewN ?_ _) | ((with_reducible refine BytesAt.setOther ?_ ?_); (rotate_left; focus (intro b off e; injection e with e; injection e with e1; omega))) | ((with_reducible refine BytesAt.set ?_ ?_ ?_ ?_); (rotate_left; (focus (omega)); (focus (omega)); (focus (omega))))))
  · (repeat' (first | (with_reducible exact Below.refl _ _) | (with_reducible assumption) | (with_reducible refine below_drewN ?_ _) | (with_reducible refine Below.drew ?_) | ((with_reducible refine Below.alloc ?_ ?_ _); (rotate_left; focus (first | omega | (simp; done) | (simp; omega)))) | ((with_reducible refine Below.setCell ?_ ?_ _); (rotate_left; focus (first | omega | (simp; done) | (simp; omega)))) | (with_reducible refine Below.grown ?_ (by assumption) (by first | omega | (simp; omega)) (by simp [Value.ownBlock]; try omega)) | (with_reducible refine below_then ?_ (Aft.below _)) | (with_reducible apply below_then; rotate_left; assumption)))
end Go.Proofs.Ytnjjejhniekdcaa
