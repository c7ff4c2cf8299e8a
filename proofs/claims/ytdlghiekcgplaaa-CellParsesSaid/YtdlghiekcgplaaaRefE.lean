/- The reference's Build and Seal of layer 4. -/
import Derived.Test.YtdlghiekcgplaaaCellB
import Derived.Test.YtdlghiekcgplaaaHeadR
import Derived.Test.YtdlghiekcgplaaaRefC
import Derived.Lib.SliceRun
namespace Go.Proofs.Ytdlghiekcgplaaa
set_option linter.unusedVariables false
set_option linter.unusedSimpArgs false
open Go.RowKit Crc
set_option maxRecDepth 100000
set_option maxHeartbeats 4000000
theorem eq_nil27 (a : Option Addr) (n c : Nat) (w : World) : (binOp .eql 27 (.slice a n c) (.slice none 0 0)).run Try.prog w = .ok (.bool a.isNone) w := Lib.run_eql_slice_nil w _ _ a n c 0 0 Try.underlying27
theorem refBuild_yes (g p c t l n : Int) (nni : Bool) {zs : List Int} {a : Option Addr} {cap : Nat} (w : World) (hr : rightH nni g p c t l = true) (hw : wordH nni g p c t l = n) (HZ : BytesAt w a 48 zs) (na : a = none → cap = 0) :
    Calls Try.prog 29 #[.agg #[.int .i64 g, .int .i64 p, .int .i64 c, .int .i64 t, .int .i64 l], .slice a 48 cap, .bool nni] w fun e w' => ∃ v, e = .returned v ∧ OwnB w' w.heap.size v 53 (cellZ n zs) ∧ Below w.heap.size w w' := by
  obtain ⟨zh, hzh⟩ : ∃ zh, zh = bytes4 n := ⟨_, rfl⟩
  obtain ⟨x, y, z, u, hq⟩ : ∃ x y z u, zh = [x, y, z, u] := ⟨_, _, _, _, hzh⟩
  have hv : ∀ q ∈ [x, y, z, u], 0 ≤ q ∧ q < 256 := by
    rw [← hq, hzh]; unfold bytes4
    intro q hq; simp only [List.mem_cons, List.not_mem_nil, or_false] at hq
    rcases hq with h | h | h | h <;> (rw [h]; constructor <;> omega)
  obtain ⟨E, hE⟩ : ∃ E, e8 [x, y, z, u] = E := ⟨_, rfl⟩
  have hEb : 0 ≤ E ∧ E < 256 := by rw [← hE]; exact e8_bd _
  have HCZ : Hid (cellZ n zs = [x, y, z, u] ++ [E] ++ zs) := by
    show cellZ n zs = _
    unfold cellZ headZ
    rw [← hzh, hq, hE]
  rw [HCZ.out]
  have e0 : n / 16777216 % 256 = x ∧ n / 65536 % 256 = y ∧ n / 256 % 256 = z ∧ n % 256 = u := by
    rw [hzh] at hq; unfold bytes4 at hq; simpa using hq
  have HE := Lib.hid hE
  have HN := Lib.hid hw
  have H0 := Lib.hid e0
  clear hE hzh hq hw e0
  have hnil := eq_nil27
  go_enter Try.func29, Try.ntmps29
  go_wp2_with (first | (go_at_call 23; refine (refPack_yes g p c t l nni _ hr).mono ?_; rw [HN.out]; rintro e wp ⟨b, rfl, hb1, hb2, q0, q1, q2, q3, hb_wp⟩; rw [H0.out.1] at q0; rw [H0.out.2.1] at q1; rw [H0.out.2.2.1] at q2; rw [H0.out.2.2.2] at q3; have hB : BytesAt wp (some ⟨b, 0, none⟩) 4 [x, y, z, u] := four_at hb2 q0 q1 q2 q3 hv; have hs_wp := hb_wp.size; (try simp at hs_wp); clear q0 q1 q2 q3) | (go_at_call 45; (with_reducible refine (refEight_at hB (by omega)).mono ?_); rw [HE.out]; rintro e we ⟨rfl, hb_we⟩; obtain ⟨hc_we, hf_we⟩ := bcell hb_we; have hs_we := hb_we.size; (try simp at hs_we); (try have h1_we : w.heap.size < we.heap.size := by omega); (try have h3_we : w.heap.size < we.heap.size + 1 := by omega); (try have h4_we : w.heap.size < we.heap.size + 1 + 1 := by omega); (try have h5_we : ¬ w.heap.size = we.heap.size := by omega)) | (at_builtin; refine wpList_append_full rfl _ _ rfl (ad0 := some ⟨b, 0, none⟩) (n := 4) (cap := 4) (xs := [x, y, z, u]) (ad := some ⟨we.heap.size, 0, none⟩) (m := 1) (c := 1) (ys := [E]) rfl ?ha1 (fun h => nomatch h) rfl ?ha2 (by decide) (by decide) (by decide) ?hax; (case ha1 => exact hB.below (by (repeat' (first | (with_reducible exact Below.refl _ _) | (with_reducible assumption) | (with_reducible refine below_drewN ?_ _) | (with_reducible refine Below.drew ?_) | ((with_reducible refine Below.alloc ?_ ?_ _); (rotate_left; focus (first | omega | (simp; done) | (simp; omega)))) | ((with_reducible refine Below.setCell ?_ ?_ _); (rotate_left; focus (first | omega | (simp; done) | (simp; omega)))) | (with_reducible refine Below.grown ?_ (by assumption) (by first | omega | (simp; omega)) (by simp [Value.ownBlock]; try omega)) | (with_reducible refine below_then ?_ (Aft.below _)) | (with_reducible apply below_then; rotate_left; assumption))))); (case ha2 => exact bytes_lit [E] (by simp; exact hEb) (by simp)); intro v5 w5 hown5 hgr5; have hs5 := hgr5.size; (try simp at hs5); have hB5 : Below w.heap.size w w5 := (by refine Below.trans ?_ (hgr5.mono (by (try simp); omega)); (repeat' (first | (with_reducible exact Below.refl _ _) | (with_reducible assumption) | (with_reducible refine below_drewN ?_ _) | (with_reducible refine Below.drew ?_) | ((with_reducible refine Below.alloc ?_ ?_ _); (rotate_left; focus (first | omega | (simp; done) | (simp; omega)))) | ((with_reducible refine Below.setCell ?_ ?_ _); (rotate_left; focus (first | omega | (simp; done) | (simp; omega)))) | (with_reducible refine Below.grown ?_ (by assumption) (by first | omega | (simp; omega)) (by simp [Value.ownBlock]; try omega)) | (with_reducible refine below_then ?_ (Aft.below _)) | (with_reducible apply below_then; rotate_left; assumption))))) | (at_builtin; refine wpList_append_bytes rfl _ _ rfl (v := v5) (n := 5) (xs := [x, y, z, u] ++ [E]) (ad := a) (m := 48) (c := cap) (ys := zs) (base := w.heap.size) rfl ?hd1 rfl ?hd2 na (by decide) ?hd3 ?hdx; (case hd1 => exact hown5.base (by (try simp); omega)); (case hd2 => exact HZ.below hB5); (case hd3 => exact hB5.size); intro v6 w6 hown6 hgr6))
  go_ret
  exact ⟨_, rfl, hown6, hB5.trans hgr6⟩
theorem refBuild_no (g p c t l : Int) (nni : Bool) {a : Option Addr} {cap : Nat} (w : World) (hr : rightH nni g p c t l = false) :
    Calls Try.prog 29 #[.agg #[.int .i64 g, .int .i64 p, .int .i64 c, .int .i64 t, .int .i64 l], .slice a 48 cap, .bool nni] w fun e w' => e = .returned (.slice none 0 0) ∧ Below w.heap.size w w' := by
  have hnil := eq_nil27
  go_enter Try.func29, Try.ntmps29
  go_wp2_with (go_at_call 23; refine (refPack_no g p c t l nni _ hr).mono ?_; rintro e wp ⟨rfl, hb_wp⟩; obtain ⟨hc_wp, hf_wp⟩ := bcell hb_wp; have hs_wp := hb_wp.size; (try simp at hs_wp); (try have h1_wp : w.heap.size < wp.heap.size := by omega); (try have h3_wp : w.heap.size < wp.heap.size + 1 := by omega); (try have h4_wp : w.heap.size < wp.heap.size + 1 + 1 := by omega); (try have h5_wp : ¬ w.heap.size = wp.heap.size := by omega))
  go_ret
  exact ⟨rfl, by (repeat' (first | (with_reducible exact Below.refl _ _) | (with_reducible assumption) | (with_reducible refine below_drewN ?_ _) | (with_reducible refine Below.drew ?_) | ((with_reducible refine Below.alloc ?_ ?_ _); (rotate_left; focus (first | omega | (simp; done) | (simp; omega)))) | ((with_reducible refine Below.setCell ?_ ?_ _); (rotate_left; focus (first | omega | (simp; done) | (simp; omega)))) | (with_reducible refine Below.grown ?_ (by assumption) (by first | omega | (simp; omega)) (by simp [Value.ownBlock]; try omega)) | (with_reducible refine below_then ?_ (Aft.below _)) | (with_reducible apply below_then; rotate_left; assumption)))⟩
theorem IntsAt.headB {w : World} {a : Option Addr} {n m : Nat} {bs : List Bool} (h : IntsAt w a n (bs.map bitI)) (hm : m ≤ n) (hp : 0 < m) : IntsAt w a m ((bs.take m).map bitI) := by
  have hl := h.length
  rw [List.length_map] at hl
  refine ⟨by simp; omega, Nat.le_trans hm h.most, fun _ => ?_⟩
  obtain ⟨b, off, h1, h2, h3⟩ := h.cells (by omega)
  refine ⟨b, off, h1, h2, fun k hk => ?_⟩
  have := h3 k (by omega)
  rw [this]
  congr 2
  rw [List.getElem?_map, List.getElem?_map, List.getElem?_take_of_lt hk]
theorem refSeal_any {zs : List Int} {a : Option Addr} {cap : Nat} (w : World) (HZ : BytesAt w a 48 zs) (na : a = none → cap = 0) :
    Calls Try.prog 31 #[.slice a 48 cap] w fun e w' => ∃ a' c', e = .returned (.slice a' 48 c') ∧ BytesAt w' a' 48 (sealZ zs) ∧ (a' = none → c' = 0) ∧ Below w.heap.size w w' := by
  have hl : zs.length = 48 := HZ.length
  have hb : allB zs := fun z hz => by
    obtain ⟨k, hk, rfl⟩ := List.getElem_of_mem hz
    have := HZ.byte k
    rw [List.getElem?_eq_getElem hk] at this
    exact this
  obtain ⟨n, hn⟩ : ∃ n, regN zs = n := ⟨_, rfl⟩
  have hnb : 0 ≤ n ∧ n < 1024 := by rw [← hn]; exact regN_bd zs
  have hnn : ((crcV 563#10 0#10 ((bitsL zs).take 374)).toNat : Int) = n := hn
  obtain ⟨z, hz⟩ : ∃ z, zs[46]?.getD 0 = z := ⟨_, rfl⟩
  have hzb : 0 ≤ z ∧ z < 256 := by rw [← hz]; exact byte_B hb 46
  have HS : (zs.set 46 (z / 4 * 4 + n / 256)).set 47 (n % 256) = sealZ zs := by unfold sealZ; rw [hz, hn]
  have HN := Lib.hid hnn
  have HL := Lib.hid hl
  have HZZ := Lib.hid hz
  clear hn hnn hl hz
  go_enter Try.func31, Try.ntmps31
  go_wp2_with (first | (go_at_call 46; (with_reducible refine (refBits_at HZ (by omega)).mono ?_); rintro e w1 ⟨b, c, rfl, hI, hbn, hc1, hc2, hb_w1⟩; have hs1 := hb_w1.size) | (go_at_call 47; (refine (rest10_lit (bs := (bitsL zs).take 374) (hI.headB (by omega) (by omega)) hbn (by omega)).mono ?_); rw [HN.out]; rintro e w2 ⟨rfl, hb_w2⟩; have hs2 := hb_w2.size) | (at_builtin; refine wpList_append_bytes rfl _ _ rfl (v := .slice (some ⟨w2.heap.size, 0, none⟩) 0 0) (n := 0) (xs := []) (ad := a) (m := 48) (c := cap) (ys := zs) (base := w2.heap.size) rfl (own_empty w2) rfl ?hd2 na (by decide) ?hd3 ?hdx; (case hd2 => exact HZ.below (by (repeat' (first | (with_reducible exact Below.refl _ _) | (with_reducible assumption) | (with_reducible refine below_drewN ?_ _) | (with_reducible refine Below.drew ?_) | ((with_reducible refine Below.alloc ?_ ?_ _); (rotate_left; focus (first | omega | (simp; done) | (simp; omega)))) | ((with_reducible refine Below.setCell ?_ ?_ _); (rotate_left; focus (first | omega | (simp; done) | (simp; omega)))) | (with_reducible refine Below.grown ?_ (by assumption) (by first | omega | (simp; omega)) (by simp [Value.ownBlock]; try omega)) | (with_reducible refine below_then ?_ (Aft.below _)) | (with_reducible apply below_then; rotate_left; assumption))))); (case hd3 => (simp; done)); intro v5 w5 hown5 hgr5; simp only [Nat.zero_add, List.nil_append] at hown5; have hs5 := hgr5.size; have hB5 : Below w.heap.size w w5 := (by refine Below.trans ?_ (hgr5.mono (by omega)); (repeat' (first | (with_reducible exact Below.refl _ _) | (with_reducible assumption) | (with_reducible refine below_drewN ?_ _) | (with_reducible refine Below.drew ?_) | ((with_reducible refine Below.alloc ?_ ?_ _); (rotate_left; focus (first | omega | (simp; done) | (simp; omega)))) | ((with_reducible refine Below.setCell ?_ ?_ _); (rotate_left; focus (first | omega | (simp; done) | (simp; omega)))) | (with_reducible refine Below.grown ?_ (by assumption) (by first | omega | (simp; omega)) (by simp [Value.ownBlock]; try omega)) | (with_reducible refine below_then ?_ (Aft.below _)) | (with_reducible apply below_then; rotate_left; assumption)))); obtain ⟨a5, c5, rfl, hc5, hc5m, H5, F5, N5⟩ := hown5.at (by omega); obtain ⟨b5, o5, e5, hb5, _⟩ := H5.cells (by omega); subst e5; obtain ⟨f5, rfl, g5, F5⟩ := F5 b5 o5 rfl; have c46 := H5.cellAt (k := 46) (by omega); have c47 := H5.cellAt (k := 47) (by omega); rw [Nat.zero_add] at c46 c47; rw [HZZ.out] at c46; have f46 := F5 46; have f47 := F5 47))
  go_ret
  refine ⟨_, _, rfl, ?_, (by intro h; cases h), ?_⟩
  · rw [← HS]; (repeat (first | (with_reducible assumption) | (with_reducible refine BytesAt.drew ?_) | (with_reducible refine BytesAt.drewN ?_ _) | ((with_reducible refine BytesAt.setOther ?_ ?_); (rotate_left; focus (intro b off e; injection e with e; injection e with e1; omega))) | ((with_reducible refine BytesAt.set ?_ ?_ ?_ ?_); (rotate_left; (focus (omega)); (focus (omega)); (focus (omega))))))
  · (repeat' (first | (with_reducible exact Below.refl _ _) | (with_reducible assumption) | (with_reducible refine below_drewN ?_ _) | (with_reducible refine Below.drew ?_) | ((with_reducible refine Below.alloc ?_ ?_ _); (rotate_left; focus (first | omega | (simp; done) | (simp; omega)))) | ((with_reducible refine Below.setCell ?_ ?_ _); (rotate_left; focus (first | omega | (simp; done) | (simp; omega)))) | (with_reducible refine Below.grown ?_ (by assumption) (by first | omega | (simp; omega)) (by simp [Value.ownBlock]; try omega)) | (with_reducible refine below_then ?_ (Aft.below _)) | (with_reducible apply below_then; rotate_left; assumption)))
end Go.Proofs.Ytdlghiekcgplaaa
