/- The walk of the reference's remainder. -/
import Derived.Test.YtnjjejhniekdcaaRefB
import Derived.Test.YtnjjejhniekdcaaRestP
import Derived.Test.YtnjjejhniekdcaaLead
namespace Go.Proofs.Ytnjjejhniekdcaa
set_option linter.unusedVariables false
set_option linter.unusedSimpArgs false
open Go.RowKit Crc
set_option maxRecDepth 100000
set_option maxHeartbeats 4000000
/-- a row of the call's own that holds bits as numbers. -/
structure FunAt (w : World) (g N : Nat) (f : Nat → Bool) : Prop where
  lt : g < w.heap.size
  cells : ∀ q, q < N → w.cell? ⟨g, q, none⟩ = some (.int .i64 (bitI (f q)))
  free : ∀ q, w.frozen? ⟨g, q, none⟩ = false
theorem FunAt.below {w w' : World} {g N : Nat} {f : Nat → Bool} (h : FunAt w g N f) (hb : Below w.heap.size w w') : FunAt w' g N f :=
  ⟨Nat.lt_of_lt_of_le h.lt hb.size, fun q hq => (hb.cell (p := ⟨g, q, none⟩) h.lt).trans (h.cells q hq), fun q => (hb.frozen (p := ⟨g, q, none⟩) h.lt).trans (h.free q)⟩
theorem FunAt.mono {w w' : World} {b g N : Nat} {f : Nat → Bool} (h : FunAt w g N f) (hb : Below b w w') (hg : g < b) : FunAt w' g N f :=
  ⟨Nat.lt_of_lt_of_le h.lt hb.size, fun q hq => (hb.cell (p := ⟨g, q, none⟩) hg).trans (h.cells q hq), fun q => (hb.frozen (p := ⟨g, q, none⟩) hg).trans (h.free q)⟩
theorem FunAt.drew {w : World} {g N : Nat} {f : Nat → Bool} (h : FunAt w g N f) : FunAt w.drew g N f := ⟨h.lt, h.cells, h.free⟩
theorem FunAt.congr {w : World} {g N : Nat} {f f' : Nat → Bool} (h : FunAt w g N f) (he : ∀ q, q < N → f q = f' q) : FunAt w g N f' :=
  ⟨h.lt, fun q hq => by rw [← he q hq]; exact h.cells q hq, h.free⟩
theorem FunAt.set {w : World} {g N p : Nat} {f : Nat → Bool} {z : Int} (h : FunAt w g N f) (hp : p < N) (v : Bool) (hz : z = bitI v) : FunAt (w.setCell ⟨g, p, none⟩ (.int .i64 z)) g N (fun q => if q = p then v else f q) := by
  refine ⟨by simpa using h.lt, fun q hq => ?_, fun q => by rw [World.frozen?_setCell]; exact h.free q⟩
  by_cases hqp : q = p
  · subst hqp; rw [if_pos rfl, hz]; exact cell_set (h.cells q hq)
  · rw [if_neg hqp]; exact cell_off (fun e => hqp e.symm) (h.cells q hq)
theorem FunAt.other {w : World} {g b N p : Nat} {f : Nat → Bool} {u : Value} (h : FunAt w g N f) (hb : b ≠ g) : FunAt (w.setCell ⟨b, p, none⟩ u) g N f :=
  ⟨by simpa using h.lt, fun q hq => cell_beside hb (h.cells q hq), fun q => by rw [World.frozen?_setCell]; exact h.free q⟩
theorem own_empty_int (w : World) : OwnI (w.alloc (.cells #[] 3)) w.heap.size (.slice (some ⟨w.heap.size, 0, none⟩) 0 0) 0 [] :=
  own_made (n := 0) #[] (Nat.le_refl _) (by unfold maxLen; omega) rfl
/-- an owned row of bits, told by a function. -/
theorem OwnI.fn {w : World} {base n : Nat} {v : Value} {zs : List Int} {f : Nat → Bool} (h : OwnI w base v n zs) (hn : n ≤ 17592186044416) (hp : 0 < n) (hf : ∀ q, q < n → zs[q]? = some (bitI (f q))) :
    ∃ g c, v = .slice (some ⟨g, 0, none⟩) n c ∧ n ≤ c ∧ c ≤ 9223372036854775807 ∧ base ≤ g ∧ FunAt w g n f := by
  obtain ⟨a, c, rfl, h1, h2, h3, h4, h5⟩ := h.at hn
  obtain ⟨b, off, rfl, hb, hc⟩ := h3.cells hp
  obtain ⟨k1, rfl, k2, k3⟩ := h4 b off rfl
  refine ⟨b, c, rfl, h1, h2, k1, k2, fun q hq => ?_, k3⟩
  have := hc q hq
  rw [hf q hq, Nat.zero_add] at this
  exact this
theorem msg_at (bs : List Bool) (d q : Nat) (hq : q < bs.length + d) : (bs.map bitI ++ List.replicate d (0 : Int))[q]? = some (bitI (msgF bs q)) := by
  unfold msgF
  by_cases h : q < bs.length
  · rw [List.getElem?_append_left (by simpa using h), List.getElem?_map, List.getElem?_eq_getElem h]; rfl
  · rw [List.getElem?_append_right (by simp; omega), List.getElem?_replicate, if_pos (by simp; omega), List.getElem?_eq_none (by omega)]; rfl
theorem bitI_nat (b : Bool) : bitI b = ((b.toNat : Nat) : Int) := by cases b <;> rfl
theorem gen_val {d : Nat} (G : BitVec d) (t m : Nat) (h : t + (m + 1) = d) : wrap64 (((G.toNat : Int) / 2 ^ m).tmod 2) = bitI (genF G (t + 1)) := by
  have hgb := gen_bit G t (by omega)
  rw [show d - 1 - t = m by omega] at hgb
  rw [bitI_nat, hgb, int_div_pow]
  generalize G.toNat / 2 ^ m = q
  rw [Int.tmod_eq_emod_of_nonneg (by omega), IntWalk.wrap64_in _ (by omega)]
  push_cast; rfl
theorem restRef_f {w : World} {a : Option Addr} {len cap d : Nat} {bs : List Bool} (G : BitVec d) (h : IntsAt w a len (bs.map bitI)) (hnone : a = none → cap = 0) (hlen : len ≤ 1000000) (hd : 0 < d) (hd2 : d ≤ 32) (r0 : BitVec d) (hr0 : r0 = 0#d) :
    Calls Try.prog 39 #[.slice a len cap, .int .u64 (G.toNat : Int), .int .i64 (d : Int), .bool false] w fun e w' => e = .returned (.int .u64 ((crcV G r0 bs).toNat : Int)) ∧ Below w.heap.size w w' := by
  have hbl : bs.length = len := by have := h.length; simpa using this
  have hG := G.isLt
  have hG2 : (2 : Nat) ^ d ≤ 2 ^ 32 := Nat.pow_le_pow_right (by decide) hd2
  go_enter Try.func39, Try.ntmps39
  go_wp2_with (at_builtin; refine wpList_append_ints rfl _ _ rfl (v := .slice (some ⟨w.heap.size, 0, none⟩) 0 0) rfl (own_empty_int w) rfl (h.below ?hb1) hnone ?hb2 ?hb3 ?_; (case hb1 => (repeat' (first | (with_reducible exact Below.refl _ _) | (with_reducible assumption) | (with_reducible refine below_drewN ?_ _) | (with_reducible refine Below.drew ?_) | ((with_reducible refine Below.alloc ?_ ?_ _); (rotate_left; focus (first | omega | (simp; done) | (simp; omega)))) | ((with_reducible refine Below.setCell ?_ ?_ _); (rotate_left; focus (first | omega | (simp; done) | (simp; omega)))) | (with_reducible refine Below.grown ?_ (by assumption) (by first | omega | (simp; omega)) (by simp [Value.ownBlock]; try omega)) | (with_reducible refine below_then ?_ (Aft.below _)) | (with_reducible apply below_then; rotate_left; assumption)))); (case hb2 => omega); (case hb3 => (simp; done)); intro v2 w2 hown hgr; simp only [Nat.zero_add, List.nil_append] at hown)
  have L0 : Below w.heap.size w w2 := by
    have h1 : Below w.heap.size w (w.alloc (.cells #[] 3)) := by (repeat' (first | (with_reducible exact Below.refl _ _) | (with_reducible assumption) | (with_reducible refine below_drewN ?_ _) | (with_reducible refine Below.drew ?_) | ((with_reducible refine Below.alloc ?_ ?_ _); (rotate_left; focus (first | omega | (simp; done) | (simp; omega)))) | ((with_reducible refine Below.setCell ?_ ?_ _); (rotate_left; focus (first | omega | (simp; done) | (simp; omega)))) | (with_reducible refine Below.grown ?_ (by assumption) (by first | omega | (simp; omega)) (by simp [Value.ownBlock]; try omega)) | (with_reducible refine below_then ?_ (Aft.below _)) | (with_reducible apply below_then; rotate_left; assumption)))
    exact h1.trans (hgr.mono (by omega))
  clear hgr
  go_loopw [9, 10] (fun s9 s10 wr => ∃ i : Nat, i ≤ d ∧ s10 = .int .i64 i ∧ OwnI wr w.heap.size s9 (len + i) (bs.map bitI ++ List.replicate i 0) ∧ Below w.heap.size w wr) (fun s9 s10 wr => d - (intOf s10).toNat)
  case atStart => exact ⟨0, by omega, rfl, by simpa using hown, L0⟩
  case round =>
    obtain ⟨i, hi, rfl, hown, hBw⟩ := hrel
    by_cases hlt : i < d
    · go_wp2_with (at_builtin; refine wpList_append_int rfl _ _ rfl (v := u9) rfl (hown.alloc _) rfl (cell_top rfl rfl) ?hc2 ?hc3 ?_; (case hc2 => omega); (case hc3 => (have := hBw.size; simp; omega)); intro vv ww hown2 hbl2; have hBw2 := Below.trans (Below.alloc hBw hBw.size _) hbl2)
      go_roundw
      case rel =>
        go_light
        refine ⟨i + 1, by omega, by go_num, ?_, hBw2⟩
        rw [List.replicate_succ', ← List.append_assoc]
        exact hown2
      case measure => go_light; simp [intOf]; omega
    obtain rfl : d = i := by omega
    clear hi hlt
    obtain ⟨ga, ca, rfl, hca1, hca2, hga, hA⟩ := hown.fn (f := msgF bs) (by omega) (by omega) (fun q hq => msg_at bs d q (by rw [hbl]; exact hq))
    clear hown
    have hA : FunAt wr ga (len + d) (divF G r0 bs 0) := hA.congr (fun q hq => by rw [hr0, divF_zero])
    have HR0 := Lib.hid hr0
    clear hr0
    go_wp2
    have hsz := hBw.size
    have hOG : OwnI (wr.alloc (.cells #[.int .i64 1] 3)) wr.heap.size (.slice (some ⟨wr.heap.size, 0, none⟩) 1 1) 1 ([1] ++ (List.range 0).map fun u => bitI (genF G (u + 1))) := own_made (n := 1) #[.int .i64 1] (Nat.le_refl _) (by unfold maxLen; omega) rfl
    have hA1 := hA.below (Below.alloc (Below.refl wr.heap.size wr) (Nat.le_refl _) (.cells #[.int .i64 1] 3))
    have hB1 := hBw.alloc hsz (.cells #[.int .i64 1] 3)
    have hgl := hA.lt
    have hsz1 : wr.heap.size < (wr.alloc (.cells #[.int .i64 1] 3)).heap.size := by simp
    obtain ⟨wg, hwg⟩ : ∃ wg, wg = wr.alloc (.cells #[.int .i64 1] 3) := ⟨_, rfl⟩
    rw [← hwg] at hOG hA1 hB1 hsz1 ⊢
    have HWG := Lib.hid hwg
    clear hwg
    obtain ⟨gb, hgb⟩ : ∃ gb, gb = wr.heap.size := ⟨_, rfl⟩
    rw [← hgb] at hOG hgl hsz1 hsz ⊢
    clear hgb hA hBw
    go_loopw [12, 13] (fun s12 s13 wv => ∃ t m : Nat, t + m = d ∧ s13 = .int .i64 ((m : Int) - 1) ∧ OwnI wv gb s12 (1 + t) ([1] ++ (List.range t).map fun u => bitI (genF G (u + 1))) ∧ FunAt wv ga (len + d) (divF G r0 bs 0) ∧ Below w.heap.size w wv ∧ gb < wv.heap.size) (fun s12 s13 wv => (intOf s13 + 1).toNat)
    case atStart => exact ⟨0, d, by omega, rfl, hOG, hA1, hB1, hsz1⟩
    case round =>
      obtain ⟨t, m, htm, hs13, hown, hA, hBw, hgw⟩ := hrel
      rcases m with _ | m
      · subst hs13
        obtain rfl : d = t := by omega
        obtain ⟨gg, cg, rfl, hcg1, hcg2, hgg, hGF⟩ := hown.fn (f := genF G) (by omega) (by omega) (fun q hq => by
          rcases q with _ | q
          · rfl
          · rw [List.getElem?_append_right (by simp), List.getElem?_map]
            simp only [List.length_cons, List.length_nil, Nat.zero_add, Nat.add_sub_cancel]
            rw [List.getElem?_range (by omega)]; rfl)
        clear hown htm
        have hne : ga ≠ gg := by omega
        have hne2 : gg ≠ ga := by omega
        have hgw2 : w.heap.size ≤ gg := by omega
        go_wp2
        go_loopw [14, 15, 73] (fun s14 s15 s73 wv => ∃ i : Nat, i ≤ len ∧ s14 = .int .i64 i ∧ FunAt wv ga (len + d) (divF G r0 bs i) ∧ FunAt wv gg (1 + d) (genF G) ∧ Below w.heap.size w wv) (fun s14 s15 s73 wv => len - (intOf s14).toNat)
        case atStart => exact ⟨0, by omega, rfl, hA, hGF, hBw⟩
        case round =>
          clear hA hGF hBw hA1 hB1 hOG
          obtain ⟨i, hi, rfl, hA, hGF, hBw⟩ := hrel
          by_cases hlt : i < len
          · have ci := hA.cells i (by omega)
            have hi1 : (i : Int) < (len : Int) + d := by omega
            have hi2 : i < len + d := by omega
            obtain ⟨x, hx⟩ : ∃ x, divF G r0 bs i i = x := ⟨_, rfl⟩
            rw [hx] at ci
            cases x
            · replace ci : wr.cell? ⟨ga, i, none⟩ = some (.int .i64 0) := ci
              have HX := Lib.hid hx
              clear hx
              go_wp2
              go_roundw
              case rel =>
                go_light
                exact ⟨i + 1, by omega, by go_num, hA.congr (fun q hq => (divF_clear G r0 bs i q hd (by omega) HX.out).symm), hGF, hBw⟩
              case measure => go_light; simp [intOf]; omega
            · replace ci : wr.cell? ⟨ga, i, none⟩ = some (.int .i64 1) := ci
              have HX := Lib.hid hx
              clear hx
              go_wp2
              go_loopw [15, 73] (fun s15 s73 wv => ∃ k : Nat, k ≤ 1 + d ∧ s73 = .int .i64 k ∧ FunAt wv ga (len + d) (fun q => divF G r0 bs i q != (decide (i ≤ q) && decide (q < i + k) && genF G (q - i))) ∧ FunAt wv gg (1 + d) (genF G) ∧ Below w.heap.size w wv) (fun s15 s73 wv => 1 + d - (intOf s73).toNat)
              case atStart => exact ⟨0, by omega, rfl, hA.congr (fun q hq => by
                have : (decide (i ≤ q) && decide (q < i + 0) && genF G (q - i)) = false := by
                  by_cases h1 : i ≤ q
                  · rw [decide_eq_false (by omega : ¬ q < i + 0), Bool.and_false, Bool.false_and]
                  · rw [decide_eq_false h1]; rfl
                rw [this, Bool.bne_false]), hGF, hBw⟩
              case round =>
                clear hA hGF hBw ci
                obtain ⟨k, hk, rfl, hA, hGF, hBw⟩ := hrel
                by_cases hlk : k < 1 + d
                · have cl := hA.cells (i + k) (by omega)
                  have cb := hGF.cells k hlk
                  have fa := hA.free (i + k)
                  have hik1 : ((i + k : Nat) : Int) < (len : Int) + d := by omega
                  have hik2 : i + k < len + d := by omega
                  have hk1 : (k : Int) < 1 + (d : Int) := by omega
                  have hik0 : (0 : Int) ≤ ((i + k : Nat) : Int) := by omega
                  have hw1 : IntKind.i64.wrap ((i : Int) + (k : Int)) = ((i + k : Nat) : Int) := by rw [IntWalk.i64_in _ (by omega)]; push_cast; rfl
                  obtain ⟨x, hx⟩ : ∃ x, (divF G r0 bs i (i + k) != (decide (i ≤ i + k) && decide (i + k < i + k) && genF G (i + k - i))) = x := ⟨_, rfl⟩
                  obtain ⟨y, hy⟩ : ∃ y, genF G k = y := ⟨_, rfl⟩
                  rw [hx] at cl
                  rw [hy] at cb
                  obtain ⟨X, hX⟩ : ∃ X, bitI x = X := ⟨_, rfl⟩
                  obtain ⟨Y, hY⟩ : ∃ Y, bitI y = Y := ⟨_, rfl⟩
                  rw [hX] at cl
                  rw [hY] at cb
                  have HX1 := Lib.hid hx
                  have HY1 := Lib.hid hy
                  have HX2 := Lib.hid hX
                  have HY2 := Lib.hid hY
                  clear hx hy hX hY
                  go_wp2
                  have cl3 : wr.drew.cell? ⟨ga, i + k, none⟩ = some (.int .i64 X) := cl
                  have cb3 : wr.drew.cell? ⟨gg, k, none⟩ = some (.int .i64 Y) := cb
                  have fa3 : wr.drew.frozen? ⟨ga, i + k, none⟩ = false := fa
                  (refine region_tail_q 17 (by kernel_rfl) (by kernel_rfl) rfl ?_); (simp only [List.take_succ_cons, List.take_zero, List.drop_succ_cons, List.drop_zero]); (repeat (go_big_quiet_step (fail))); (refine wpQuiet_nil ?_)
                  go_wp2
                  go_roundw
                  case rel =>
                    go_light
                    refine ⟨k + 1, by omega, by go_num, ?_, (hGF.drew).other hne, by (repeat' (first | (with_reducible exact Below.refl _ _) | (with_reducible assumption) | (with_reducible refine below_drewN ?_ _) | (with_reducible refine Below.drew ?_) | ((with_reducible refine Below.alloc ?_ ?_ _); (rotate_left; focus (first | omega | (simp; done) | (simp; omega)))) | ((with_reducible refine Below.setCell ?_ ?_ _); (rotate_left; focus (first | omega | (simp; done) | (simp; omega)))) | (with_reducible refine Below.grown ?_ (by assumption) (by first | omega | (simp; omega)) (by simp [Value.ownBlock]; try omega)) | (with_reducible refine below_then ?_ (Aft.below _)) | (with_reducible apply below_then; rotate_left; assumption)))⟩
                    refine (hA.drew.set hik2 (x != y) ?_).congr fun q hq => ?_
                    · rw [← HX2.out, ← HY2.out]; cases x <;> cases y <;> kernel_rfl
                    · by_cases h1 : q = i + k
                      · subst h1
                        rw [if_pos rfl, ← HX1.out, ← HY1.out]
                        rw [decide_eq_true (by omega : i ≤ i + k), decide_eq_true (by omega : i + k < i + (k + 1)), decide_eq_false (by omega : ¬ i + k < i + k), Nat.add_sub_cancel_left, Bool.and_false, Bool.false_and, Bool.bne_false, Bool.true_and, Bool.true_and]
                      · rw [if_neg h1]
                        have : decide (q < i + (k + 1)) = decide (q < i + k) := by rw [decide_eq_decide]; omega
                        rw [this]
                  case measure => go_light; simp [intOf]; omega
                · obtain rfl : k = 1 + d := by omega
                  go_wp2
                  go_roundw
                  case rel =>
                    go_light
                    refine ⟨i + 1, by omega, by go_num, hA.congr fun q hq => ?_, hGF, hBw⟩
                    rw [divF_set G r0 bs i q hd (by omega) HX.out, Nat.add_comm 1 d]
                  case measure => go_light; simp [intOf]; omega
          · obtain rfl : len = i := by omega
            go_wp2
            obtain ⟨R, hR⟩ : ∃ R, crcV G r0 bs = R := ⟨_, rfl⟩
            have hend : ∀ j, j < d → divF G r0 bs len (len + j) = R.getMsbD j := fun j hj => by rw [← hR, ← hbl]; exact divF_end G r0 bs j hj
            have hRl := R.isLt
            have HEND := Lib.hid hend
            have HR := Lib.hid hR
            clear hend hR
            go_loopw [16, 17] (fun s16 s17 wv => ∃ j : Nat, j ≤ d ∧ s17 = .int .i64 ((len + j : Nat) : Int) ∧ s16 = .int .u64 (topN R j : Nat) ∧ FunAt wv ga (len + d) (divF G r0 bs len) ∧ Below w.heap.size w wv) (fun s16 s17 wv => len + d - (intOf s17).toNat)
            case atStart => exact ⟨0, by omega, by go_num, by rw [topN_zero]; rfl, hA, hBw⟩
            case round =>
              clear hA hBw
              obtain ⟨j, hj, rfl, rfl, hA, hBw⟩ := hrel
              by_cases hlj : j < d
              · have cj := hA.cells (len + j) (by omega)
                rw [HEND.out j hlj, bitI_nat] at cj
                have hj1 : ((len + j : Nat) : Int) < (len : Int) + d := by omega
                have hj2 : len + j < len + d := by omega
                have hts := topN_succ R j hlj
                have htl := topN_lt R (j + 1)
                have hb0 : (R.getMsbD j).toNat < 2 := by cases R.getMsbD j <;> decide
                obtain ⟨b, hb⟩ : ∃ b, (R.getMsbD j).toNat = b := ⟨_, rfl⟩
                rw [hb] at cj hts hb0
                obtain ⟨n, hn⟩ : ∃ n, topN R j = n := ⟨_, rfl⟩
                rw [hn] at hts ⊢
                have hn2 : n ≤ 4294967296 := by omega
                have HTS := Lib.hid hts
                have HN := Lib.hid hn
                have HB := Lib.hid hb
                clear hts hn hb htl
                go_wp2
                go_roundw
                case rel =>
                  go_light
                  refine ⟨j + 1, by omega, by go_num, ?_, hA, hBw⟩
                  rw [HTS.out]
                  (congr 1 <;> (push_cast; first | rfl | omega | (rw [IntKind.wrap_u64]; omega)))
                case measure => go_light; simp [intOf]; omega
              · obtain rfl : d = j := by omega
                go_wp2
                go_ret
                exact ⟨ret_int (by rw [topN_all, ← HR.out]), hBw⟩
      · rw [show ((m + 1 : Nat) : Int) - 1 = (m : Int) by push_cast; omega] at hs13
        subst hs13
        have hz := gen_val G t m (by omega)
        obtain ⟨gl, hgl2⟩ : ∃ gl, gl = [1] ++ (List.range t).map fun u => bitI (genF G (u + 1)) := ⟨_, rfl⟩
        rw [← hgl2] at hown
        have HGL := Lib.hid hgl2
        have HZ := Lib.hid hz
        clear hz hgl2
        go_wp2_with (first | (at_builtin; refine wpList_append_int rfl (.tmp 50) (.tmp 56) rfl (v := u12) (n := 1 + t) (xs := gl) (b := wr.heap.size) (z := wrap64 (((G.toNat : Int) / 2 ^ m).tmod 2)) (base := gb) rfl ?hc0 ?hcb ?hc1 ?hc2 ?hc3 ?hcx; (case hc0 => exact hown.alloc _); (case hcb => rfl); (case hc1 => exact cell_top rfl rfl); (case hc2 => omega); (case hc3 => (simp; omega)); intro vv ww hown2 hbl2; have hBw2 := Below.trans (Below.alloc hBw hBw.size _) (hbl2.mono (by omega)); have hA2 := hA.below (Below.alloc (Below.refl wr.heap.size wr) (Nat.le_refl _) (.cells #[.int .i64 (wrap64 (((G.toNat : Int) / 2 ^ m).tmod 2))] 3)); have hsw := hbl2.size; (try simp at hsw)))
        go_roundw
        case rel =>
          go_light
          refine ⟨t + 1, m, by omega, by go_num, ?_, ?_, hBw2, by omega⟩
          · rw [List.range_succ, List.map_append, ← List.append_assoc]
            simp only [List.map_cons, List.map_nil]
            rw [← HZ.out, ← HGL.out]
            exact hown2
          · exact FunAt.mono hA2 hbl2 hgl
        case measure => go_light; simp [intOf]
theorem restRef_t {w : World} {a : Option Addr} {len cap d : Nat} {bs : List Bool} (G : BitVec d) (h : IntsAt w a len (bs.map bitI)) (hnone : a = none → cap = 0) (hlen : len ≤ 1000000) (hd : 0 < d) (hd2 : d ≤ 32) (r0 : BitVec d) (hr0 : r0 = BitVec.allOnes d) :
    Calls Try.prog 39 #[.slice a len cap, .int .u64 (G.toNat : Int), .int .i64 (d : Int), .bool true] w fun e w' => e = .returned (.int .u64 ((crcV G r0 bs).toNat : Int)) ∧ Below w.heap.size w w' := by
  have hbl : bs.length = len := by have := h.length; simpa using this
  have hG := G.isLt
  have hG2 : (2 : Nat) ^ d ≤ 2 ^ 32 := Nat.pow_le_pow_right (by decide) hd2
  go_enter Try.func39, Try.ntmps39
  go_wp2_with (at_builtin; refine wpList_append_ints rfl _ _ rfl (v := .slice (some ⟨w.heap.size, 0, none⟩) 0 0) rfl (own_empty_int w) rfl (h.below ?hb1) hnone ?hb2 ?hb3 ?_; (case hb1 => (repeat' (first | (with_reducible exact Below.refl _ _) | (with_reducible assumption) | (with_reducible refine below_drewN ?_ _) | (with_reducible refine Below.drew ?_) | ((with_reducible refine Below.alloc ?_ ?_ _); (rotate_left; focus (first | omega | (simp; done) | (simp; omega)))) | ((with_reducible refine Below.setCell ?_ ?_ _); (rotate_left; focus (first | omega | (simp; done) | (simp; omega)))) | (with_reducible refine Below.grown ?_ (by assumption) (by first | omega | (simp; omega)) (by simp [Value.ownBlock]; try omega)) | (with_reducible refine below_then ?_ (Aft.below _)) | (with_reducible apply below_then; rotate_left; assumption)))); (case hb2 => omega); (case hb3 => (simp; done)); intro v2 w2 hown hgr; simp only [Nat.zero_add, List.nil_append] at hown)
  have L0 : Below w.heap.size w w2 := by
    have h1 : Below w.heap.size w (w.alloc (.cells #[] 3)) := by (repeat' (first | (with_reducible exact Below.refl _ _) | (with_reducible assumption) | (with_reducible refine below_drewN ?_ _) | (with_reducible refine Below.drew ?_) | ((with_reducible refine Below.alloc ?_ ?_ _); (rotate_left; focus (first | omega | (simp; done) | (simp; omega)))) | ((with_reducible refine Below.setCell ?_ ?_ _); (rotate_left; focus (first | omega | (simp; done) | (simp; omega)))) | (with_reducible refine Below.grown ?_ (by assumption) (by first | omega | (simp; omega)) (by simp [Value.ownBlock]; try omega)) | (with_reducible refine below_then ?_ (Aft.below _)) | (with_reducible apply below_then; rotate_left; assumption)))
    exact h1.trans (hgr.mono (by omega))
  clear hgr
  go_loopw [9, 10] (fun s9 s10 wr => ∃ i : Nat, i ≤ d ∧ s10 = .int .i64 i ∧ OwnI wr w.heap.size s9 (len + i) (bs.map bitI ++ List.replicate i 0) ∧ Below w.heap.size w wr) (fun s9 s10 wr => d - (intOf s10).toNat)
  case atStart => exact ⟨0, by omega, rfl, by simpa using hown, L0⟩
  case round =>
    obtain ⟨i, hi, rfl, hown, hBw⟩ := hrel
    by_cases hlt : i < d
    · go_wp2_with (at_builtin; refine wpList_append_int rfl _ _ rfl (v := u9) rfl (hown.alloc _) rfl (cell_top rfl rfl) ?hc2 ?hc3 ?_; (case hc2 => omega); (case hc3 => (have := hBw.size; simp; omega)); intro vv ww hown2 hbl2; have hBw2 := Below.trans (Below.alloc hBw hBw.size _) hbl2)
      go_roundw
      case rel =>
        go_light
        refine ⟨i + 1, by omega, by go_num, ?_, hBw2⟩
        rw [List.replicate_succ', ← List.append_assoc]
        exact hown2
      case measure => go_light; simp [intOf]; omega
    obtain rfl : d = i := by omega
    clear hi hlt
    obtain ⟨ga, ca, rfl, hca1, hca2, hga, hA⟩ := hown.fn (f := msgF bs) (by omega) (by omega) (fun q hq => msg_at bs d q (by rw [hbl]; exact hq))
    clear hown
    go_wp2
    go_loopw [11] (fun s11 wq => ∃ j : Nat, j ≤ d ∧ s11 = .int .i64 j ∧ FunAt wq ga (len + d) (fun q => if q < j then !msgF bs q else msgF bs q) ∧ Below w.heap.size w wq) (fun s11 wq => d - (intOf s11).toNat)
    case atStart => exact ⟨0, by omega, rfl, hA.congr (fun q hq => by rw [if_neg (by omega)]), hBw⟩
    case round =>
      clear hBw hA
      obtain ⟨j, hj, rfl, hA, hBw⟩ := hrel
      by_cases hlt : j < d
      · have cj := hA.cells j (by omega)
        have fj := hA.free j
        have hij : (j : Int) < (len : Int) + d := by omega
        have hij2 : j < len + d := by omega
        rw [if_neg (by omega)] at cj
        go_wp2
        go_roundw
        case rel =>
          go_light
          refine ⟨j + 1, by omega, by go_num, ?_, by (repeat' (first | (with_reducible exact Below.refl _ _) | (with_reducible assumption) | (with_reducible refine below_drewN ?_ _) | (with_reducible refine Below.drew ?_) | ((with_reducible refine Below.alloc ?_ ?_ _); (rotate_left; focus (first | omega | (simp; done) | (simp; omega)))) | ((with_reducible refine Below.setCell ?_ ?_ _); (rotate_left; focus (first | omega | (simp; done) | (simp; omega)))) | (with_reducible refine Below.grown ?_ (by assumption) (by first | omega | (simp; omega)) (by simp [Value.ownBlock]; try omega)) | (with_reducible refine below_then ?_ (Aft.below _)) | (with_reducible apply below_then; rotate_left; assumption)))⟩
          refine (hA.set (p := j) (by omega) (!msgF bs j) (by cases msgF bs j <;> kernel_rfl)).congr fun q hq => ?_
          by_cases h1 : q = j
          · subst h1; rw [if_pos rfl, if_pos (by omega)]
          · rw [if_neg h1]
            by_cases h2 : q < j
            · rw [if_pos h2, if_pos (by omega)]
            · rw [if_neg h2, if_neg (by omega)]
        case measure => go_light; simp [intOf]; omega
      have hA : FunAt wr ga (len + d) (divF G r0 bs 0) := hA.congr (fun q hq => by
        rw [hr0, divF_ones]
        have : j = d := by omega
        rw [this])
      have HR0 := Lib.hid hr0
      clear hr0
      go_wp2
      have hsz := hBw.size
      have hOG : OwnI (wr.alloc (.cells #[.int .i64 1] 3)) wr.heap.size (.slice (some ⟨wr.heap.size, 0, none⟩) 1 1) 1 ([1] ++ (List.range 0).map fun u => bitI (genF G (u + 1))) := own_made (n := 1) #[.int .i64 1] (Nat.le_refl _) (by unfold maxLen; omega) rfl
      have hA1 := hA.below (Below.alloc (Below.refl wr.heap.size wr) (Nat.le_refl _) (.cells #[.int .i64 1] 3))
      have hB1 := hBw.alloc hsz (.cells #[.int .i64 1] 3)
      have hgl := hA.lt
      have hsz1 : wr.heap.size < (wr.alloc (.cells #[.int .i64 1] 3)).heap.size := by simp
      obtain ⟨wg, hwg⟩ : ∃ wg, wg = wr.alloc (.cells #[.int .i64 1] 3) := ⟨_, rfl⟩
      rw [← hwg] at hOG hA1 hB1 hsz1 ⊢
      have HWG := Lib.hid hwg
      clear hwg
      obtain ⟨gb, hgb⟩ : ∃ gb, gb = wr.heap.size := ⟨_, rfl⟩
      rw [← hgb] at hOG hgl hsz1 hsz ⊢
      clear hgb hA hBw
      go_loopw [12, 13] (fun s12 s13 wv => ∃ t m : Nat, t + m = d ∧ s13 = .int .i64 ((m : Int) - 1) ∧ OwnI wv gb s12 (1 + t) ([1] ++ (List.range t).map fun u => bitI (genF G (u + 1))) ∧ FunAt wv ga (len + d) (divF G r0 bs 0) ∧ Below w.heap.size w wv ∧ gb < wv.heap.size) (fun s12 s13 wv => (intOf s13 + 1).toNat)
      case atStart => exact ⟨0, d, by omega, rfl, hOG, hA1, hB1, hsz1⟩
      case round =>
        obtain ⟨t, m, htm, hs13, hown, hA, hBw, hgw⟩ := hrel
        rcases m with _ | m
        · subst hs13
          obtain rfl : d = t := by omega
          obtain ⟨gg, cg, rfl, hcg1, hcg2, hgg, hGF⟩ := hown.fn (f := genF G) (by omega) (by omega) (fun q hq => by
            rcases q with _ | q
            · rfl
            · rw [List.getElem?_append_right (by simp), List.getElem?_map]
              simp only [List.length_cons, List.length_nil, Nat.zero_add, Nat.add_sub_cancel]
              rw [List.getElem?_range (by omega)]; rfl)
          clear hown htm
          have hne : ga ≠ gg := by omega
          have hne2 : gg ≠ ga := by omega
          have hgw2 : w.heap.size ≤ gg := by omega
          go_wp2
          go_loopw [14, 15, 73] (fun s14 s15 s73 wv => ∃ i : Nat, i ≤ len ∧ s14 = .int .i64 i ∧ FunAt wv ga (len + d) (divF G r0 bs i) ∧ FunAt wv gg (1 + d) (genF G) ∧ Below w.heap.size w wv) (fun s14 s15 s73 wv => len - (intOf s14).toNat)
          case atStart => exact ⟨0, by omega, rfl, hA, hGF, hBw⟩
          case round =>
            clear hA hGF hBw hA1 hB1 hOG
            obtain ⟨i, hi, rfl, hA, hGF, hBw⟩ := hrel
            by_cases hlt : i < len
            · have ci := hA.cells i (by omega)
              have hi1 : (i : Int) < (len : Int) + d := by omega
              have hi2 : i < len + d := by omega
              obtain ⟨x, hx⟩ : ∃ x, divF G r0 bs i i = x := ⟨_, rfl⟩
              rw [hx] at ci
              cases x
              · replace ci : wr.cell? ⟨ga, i, none⟩ = some (.int .i64 0) := ci
                have HX := Lib.hid hx
                clear hx
                go_wp2
                go_roundw
                case rel =>
                  go_light
                  exact ⟨i + 1, by omega, by go_num, hA.congr (fun q hq => (divF_clear G r0 bs i q hd (by omega) HX.out).symm), hGF, hBw⟩
                case measure => go_light; simp [intOf]; omega
              · replace ci : wr.cell? ⟨ga, i, none⟩ = some (.int .i64 1) := ci
                have HX := Lib.hid hx
                clear hx
                go_wp2
                go_loopw [15, 73] (fun s15 s73 wv => ∃ k : Nat, k ≤ 1 + d ∧ s73 = .int .i64 k ∧ FunAt wv ga (len + d) (fun q => divF G r0 bs i q != (decide (i ≤ q) && decide (q < i + k) && genF G (q - i))) ∧ FunAt wv gg (1 + d) (genF G) ∧ Below w.heap.size w wv) (fun s15 s73 wv => 1 + d - (intOf s73).toNat)
                case atStart => exact ⟨0, by omega, rfl, hA.congr (fun q hq => by
                  have : (decide (i ≤ q) && decide (q < i + 0) && genF G (q - i)) = false := by
                    by_cases h1 : i ≤ q
                    · rw [decide_eq_false (by omega : ¬ q < i + 0), Bool.and_false, Bool.false_and]
                    · rw [decide_eq_false h1]; rfl
                  rw [this, Bool.bne_false]), hGF, hBw⟩
                case round =>
                  clear hA hGF hBw ci
                  obtain ⟨k, hk, rfl, hA, hGF, hBw⟩ := hrel
                  by_cases hlk : k < 1 + d
                  · have cl := hA.cells (i + k) (by omega)
                    have cb := hGF.cells k hlk
                    have fa := hA.free (i + k)
                    have hik1 : ((i + k : Nat) : Int) < (len : Int) + d := by omega
                    have hik2 : i + k < len + d := by omega
                    have hk1 : (k : Int) < 1 + (d : Int) := by omega
                    have hik0 : (0 : Int) ≤ ((i + k : Nat) : Int) := by omega
                    have hw1 : IntKind.i64.wrap ((i : Int) + (k : Int)) = ((i + k : Nat) : Int) := by rw [IntWalk.i64_in _ (by omega)]; push_cast; rfl
                    obtain ⟨x, hx⟩ : ∃ x, (divF G r0 bs i (i + k) != (decide (i ≤ i + k) && decide (i + k < i + k) && genF G (i + k - i))) = x := ⟨_, rfl⟩
                    obtain ⟨y, hy⟩ : ∃ y, genF G k = y := ⟨_, rfl⟩
                    rw [hx] at cl
                    rw [hy] at cb
                    obtain ⟨X, hX⟩ : ∃ X, bitI x = X := ⟨_, rfl⟩
                    obtain ⟨Y, hY⟩ : ∃ Y, bitI y = Y := ⟨_, rfl⟩
                    rw [hX] at cl
                    rw [hY] at cb
                    have HX1 := Lib.hid hx
                    have HY1 := Lib.hid hy
                    have HX2 := Lib.hid hX
                    have HY2 := Lib.hid hY
                    clear hx hy hX hY
                    go_wp2
                    have cl3 : wr.drew.cell? ⟨ga, i + k, none⟩ = some (.int .i64 X) := cl
                    have cb3 : wr.drew.cell? ⟨gg, k, none⟩ = some (.int .i64 Y) := cb
                    have fa3 : wr.drew.frozen? ⟨ga, i + k, none⟩ = false := fa
                    (refine region_tail_q 17 (by kernel_rfl) (by kernel_rfl) rfl ?_); (simp only [List.take_succ_cons, List.take_zero, List.drop_succ_cons, List.drop_zero]); (repeat (go_big_quiet_step (fail))); (refine wpQuiet_nil ?_)
                    go_wp2
                    go_roundw
                    case rel =>
                      go_light
                      refine ⟨k + 1, by omega, by go_num, ?_, (hGF.drew).other hne, by (repeat' (first | (with_reducible exact Below.refl _ _) | (with_reducible assumption) | (with_reducible refine below_drewN ?_ _) | (with_reducible refine Below.drew ?_) | ((with_reducible refine Below.alloc ?_ ?_ _); (rotate_left; focus (first | omega | (simp; done) | (simp; omega)))) | ((with_reducible refine Below.setCell ?_ ?_ _); (rotate_left; focus (first | omega | (simp; done) | (simp; omega)))) | (with_reducible refine Below.grown ?_ (by assumption) (by first | omega | (simp; omega)) (by simp [Value.ownBlock]; try omega)) | (with_reducible refine below_then ?_ (Aft.below _)) | (with_reducible apply below_then; rotate_left; assumption)))⟩
                      refine (hA.drew.set hik2 (x != y) ?_).congr fun q hq => ?_
                      · rw [← HX2.out, ← HY2.out]; cases x <;> cases y <;> kernel_rfl
                      · by_cases h1 : q = i + k
                        · subst h1
                          rw [if_pos rfl, ← HX1.out, ← HY1.out]
                          rw [decide_eq_true (by omega : i ≤ i + k), decide_eq_true (by omega : i + k < i + (k + 1)), decide_eq_false (by omega : ¬ i + k < i + k), Nat.add_sub_cancel_left, Bool.and_false, Bool.false_and, Bool.bne_false, Bool.true_and, Bool.true_and]
                        · rw [if_neg h1]
                          have : decide (q < i + (k + 1)) = decide (q < i + k) := by rw [decide_eq_decide]; omega
                          rw [this]
                    case measure => go_light; simp [intOf]; omega
                  · obtain rfl : k = 1 + d := by omega
                    go_wp2
                    go_roundw
                    case rel =>
                      go_light
                      refine ⟨i + 1, by omega, by go_num, hA.congr fun q hq => ?_, hGF, hBw⟩
                      rw [divF_set G r0 bs i q hd (by omega) HX.out, Nat.add_comm 1 d]
                    case measure => go_light; simp [intOf]; omega
            · obtain rfl : len = i := by omega
              go_wp2
              obtain ⟨R, hR⟩ : ∃ R, crcV G r0 bs = R := ⟨_, rfl⟩
              have hend : ∀ j, j < d → divF G r0 bs len (len + j) = R.getMsbD j := fun j hj => by rw [← hR, ← hbl]; exact divF_end G r0 bs j hj
              have hRl := R.isLt
              have HEND := Lib.hid hend
              have HR := Lib.hid hR
              clear hend hR
              go_loopw [16, 17] (fun s16 s17 wv => ∃ j : Nat, j ≤ d ∧ s17 = .int .i64 ((len + j : Nat) : Int) ∧ s16 = .int .u64 (topN R j : Nat) ∧ FunAt wv ga (len + d) (divF G r0 bs len) ∧ Below w.heap.size w wv) (fun s16 s17 wv => len + d - (intOf s17).toNat)
              case atStart => exact ⟨0, by omega, by go_num, by rw [topN_zero]; rfl, hA, hBw⟩
              case round =>
                clear hA hBw
                obtain ⟨j, hj, rfl, rfl, hA, hBw⟩ := hrel
                by_cases hlj : j < d
                · have cj := hA.cells (len + j) (by omega)
                  rw [HEND.out j hlj, bitI_nat] at cj
                  have hj1 : ((len + j : Nat) : Int) < (len : Int) + d := by omega
                  have hj2 : len + j < len + d := by omega
                  have hts := topN_succ R j hlj
                  have htl := topN_lt R (j + 1)
                  have hb0 : (R.getMsbD j).toNat < 2 := by cases R.getMsbD j <;> decide
                  obtain ⟨b, hb⟩ : ∃ b, (R.getMsbD j).toNat = b := ⟨_, rfl⟩
                  rw [hb] at cj hts hb0
                  obtain ⟨n, hn⟩ : ∃ n, topN R j = n := ⟨_, rfl⟩
                  rw [hn] at hts ⊢
                  have hn2 : n ≤ 4294967296 := by omega
                  have HTS := Lib.hid hts
                  have HN := Lib.hid hn
                  have HB := Lib.hid hb
                  clear hts hn hb htl
                  go_wp2
                  go_roundw
                  case rel =>
                    go_light
                    refine ⟨j + 1, by omega, by go_num, ?_, hA, hBw⟩
                    rw [HTS.out]
                    (congr 1 <;> (push_cast; first | rfl | omega | (rw [IntKind.wrap_u64]; omega)))
                  case measure => go_light; simp [intOf]; omega
                · obtain rfl : d = j := by omega
                  go_wp2
                  go_ret
                  exact ⟨ret_int (by rw [topN_all, ← HR.out]), hBw⟩
        · rw [show ((m + 1 : Nat) : Int) - 1 = (m : Int) by push_cast; omega] at hs13
          subst hs13
          have hz := gen_val G t m (by omega)
          obtain ⟨gl, hgl2⟩ : ∃ gl, gl = [1] ++ (List.range t).map fun u => bitI (genF G (u + 1)) := ⟨_, rfl⟩
          rw [← hgl2] at hown
          have HGL := Lib.hid hgl2
          have HZ := Lib.hid hz
          clear hz hgl2
          go_wp2_with (first | (at_builtin; refine wpList_append_int rfl (.tmp 50) (.tmp 56) rfl (v := u12) (n := 1 + t) (xs := gl) (b := wr.heap.size) (z := wrap64 (((G.toNat : Int) / 2 ^ m).tmod 2)) (base := gb) rfl ?hc0 ?hcb ?hc1 ?hc2 ?hc3 ?hcx; (case hc0 => exact hown.alloc _); (case hcb => rfl); (case hc1 => exact cell_top rfl rfl); (case hc2 => omega); (case hc3 => (simp; omega)); intro vv ww hown2 hbl2; have hBw2 := Below.trans (Below.alloc hBw hBw.size _) (hbl2.mono (by omega)); have hA2 := hA.below (Below.alloc (Below.refl wr.heap.size wr) (Nat.le_refl _) (.cells #[.int .i64 (wrap64 (((G.toNat : Int) / 2 ^ m).tmod 2))] 3)); have hsw := hbl2.size; (try simp at hsw)))
          go_roundw
          case rel =>
            go_light
            refine ⟨t + 1, m, by omega, by go_num, ?_, ?_, hBw2, by omega⟩
            · rw [List.range_succ, List.map_append, ← List.append_assoc]
              simp only [List.map_cons, List.map_nil]
              rw [← HZ.out, ← HGL.out]
              exact hown2
            · exact FunAt.mono hA2 hbl2 hgl
          case measure => go_light; simp [intOf]
end Go.Proofs.Ytnjjejhniekdcaa
