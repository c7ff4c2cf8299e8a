/- What rmcell.Pack and rmcell.Unpack answer, as one. -/
import Derived.Test.YtnjjejhniekdcaaRmUnpack
namespace Go.Proofs.Ytnjjejhniekdcaa
set_option linter.unusedVariables false
set_option linter.unusedSimpArgs false
open Go.RowKit
set_option maxRecDepth 100000
def at0 (zs : List Int) (k : Nat) : Int := zs[k]?.getD 0
def flU (zs : List Int) (d : Int) : Bool := decide (at0 zs 1 / d % 2 = 1)
def rights (er cc mc : Int) : Bool := rgtZ er && rgtZ cc && rgtZ mc
/-- the number of what is wrong with a payload. -/
def unE (zs : List Int) : Int := if sealZ zs = zs then (if at0 zs 0 = 1 then (if fixZ zs = true then (if rights (num2 zs 2) (num2 zs 4) (num2 zs 6) = true then 0 else 11) else 5) else 12) else 4
/-- what it tells. -/
def rmU (zs : List Int) : List Value := if unE zs = 0 then rmV (flU zs 128) (flU zs 64) (flU zs 32) (flU zs 16) (flU zs 8) (num2 zs 2) (num2 zs 4) (num2 zs 6) (num4 zs 8) (num4 zs 12) else rm0
theorem and_bit (p : Int) (h0 : 0 ≤ p) (h1 : p < 256) : (bits .and .u8 p 128 != 0) = decide (p / 128 % 2 = 1) ∧ (bits .and .u8 p 64 != 0) = decide (p / 64 % 2 = 1) ∧ (bits .and .u8 p 32 != 0) = decide (p / 32 % 2 = 1) ∧ (bits .and .u8 p 16 != 0) = decide (p / 16 % 2 = 1) ∧ (bits .and .u8 p 8 != 0) = decide (p / 8 % 2 = 1) := by
  obtain ⟨k, rfl⟩ := Int.eq_ofNat_of_zero_le h0
  have hall : (List.range 256).all (fun k => ((bits .and .u8 (k : Int) 128 != 0) == decide ((k : Int) / 128 % 2 = 1)) && ((bits .and .u8 (k : Int) 64 != 0) == decide ((k : Int) / 64 % 2 = 1)) && ((bits .and .u8 (k : Int) 32 != 0) == decide ((k : Int) / 32 % 2 = 1)) && ((bits .and .u8 (k : Int) 16 != 0) == decide ((k : Int) / 16 % 2 = 1)) && ((bits .and .u8 (k : Int) 8 != 0) == decide ((k : Int) / 8 % 2 = 1))) = true := by kernel_rfl
  have := List.all_eq_true.1 hall k (List.mem_range.2 (by omega))
  simp only [Bool.and_eq_true, beq_iff_eq] at this
  obtain ⟨⟨⟨⟨a, b⟩, c⟩, d⟩, e⟩ := this
  exact ⟨a, b, c, d, e⟩
theorem unpack_all (zs : List Int) (X : Array Value) (w : World) (hX : Hid (X = (u8s zs).toArray)) (hl : zs.length = 48) (hb : allB zs) :
    Calls Try.prog 12 #[.agg X] w fun e w' => e = .returned (.tuple #[.agg (rmU zs).toArray, .int .i64 (unE zs)]) ∧ Below w.heap.size w w' := by
  by_cases hs : sealZ zs = zs
  · have hS : Hid (decide (sealZ zs = zs) = true) := decide_eq_true hs
    by_cases hk : at0 zs 0 = 1
    · cases hf : fixZ zs with
      | true =>
        have b1 := byte_B hb 1
        unfold isB at b1
        obtain ⟨f0, f1, f2, f3, f4⟩ := and_bit _ b1.1 b1.2
        have hr := unpack_read zs X w hX hl hb hS _ rfl (by show ((zs[0]?.getD 0 : Int) != 1) = false; rw [show (zs[0]?.getD 0 : Int) = 1 from hk]; rfl) hf _ _ _ _ _ rfl rfl rfl rfl rfl (num2_bd hb 2).1 (num2_bd hb 2).2 (num2_bd hb 4).1 (num2_bd hb 4).2 (num2_bd hb 6).1 (num2_bd hb 6).2 _ rfl _ _ _ _ _ f0 f1 f2 f3 f4 _ rfl
        refine hr.mono ?_
        rintro e w' ⟨he, hb'⟩
        refine ⟨?_, hb'⟩
        split at he
        · rename_i h
          have hE : unE zs = 0 := by unfold unE; rw [if_pos hs, if_pos hk, if_pos hf, if_pos (show rights (num2 zs 2) (num2 zs 4) (num2 zs 6) = true from h)]
          unfold rmU
          rw [hE, if_pos rfl]
          exact he
        · rename_i h
          have hE : unE zs = 11 := by unfold unE; rw [if_pos hs, if_pos hk, if_pos hf, if_neg (show ¬ rights (num2 zs 2) (num2 zs 4) (num2 zs 6) = true from h)]
          unfold rmU
          rw [hE, if_neg (by decide)]
          exact he
      | false =>
        refine (unpack_form zs X w hX hl hb hS _ rfl (by show ((zs[0]?.getD 0 : Int) != 1) = false; rw [show (zs[0]?.getD 0 : Int) = 1 from hk]; rfl) hf).mono ?_
        rintro e w' ⟨he, hb'⟩
        refine ⟨?_, hb'⟩
        have hE : unE zs = 5 := by unfold unE; rw [if_pos hs, if_pos hk, if_neg (by rw [hf]; simp)]
        unfold rmU
        rw [hE, if_neg (by decide)]
        exact he
    · refine (unpack_kind zs X w hX hl hb hS _ rfl (by show ((zs[0]?.getD 0 : Int) != 1) = true; exact bne_iff_ne.2 hk)).mono ?_
      rintro e w' ⟨he, hb'⟩
      refine ⟨?_, hb'⟩
      have hE : unE zs = 12 := by unfold unE; rw [if_pos hs, if_neg hk]
      unfold rmU
      rw [hE, if_neg (by decide)]
      exact he
  · refine (unpack_sum zs X w hX hl hb (decide_eq_false hs)).mono ?_
    rintro e w' ⟨he, hb'⟩
    refine ⟨?_, hb'⟩
    have hE : unE zs = 4 := by unfold unE; rw [if_neg hs]
    unfold rmU
    rw [hE, if_neg (by decide)]
    exact he
theorem seal_at0 {zs : List Int} (hl : zs.length = 48) (k : Nat) (hk : k < 46) : at0 (sealZ zs) k = at0 zs k := by
  unfold at0; rw [sealZ_at hl, if_neg (by omega), if_neg (by omega)]
theorem seal_num2 {zs : List Int} (hl : zs.length = 48) (k : Nat) (hk : k < 45) : num2 (sealZ zs) k = num2 zs k := by
  have a := seal_at0 hl k (by omega); have b := seal_at0 hl (k + 1) (by omega)
  unfold at0 at a b; unfold num2; rw [a, b]
theorem seal_num4 {zs : List Int} (hl : zs.length = 48) (k : Nat) (hk : k < 43) : num4 (sealZ zs) k = num4 zs k := by
  have a := seal_at0 hl k (by omega); have b := seal_at0 hl (k + 1) (by omega); have c := seal_at0 hl (k + 2) (by omega); have d := seal_at0 hl (k + 3) (by omega)
  unfold at0 at a b c d; unfold num4; rw [a, b, c, d]
theorem seal_flU {zs : List Int} (hl : zs.length = 48) (d : Int) : flU (sealZ zs) d = flU zs d := by
  unfold flU; rw [seal_at0 hl 1 (by omega)]
theorem flagZ_bits (bk nr ci ni ra : Bool) : decide (flagZ bk nr ci ni ra / 128 % 2 = 1) = bk ∧ decide (flagZ bk nr ci ni ra / 64 % 2 = 1) = nr ∧ decide (flagZ bk nr ci ni ra / 32 % 2 = 1) = ci ∧ decide (flagZ bk nr ci ni ra / 16 % 2 = 1) = ni ∧ decide (flagZ bk nr ci ni ra / 8 % 2 = 1) = ra := by
  cases bk <;> cases nr <;> cases ci <;> cases ni <;> cases ra <;> decide
section
variable (bk nr ci ni ra : Bool) (er cc mc ql sn : Int)
theorem pack_fix : fixZ (sealZ (packZ bk nr ci ni ra er cc mc ql sn)) = true := by
  have hl := packZ_len bk nr ci ni ra er cc mc ql sn
  have hf := flagZ_bd bk nr ci ni ra
  have hr := regN_bd (packZ bk nr ci ni ra er cc mc ql sn)
  unfold fixZ
  rw [Bool.and_eq_true, Bool.and_eq_true, decide_eq_true_eq, decide_eq_true_eq]
  refine ⟨(allF_iff _ 30).2 fun k hk => ?_, ?_, ?_⟩
  · have h := seal_at0 hl (16 + k) (by omega)
    unfold at0 at h
    rw [h]
    have e : packZ bk nr ci ni ra er cc mc ql sn = ([1, flagZ bk nr ci ni ra] ++ be2 er ++ be2 cc ++ be2 mc ++ be4 ql ++ be4 sn) ++ (List.replicate 30 106 ++ [0, 0]) := by unfold packZ; rw [List.append_assoc]
    have e16 : ([1, flagZ bk nr ci ni ra] ++ be2 er ++ be2 cc ++ be2 mc ++ be4 ql ++ be4 sn).length = 16 := rfl
    rw [e, List.getElem?_append_right (by omega), e16, show 16 + k - 16 = k by omega]
    rw [List.getElem?_append_left (by simpa using hk), List.getElem?_replicate, if_pos hk]; rfl
  · have h := seal_at0 hl 1 (by omega)
    unfold at0 at h
    rw [h]
    exact hf.2.2
  · rw [sealZ_at hl, if_pos rfl]
    have : (packZ bk nr ci ni ra er cc mc ql sn)[46]?.getD 0 = 0 := rfl
    rw [this]; omega
theorem pack_nums (e0 : 0 ≤ er) (e1 : er < 65536) (c0 : 0 ≤ cc) (c1 : cc < 65536) (m0 : 0 ≤ mc) (m1 : mc < 65536) (q0 : 0 ≤ ql) (q1 : ql < 4294967296) (s0 : 0 ≤ sn) (s1 : sn < 4294967296) :
    num2 (sealZ (packZ bk nr ci ni ra er cc mc ql sn)) 2 = er ∧ num2 (sealZ (packZ bk nr ci ni ra er cc mc ql sn)) 4 = cc ∧ num2 (sealZ (packZ bk nr ci ni ra er cc mc ql sn)) 6 = mc ∧ num4 (sealZ (packZ bk nr ci ni ra er cc mc ql sn)) 8 = ql ∧ num4 (sealZ (packZ bk nr ci ni ra er cc mc ql sn)) 12 = sn := by
  have hl := packZ_len bk nr ci ni ra er cc mc ql sn
  rw [seal_num2 hl 2 (by omega), seal_num2 hl 4 (by omega), seal_num2 hl 6 (by omega), seal_num4 hl 8 (by omega), seal_num4 hl 12 (by omega)]
  refine ⟨?_, ?_, ?_, ?_, ?_⟩
  · show er / 256 % 256 * 256 + er % 256 = er; omega
  · show cc / 256 % 256 * 256 + cc % 256 = cc; omega
  · show mc / 256 % 256 * 256 + mc % 256 = mc; omega
  · show ((ql / 16777216 % 256 * 256 + ql / 65536 % 256) * 256 + ql / 256 % 256) * 256 + ql % 256 = ql; omega
  · show ((sn / 16777216 % 256 * 256 + sn / 65536 % 256) * 256 + sn / 256 % 256) * 256 + sn % 256 = sn; omega
theorem pack_back (e0 : 0 ≤ er) (e1 : er < 65536) (c0 : 0 ≤ cc) (c1 : cc < 65536) (m0 : 0 ≤ mc) (m1 : mc < 65536) (q0 : 0 ≤ ql) (q1 : ql < 4294967296) (s0 : 0 ≤ sn) (s1 : sn < 4294967296) (hR : rights er cc mc = true) :
    unE (sealZ (packZ bk nr ci ni ra er cc mc ql sn)) = 0 ∧ rmU (sealZ (packZ bk nr ci ni ra er cc mc ql sn)) = rmV bk nr ci ni ra er cc mc ql sn := by
  have hl := packZ_len bk nr ci ni ra er cc mc ql sn
  have hb := packZ_B bk nr ci ni ra er cc mc ql sn
  obtain ⟨n1, n2, n3, n4, n5⟩ := pack_nums bk nr ci ni ra er cc mc ql sn e0 e1 c0 c1 m0 m1 q0 q1 s0 s1
  have hE : unE (sealZ (packZ bk nr ci ni ra er cc mc ql sn)) = 0 := by
    unfold unE
    rw [if_pos (seal_seal hl hb), if_pos (by rw [seal_at0 hl 0 (by omega)]; rfl), if_pos (pack_fix ..), n1, n2, n3, if_pos hR]
  refine ⟨hE, ?_⟩
  unfold rmU
  rw [hE, if_pos rfl, n1, n2, n3, n4, n5, seal_flU hl, seal_flU hl, seal_flU hl, seal_flU hl, seal_flU hl]
  obtain ⟨g1, g2, g3, g4, g5⟩ := flagZ_bits bk nr ci ni ra
  show rmV (decide (flagZ bk nr ci ni ra / 128 % 2 = 1)) (decide (flagZ bk nr ci ni ra / 64 % 2 = 1)) (decide (flagZ bk nr ci ni ra / 32 % 2 = 1)) (decide (flagZ bk nr ci ni ra / 16 % 2 = 1)) (decide (flagZ bk nr ci ni ra / 8 % 2 = 1)) er cc mc ql sn = _
  rw [g1, g2, g3, g4, g5]
end
end Go.Proofs.Ytnjjejhniekdcaa
