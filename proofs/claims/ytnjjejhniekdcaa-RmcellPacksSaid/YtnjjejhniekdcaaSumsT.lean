/- The plain law of the checks: a bit that is turned over in five bytes tells itself. -/
import Derived.Test.YtnjjejhniekdcaaSumsB
import Derived.Test.YtnjjejhniekdcaaSumsG
namespace Go.Proofs.Ytnjjejhniekdcaa
set_option linter.unusedVariables false
set_option linter.unusedSimpArgs false
open Go.RowKit Crc
set_option maxRecDepth 100000
/-- a byte as a bit vector. -/
def bv (z : Int) : BitVec 8 := BitVec.ofNat 8 z.toNat
theorem bv_nat {z : Int} (h : isB z) : (((bv z).toNat : Nat) : Int) = z := by
  obtain ⟨h0, h1⟩ := h
  unfold bv
  simp
  omega
theorem xor_bv {a b : Int} (ha : isB a) (hb : isB b) : bits .xor .u8 a b = (((bv a ^^^ bv b).toNat : Nat) : Int) := by
  obtain ⟨m, rfl⟩ := Int.eq_ofNat_of_zero_le ha.1
  obtain ⟨n, rfl⟩ := Int.eq_ofNat_of_zero_le hb.1
  have h1 := ha.2
  have h2 := hb.2
  rw [u8_xor_nat m n (by omega) (by omega), BitVec.toNat_xor]
  unfold bv
  simp
  congr 2 <;> omega
theorem bv_xor {a b : Int} (ha : isB a) (hb : isB b) : bv (bits .xor .u8 a b) = bv a ^^^ bv b := by
  rw [xor_bv ha hb]
  show BitVec.ofNat 8 (((bv a ^^^ bv b).toNat : Nat) : Int).toNat = _
  rw [Int.toNat_natCast, BitVec.ofNat_toNat, BitVec.setWidth_eq]
theorem bv_inj {a b : Int} (ha : isB a) (hb : isB b) (h : bv a = bv b) : a = b := by rw [← bv_nat ha, ← bv_nat hb, h]
/-- how five bytes' check differs, as a bit vector. -/
def linV (zs : List Int) : BitVec 8 := bv (zs[4]?.getD 0) ^^^ c8 (zs.take 4)
theorem synd_five {zs : List Int} (h : zs.length = 5) (hb : allB zs) : synd zs = (((linV zs ^^^ 85#8).toNat : Nat) : Int) := by
  have hd : zs.dropLast = zs.take 4 := by rw [List.dropLast_eq_take, h]
  have hz : isB (zs[4]?.getD 0) := by rw [List.getElem?_eq_getElem (by omega)]; exact hb _ (List.getElem_mem _)
  unfold synd
  rw [if_neg (fun e => by rw [e] at h; simp at h), h, hd, xor_bv hz (e8_bd _)]
  unfold linV
  have e : bv (e8 (zs.take 4)) = c8 (zs.take 4) ^^^ 85#8 := by
    rw [e8_nat]; unfold bv; simp
  show ((bv (zs[4]?.getD 0) ^^^ bv (e8 (zs.take 4))).toNat : Int) = _
  rw [e, BitVec.xor_assoc]
theorem linV_xor {xs ys : List Int} (h1 : xs.length = 5) (h2 : ys.length = 5) (hx : allB xs) (hy : allB ys) : linV (xorB xs ys) = linV xs ^^^ linV ys := by
  have e1 : (xorB xs ys)[4]?.getD 0 = bits .xor .u8 (xs[4]?.getD 0) (ys[4]?.getD 0) := by
    unfold xorB
    rw [List.getElem?_zipWith, List.getElem?_eq_getElem (by omega : 4 < xs.length), List.getElem?_eq_getElem (by omega : 4 < ys.length)]
    rfl
  have e2 : (xorB xs ys).take 4 = xorB (xs.take 4) (ys.take 4) := by unfold xorB; rw [List.take_zipWith]
  have b1 : isB (xs[4]?.getD 0) := by rw [List.getElem?_eq_getElem (by omega)]; exact hx _ (List.getElem_mem _)
  have b2 : isB (ys[4]?.getD 0) := by rw [List.getElem?_eq_getElem (by omega)]; exact hy _ (List.getElem_mem _)
  unfold linV
  rw [e1, e2, bv_xor b1 b2, c8_xor (by simp; omega) (fun z hz => hx z (List.mem_of_mem_take hz)) (fun z hz => hy z (List.mem_of_mem_take hz))]
  generalize bv (xs[4]?.getD 0) = p
  generalize bv (ys[4]?.getD 0) = q
  generalize c8 (xs.take 4) = u
  generalize c8 (ys.take 4) = v
  ext i hi
  simp only [BitVec.getElem_xor]
  cases p[i] <;> cases q[i] <;> cases u[i] <;> cases v[i] <;> rfl
/-- one bit alone, of so many bytes. -/
def unitZ (n k : Nat) : List Int := (List.replicate n 0).set (k / 8) (128 / 2 ^ (k % 8))
theorem pow_isB (m : Nat) : isB (128 / 2 ^ m : Int) := by
  have h2 : 128 / 2 ^ m ≤ 128 := Nat.div_le_self _ _
  have e : (128 / 2 ^ m : Int) = ((128 / 2 ^ m : Nat) : Int) := by push_cast; rfl
  rw [e]; unfold isB; generalize 128 / 2 ^ m = q at *; omega
theorem unitZ_len (n k : Nat) : (unitZ n k).length = n := by simp [unitZ]
theorem unitZ_B (n k : Nat) : allB (unitZ n k) := by
  intro z hz
  unfold unitZ at hz
  rcases List.mem_or_eq_of_mem_set hz with h | h
  · rw [List.eq_of_mem_replicate h]; unfold isB; omega
  · rw [h]; exact pow_isB _
theorem xor_zero8 {a : Int} (ha : isB a) : bits .xor .u8 a 0 = a := by
  rw [xor_bv ha (by unfold isB; omega)]
  show (((bv a ^^^ 0#8).toNat : Nat) : Int) = a
  rw [BitVec.xor_zero, bv_nat ha]
theorem flip_unit {zs : List Int} (hb : allB zs) (k : Nat) : flipZ zs k = xorB zs (unitZ zs.length k) := by
  apply List.ext_getElem?
  intro i
  unfold flipZ xorB unitZ
  rw [List.getElem?_zipWith, List.getElem?_set, List.getElem?_set]
  by_cases h : k / 8 = i
  · subst h
    by_cases hl : k / 8 < zs.length
    · simp [hl]
    · simp [hl]
  · rw [if_neg h, if_neg h]
    by_cases hl : i < zs.length
    · rw [List.getElem?_eq_getElem hl, List.getElem?_replicate, if_pos hl]
      show some _ = some _
      rw [xor_zero8 (hb _ (List.getElem_mem _))]
    · rw [List.getElem?_eq_none (by omega)]
theorem flip_len (zs : List Int) (k : Nat) : (flipZ zs k).length = zs.length := by simp [flipZ]
theorem flip_B {zs : List Int} (hb : allB zs) (k : Nat) : allB (flipZ zs k) := by
  rw [flip_unit hb]; exact allB_xor hb (unitZ_B _ _)
theorem synd_flip {zs : List Int} (h : zs.length = 5) (hb : allB zs) (k : Nat) : synd (flipZ zs k) = (((linV zs ^^^ 85#8 ^^^ linV (unitZ 5 k)).toNat : Nat) : Int) := by
  rw [synd_five (by rw [flip_len, h]) (flip_B hb k), flip_unit hb, h, linV_xor h (unitZ_len _ _) hb (unitZ_B _ _)]
  congr 2
  rw [BitVec.xor_assoc, BitVec.xor_assoc, BitVec.xor_comm (linV (unitZ 5 k))]
theorem lin_right : linV [0, 0, 0, 0, 85] ^^^ 85#8 = 0#8 := by decide
theorem tabZ_lin (k : Nat) : tabZ k = (((linV (unitZ 5 k)).toNat : Nat) : Int) := by
  unfold tabZ
  rw [synd_flip rfl (by intro z hz; simp at hz; unfold isB; omega) k, lin_right, BitVec.zero_xor]
def tabL : List Int := [49, 155, 206, 103, 176, 88, 44, 22, 11, 134, 67, 162, 81, 171, 214, 107, 182, 91, 174, 87, 168, 84, 42, 21, 137, 199, 224, 112, 56, 28, 14, 7, 128, 64, 32, 16, 8, 4, 2, 1]
theorem tab_list : (List.range 40).map tabZ = tabL := by kernel_rfl
theorem tab_at {k : Nat} (h : k < 40) : tabL[k]? = some (tabZ k) := by
  rw [← tab_list, List.getElem?_map, List.getElem?_range h]; rfl
theorem tab_inj {i k : Nat} (hi : i < 40) (hk : k < 40) (h : tabZ i = tabZ k) : i = k := by
  have hd : tabL.Nodup := by decide
  have e : tabL[i]? = tabL[k]? := by rw [tab_at hi, tab_at hk, h]
  exact (List.getElem?_inj (by show i < 40; exact hi) hd).1 e
theorem tab_pos {k : Nat} (h : k < 40) : tabZ k ≠ 0 := by
  intro e
  have h1 := tab_at h
  rw [e] at h1
  have h2 : (0 : Int) ∈ tabL := List.mem_of_getElem? h1
  exact absurd h2 (by decide)
theorem tab_bd {k : Nat} (h : k < 40) : 0 ≤ tabZ k ∧ tabZ k < 256 := by
  rw [tabZ_lin]; have := (linV (unitZ 5 k)).isLt; omega
theorem findZ_spec (s : Int) : ∀ (n k i : Nat), k ≤ i → i < k + n → tabZ i = s → (∀ j, k ≤ j → j < i → tabZ j ≠ s) → findZ s n k = some i
  | 0, k, i, h1, h2, _, _ => by omega
  | n + 1, k, i, h1, h2, h3, h4 => by
    unfold findZ
    by_cases hk : k = i
    · subst hk; rw [if_pos h3]
    · rw [if_neg (h4 k (Nat.le_refl _) (by omega))]
      exact findZ_spec s n (k + 1) i (by omega) (by omega) h3 (fun j a b => h4 j (by omega) b)
theorem findZ_some {s : Int} : ∀ {n k i : Nat}, findZ s n k = some i → k ≤ i ∧ i < k + n ∧ tabZ i = s
  | 0, k, i, h => by cases h
  | n + 1, k, i, h => by
    unfold findZ at h
    split at h
    · injection h with h; subst h; exact ⟨Nat.le_refl _, by omega, by assumption⟩
    · have := findZ_some h; omega
theorem bitOf_tab {k : Nat} (h : k < 40) : bitOf (tabZ k) = some k :=
  findZ_spec _ 40 0 k (by omega) (by omega) rfl (fun j _ hj e => by have := tab_inj (by omega) h e; omega)
theorem bitV_tab {k : Nat} (h : k < 40) : bitV (tabZ k) = .tuple #[.int .i64 k, .bool true] := by unfold bitV; rw [bitOf_tab h]
theorem bitOf_some {s : Int} {k : Nat} (h : bitOf s = some k) : k < 40 ∧ tabZ k = s := by
  have := findZ_some h; omega
/-- four bytes with their check behind them. -/
theorem right_lin {zs : List Int} (h : zs.length = 4) (hb : allB zs) : linV (zs ++ [e8 zs]) ^^^ 85#8 = 0#8 := by
  unfold linV
  have e1 : (zs ++ [e8 zs])[4]?.getD 0 = e8 zs := by rw [List.getElem?_append_right (by omega), h]; rfl
  have e2 : (zs ++ [e8 zs]).take 4 = zs := by rw [← h, List.take_left]
  have e : bv (e8 zs) = c8 zs ^^^ 85#8 := by rw [e8_nat]; unfold bv; simp
  rw [e1, e2, e]
  generalize c8 zs = u
  ext i hi
  simp only [BitVec.getElem_xor]
  cases u[i] <;> cases (85#8)[i] <;> simp
theorem right_B {zs : List Int} (hb : allB zs) : allB (zs ++ [e8 zs]) := by
  intro z hz
  rcases List.mem_append.1 hz with h | h
  · exact hb z h
  · simp at h; rw [h]; exact e8_bd zs
theorem synd_right {zs : List Int} (h : zs.length = 4) (hb : allB zs) : synd (zs ++ [e8 zs]) = 0 := by
  rw [synd_five (by simp; omega) (right_B hb), right_lin h hb]; rfl
theorem synd_one {zs : List Int} (h : zs.length = 4) (hb : allB zs) (i : Nat) : synd (flipZ (zs ++ [e8 zs]) i) = tabZ i := by
  rw [synd_flip (by simp; omega) (right_B hb), right_lin h hb, BitVec.zero_xor, tabZ_lin]
theorem lin_flip {zs : List Int} (h : zs.length = 5) (hb : allB zs) (k : Nat) : linV (flipZ zs k) = linV zs ^^^ linV (unitZ 5 k) := by
  rw [flip_unit hb, h, linV_xor h (unitZ_len _ _) hb (unitZ_B _ _)]
theorem synd_two {zs : List Int} (h : zs.length = 4) (hb : allB zs) (i k : Nat) : synd (flipZ (flipZ (zs ++ [e8 zs]) i) k) = (((linV (unitZ 5 i) ^^^ linV (unitZ 5 k)).toNat : Nat) : Int) := by
  rw [synd_flip (by rw [flip_len]; simp; omega) (flip_B (right_B hb) i), lin_flip (by simp; omega) (right_B hb)]
  congr 2
  have := right_lin h hb
  generalize linV (zs ++ [e8 zs]) = u at *
  generalize linV (unitZ 5 i) = p
  generalize linV (unitZ 5 k) = q
  rw [BitVec.xor_assoc u p, BitVec.xor_comm p, ← BitVec.xor_assoc, this, BitVec.zero_xor]
theorem synd_two_zero {zs : List Int} (h : zs.length = 4) (hb : allB zs) {i k : Nat} (hi : i < 40) (hk : k < 40) : synd (flipZ (flipZ (zs ++ [e8 zs]) i) k) = 0 ↔ i = k := by
  rw [synd_two h hb]
  constructor
  · intro e
    have e0 : linV (unitZ 5 i) ^^^ linV (unitZ 5 k) = 0#8 := BitVec.eq_of_toNat_eq (by simpa using e)
    have e1 : linV (unitZ 5 i) = linV (unitZ 5 k) := BitVec.xor_eq_zero_iff.1 e0
    exact tab_inj hi hk (by rw [tabZ_lin, tabZ_lin, e1])
  · rintro rfl
    rw [BitVec.xor_self]; rfl
end Go.Proofs.Ytnjjejhniekdcaa
