import Derived.KernelRfl
import Derived.WalkLawsBesides
import Derived.StillTailTactics
import Derived.IntWalk
import Derived.Test.YtaoagbnhomjkpaaGreatZTopRates00
/- The plain law of the checks: a register behind bits, over bit vectors. No program in sight. -/
namespace Go.Proofs.YtaoagbnhomjkpaaGreat.Crc
set_option linter.unusedVariables false
variable {n : Nat}
/-- one bit into a register with the generator g. -/
def stepV (g r : BitVec n) (b : Bool) : BitVec n := (r <<< 1) ^^^ (if (r.msb != b) = true then g else 0#n)
def crcV (g r : BitVec n) (bs : List Bool) : BitVec n := bs.foldl (stepV g) r
theorem crcV_nil (g r : BitVec n) : crcV g r [] = r := rfl
theorem crcV_cons (g r : BitVec n) (b : Bool) (bs : List Bool) : crcV g r (b :: bs) = crcV g (stepV g r b) bs := rfl
theorem crcV_append (g r : BitVec n) (as0 bs : List Bool) : crcV g r (as0 ++ bs) = crcV g (crcV g r as0) bs := by
  unfold crcV; rw [List.foldl_append]
theorem stepV_xor (g r r' : BitVec n) (b b' : Bool) : stepV g (r ^^^ r') (b != b') = stepV g r b ^^^ stepV g r' b' := by
  unfold stepV
  rw [BitVec.shiftLeft_xor_distrib, BitVec.msb_xor]
  generalize r <<< 1 = u
  generalize r' <<< 1 = v
  generalize r.msb = p
  generalize r'.msb = q
  ext i hi
  cases p <;> cases q <;> cases b <;> cases b' <;> simp <;> cases u[i] <;> cases v[i] <;> cases g[i] <;> rfl
def xorL (as0 bs : List Bool) : List Bool := List.zipWith (· != ·) as0 bs
theorem crcV_xor (g : BitVec n) : ∀ (as0 bs : List Bool) (r r' : BitVec n), as0.length = bs.length → crcV g (r ^^^ r') (xorL as0 bs) = crcV g r as0 ^^^ crcV g r' bs
  | [], [], r, r', _ => rfl
  | a :: as0, b :: bs, r, r', h => by
    show crcV g (stepV g (r ^^^ r') (a != b)) (xorL as0 bs) = _
    rw [stepV_xor, crcV_xor g as0 bs _ _ (by simpa using h)]
    rfl
theorem stepV_zero (g : BitVec n) : stepV g 0#n false = 0#n := by simp [stepV]
theorem crcV_zeros (g : BitVec n) (k : Nat) : crcV g 0#n (List.replicate k false) = 0#n := by
  induction k with
  | zero => rfl
  | succ k ih => rw [List.replicate_succ, crcV_cons, stepV_zero, ih]
theorem stepV_low (g r : BitVec n) (b : Bool) (h0 : g.getLsbD 0 = true) (hn : 0 < n) (h : r.msb ≠ b) : (stepV g r b).getLsbD 0 = true := by
  unfold stepV
  rw [if_pos (by simpa using h)]
  simp [h0]
theorem stepV_same (g r : BitVec n) : stepV g r r.msb = r <<< 1 := by simp [stepV]
theorem stepV_inj (g r : BitVec n) (h0 : g.getLsbD 0 = true) (h : stepV g r false = 0#n) : r = 0#n := by
  have hn : 0 < n := by
    rcases Nat.eq_zero_or_pos n with rfl | h
    · simp [BitVec.of_length_zero] at h0
    · exact h
  by_cases hm : r.msb = false
  · rw [← hm, stepV_same] at h
    ext i hi
    rw [BitVec.getElem_zero]
    by_cases hl : i + 1 < n
    · have := congrArg (fun v => v.getLsbD (i + 1)) h
      simpa [hl] using this
    · have e : i = n - 1 := by omega
      rw [BitVec.msb_eq_getLsbD_last] at hm
      subst e
      simpa [BitVec.getLsbD_eq_getElem hi] using hm
  · have := stepV_low g r false h0 hn hm
    rw [h] at this
    simp at this
theorem crcV_zeros_inj (g : BitVec n) (h0 : g.getLsbD 0 = true) (k : Nat) : ∀ r, crcV g r (List.replicate k false) = 0#n → r = 0#n := by
  induction k with
  | zero => intro r h; exact h
  | succ k ih =>
    intro r h
    rw [List.replicate_succ, crcV_cons] at h
    exact stepV_inj g r h0 (ih _ h)
/-- the first m bits of a register. -/
def hi (r : BitVec n) (m : Nat) : List Bool := (List.range m).map fun i => r.getMsbD i
theorem hi_len (r : BitVec n) (m : Nat) : (hi r m).length = m := by simp [hi]
theorem hi_succ (r : BitVec n) (m : Nat) : hi r (m + 1) = hi r m ++ [r.getMsbD m] := by simp [hi, List.range_succ]
theorem crcV_self (g r : BitVec n) : ∀ m, m ≤ n → crcV g r (hi r m) = r <<< m := by
  intro m
  induction m with
  | zero => intro _; simp [hi, crcV]
  | succ m ih =>
    intro h
    rw [hi_succ, crcV_append, ih (by omega)]
    show stepV g (r <<< m) (r.getMsbD m) = _
    have e : (r <<< m).msb = r.getMsbD m := by
      rw [BitVec.msb_shiftLeft]
    rw [← e, stepV_same, ← BitVec.shiftLeft_add]
theorem crcV_own (g r : BitVec n) : crcV g r (hi r n) = 0#n := by
  rw [crcV_self g r n (Nat.le_refl _)]
  simp
theorem xorL_len (as0 bs : List Bool) (h : as0.length = bs.length) : (xorL as0 bs).length = as0.length := by simp [xorL, h]
theorem xorL_self (as0 bs : List Bool) (h : as0.length = bs.length) : xorL as0 (xorL as0 bs) = bs := by
  induction as0 generalizing bs with
  | nil => cases bs <;> simp_all [xorL]
  | cons a as0 ih =>
    cases bs with
    | nil => simp at h
    | cons b bs =>
      show (a != (a != b)) :: xorL as0 (xorL as0 bs) = _
      rw [ih bs (by simpa using h)]
      cases a <;> cases b <;> rfl
/-- a register's own bits stand for it. -/
theorem crcV_as (g r : BitVec n) (bs : List Bool) (h : bs.length = n) : crcV g r bs = crcV g 0#n (xorL (hi r n) bs) := by
  have e := crcV_xor g (hi r n) (xorL (hi r n) bs) r 0#n (by rw [xorL_len _ _ (by rw [hi_len, h]), hi_len])
  rw [xorL_self _ _ (by rw [hi_len, h]), crcV_own] at e
  simpa using e
/-- no more bits than a register has leave it 0 from 0 just if they are all 0. -/
theorem crcV_short (g : BitVec n) (h0 : g.getLsbD 0 = true) : ∀ (bs : List Bool) (r : BitVec n), bs.length ≤ n → crcV g r bs = 0#n → bs = hi r bs.length ∧ r <<< bs.length = 0#n
  | [], r, _, h => by
    constructor
    · rfl
    · have h' : r = 0#n := h
      simpa using h'
  | b :: bs, r, hl, h => by
    rw [List.length_cons] at hl
    rw [crcV_cons] at h
    obtain ⟨h1, h2⟩ := crcV_short g h0 bs (stepV g r b) (by omega) h
    by_cases hm : r.msb = b
    · rw [← hm, stepV_same] at h1 h2
      constructor
      · have e : hi r (b :: bs).length = r.msb :: hi (r <<< 1) bs.length := by
          rw [List.length_cons]
          unfold hi
          rw [List.range_succ_eq_map, List.map_cons, List.map_map]
          congr 1
          apply List.map_congr_left
          intro i hi'
          simp only [List.mem_range] at hi'
          simp only [Function.comp]
          rw [BitVec.getMsbD_shiftLeft]
        rw [e, ← h1, hm]
      · rw [List.length_cons, Nat.add_comm, BitVec.shiftLeft_add]; exact h2
    · have hn : 0 < n := by omega
      have hlow := stepV_low g r b h0 hn hm
      have := congrArg (fun v => v.getLsbD bs.length) h2
      simp at this
      rw [this (by omega)] at hlow
      simp at hlow
theorem crcV_short_zero (g : BitVec n) (h0 : g.getLsbD 0 = true) (bs : List Bool) (hl : bs.length ≤ n) (h : crcV g 0#n bs = 0#n) : bs = List.replicate bs.length false := by
  have := (crcV_short g h0 bs 0#n hl h).1
  rw [this, hi_len]
  unfold hi
  rw [List.eq_replicate_iff]
  constructor
  · simp
  · simp
/-- a window of bits between 0s. -/
theorem crcV_window (g : BitVec n) (h0 : g.getLsbD 0 = true) (i k : Nat) (bs : List Bool) (hl : bs.length ≤ n) :
    crcV g 0#n (List.replicate i false ++ bs ++ List.replicate k false) = 0#n ↔ bs = List.replicate bs.length false := by
  rw [crcV_append, crcV_append, crcV_zeros]
  constructor
  · intro h
    exact crcV_short_zero g h0 bs hl (crcV_zeros_inj g h0 k _ h)
  · intro h
    rw [h, crcV_zeros, crcV_zeros]
end Go.Proofs.YtaoagbnhomjkpaaGreat.Crc

/- The checks as0 bit vectors: what the walk's words for them are. -/
namespace Go.Proofs.YtaoagbnhomjkpaaGreat
set_option linter.unusedVariables false
set_option linter.unusedSimpArgs false
open Go.RowKit Crc
set_option maxRecDepth 100000
theorem and_pow (a i : Nat) : a &&& 2 ^ i = if a.testBit i then 2 ^ i else 0 := by
  apply Nat.eq_of_testBit_eq
  intro j
  rw [Nat.testBit_and, Nat.testBit_two_pow]
  by_cases h : i = j
  · subst h
    cases a.testBit i <;> simp
  · cases a.testBit i <;> simp [h, Nat.testBit_two_pow]
theorem u32_and_nat (a b : Nat) (ha : a < 4294967296) (hb : b < 4294967296) : bits .and .u32 (a : Int) (b : Int) = ((a &&& b : Nat) : Int) := by
  have hor : a &&& b < 2 ^ 32 := Nat.lt_of_le_of_lt Nat.and_le_left (by omega)
  have h1 : (BitVec.ofInt 32 (a : Int)).toNat = a := by simp; omega
  have h2 : (BitVec.ofInt 32 (b : Int)).toNat = b := by simp; omega
  show IntKind.u32.wrap ((BitVec.ofInt 32 (a : Int) &&& BitVec.ofInt 32 (b : Int)).toNat : Int) = _
  rw [BitVec.toNat_and, h1, h2]
  simp [IntKind.bits, IntKind.wrap, IntKind.signed]
  omega
theorem u32_xor_nat (a b : Nat) (ha : a < 4294967296) (hb : b < 4294967296) : bits .xor .u32 (a : Int) (b : Int) = ((a ^^^ b : Nat) : Int) := by
  have hor : a ^^^ b < 2 ^ 32 := Nat.xor_lt_two_pow (by omega) (by omega)
  have h1 : (BitVec.ofInt 32 (a : Int)).toNat = a := by simp; omega
  have h2 : (BitVec.ofInt 32 (b : Int)).toNat = b := by simp; omega
  show IntKind.u32.wrap ((BitVec.ofInt 32 (a : Int) ^^^ BitVec.ofInt 32 (b : Int)).toNat : Int) = _
  rw [BitVec.toNat_xor, h1, h2]
  simp [IntKind.bits, IntKind.wrap, IntKind.signed]
  omega
theorem u8_xor_nat (a b : Nat) (ha : a < 256) (hb : b < 256) : bits .xor .u8 (a : Int) (b : Int) = ((a ^^^ b : Nat) : Int) := by
  have hor : a ^^^ b < 2 ^ 8 := Nat.xor_lt_two_pow (by omega) (by omega)
  have h1 : (BitVec.ofInt 8 (a : Int)).toNat = a := by simp; omega
  have h2 : (BitVec.ofInt 8 (b : Int)).toNat = b := by simp; omega
  show IntKind.u8.wrap ((BitVec.ofInt 8 (a : Int) ^^^ BitVec.ofInt 8 (b : Int)).toNat : Int) = _
  rw [BitVec.toNat_xor, h1, h2]
  simp [IntKind.bits, IntKind.wrap, IntKind.signed]
  omega
theorem msb_test {n : Nat} (v : BitVec n) (h : 0 < n) : v.msb = v.toNat.testBit (n - 1) := by
  rw [BitVec.msb_eq_getLsbD_last]; rfl
theorem stepR_eq {n : Nat} (hn : 0 < n) (hn2 : n ≤ 32) (g v : BitVec n) (b : Bool) :
    stepR ((2 ^ (n - 1) : Nat) : Int) (g.toNat : Int) ((2 ^ n - 1 : Nat) : Int) (v.toNat : Int) b = ((stepV g v b).toNat : Int) := by
  have hp : 2 ^ n ≤ 2 ^ 32 := Nat.pow_le_pow_right (by decide) hn2
  have hp1 : 2 ^ n = 2 * 2 ^ (n - 1) := by
    conv => lhs; rw [show n = (n - 1) + 1 by omega]
    rw [Nat.pow_succ, Nat.mul_comm]
  have hv := v.isLt
  have hg := g.isLt
  have hpos : 0 < 2 ^ (n - 1) := Nat.pow_pos (by decide)
  have e1 : (bits .and .u32 (v.toNat : Int) ((2 ^ (n - 1) : Nat) : Int) != 0) = v.msb := by
    rw [u32_and_nat _ _ (by omega) (by omega), and_pow, msb_test v hn]
    cases v.toNat.testBit (n - 1)
    · rfl
    · have h0 : ((2 ^ (n - 1) : Nat) : Int) ≠ 0 := by omega
      rw [if_pos rfl]
      exact bne_iff_ne.2 h0
  have e2 : ((v.toNat : Int) * 2 % 4294967296) = ((v.toNat * 2 % 4294967296 : Nat) : Int) := by omega
  have e3 : bits .and .u32 ((v.toNat : Int) * 2 % 4294967296) ((2 ^ n - 1 : Nat) : Int) = (((v <<< 1).toNat : Nat) : Int) := by
    rw [e2, u32_and_nat _ _ (Nat.mod_lt _ (by decide)) (by omega), Nat.and_two_pow_sub_one_eq_mod, BitVec.toNat_shiftLeft, Nat.shiftLeft_eq, Nat.pow_one]
    have hd : 2 ^ n ∣ 4294967296 := ⟨2 ^ (32 - n), by rw [← Nat.pow_add]; rw [show n + (32 - n) = 32 by omega]⟩
    rw [Nat.mod_mod_of_dvd _ hd]
  have hs := (v <<< 1).isLt
  unfold stepR stepV
  rw [e1, e3]
  by_cases hb : v.msb = b
  · subst hb
    simp
  · have hb' : (v.msb != b) = true := by simpa using hb
    have hb2 : (v.msb == b) = false := by simpa using hb
    rw [if_neg (by rw [hb2]; simp), if_pos hb', u32_xor_nat _ _ (by omega) (by omega), BitVec.toNat_xor]
theorem restZ_eq {n : Nat} (hn : 0 < n) (hn2 : n ≤ 32) (g v : BitVec n) (zs : List Int) :
    restZ zs (v.toNat : Int) ((2 ^ (n - 1) : Nat) : Int) (g.toNat : Int) = ((crcV g v (bitsL zs)).toNat : Int) := by
  have hp1 : 2 ^ n = 2 * 2 ^ (n - 1) := by
    conv => lhs; rw [show n = (n - 1) + 1 by omega]
    rw [Nat.pow_succ, Nat.mul_comm]
  have hp : 2 ^ n ≤ 2 ^ 32 := Nat.pow_le_pow_right (by decide) hn2
  have hpos : 0 < 2 ^ (n - 1) := Nat.pow_pos (by decide)
  have hm : maskR ((2 ^ (n - 1) : Nat) : Int) = ((2 ^ n - 1 : Nat) : Int) := by
    unfold maskR
    rw [hp1]
    omega
  unfold restZ crcV
  rw [hm]
  generalize bitsL zs = bs
  induction bs generalizing v with
  | nil => rfl
  | cons b bs ih => rw [List.foldl_cons, stepR_eq hn hn2, ih]; rfl
/-- the three registers. -/
def c8 (zs : List Int) : BitVec 8 := crcV 7#8 0#8 (bitsL zs)
def c10 (zs : List Int) : BitVec 10 := crcV 563#10 0#10 (bitsL zs)
def c32 (zs : List Int) : BitVec 32 := crcV 79764919#32 (BitVec.allOnes 32) (bitsL zs)
def e8 (zs : List Int) : Int := ((c8 zs ^^^ 85#8).toNat : Int)
def t10 (zs : List Int) : Int := ((c10 zs).toNat : Int)
def l32 (zs : List Int) : Int := ((~~~ c32 zs).toNat : Int)
theorem rest8 (zs : List Int) : restZ zs 0 128 7 = ((c8 zs).toNat : Int) := restZ_eq (n := 8) (by decide) (by decide) 7#8 0#8 zs
theorem rest10 (zs : List Int) : restZ zs 0 512 563 = ((c10 zs).toNat : Int) := restZ_eq (n := 10) (by decide) (by decide) 563#10 0#10 zs
theorem rest32 (zs : List Int) : restZ zs 4294967295 2147483648 79764919 = ((c32 zs).toNat : Int) := restZ_eq (n := 32) (by decide) (by decide) 79764919#32 (BitVec.allOnes 32) zs
theorem eight_eq (zs : List Int) : bits .xor .u8 (restZ zs 0 128 7 % 256) 85 = e8 zs := by
  have h := (c8 zs).isLt
  rw [rest8]
  have e : ((c8 zs).toNat : Int) % 256 = (((c8 zs).toNat : Nat) : Int) := by omega
  rw [e]
  unfold e8
  rw [BitVec.toNat_xor]
  exact u8_xor_nat (c8 zs).toNat 85 (by omega) (by omega)
theorem ten_eq (zs : List Int) : IntKind.u16.wrap (restZ zs 0 512 563) = t10 zs := by
  have h := (c10 zs).isLt
  rw [rest10]
  unfold t10
  simp [IntKind.bits, IntKind.wrap, IntKind.signed]
  omega
theorem long_eq (zs : List Int) : bits .xor .u32 IntKind.u32.max (restZ zs 4294967295 2147483648 79764919) = l32 zs := by
  have h := (c32 zs).isLt
  rw [rest32]
  unfold l32
  have e : bits .xor .u32 IntKind.u32.max ((c32 zs).toNat : Int) = ((4294967295 ^^^ (c32 zs).toNat : Nat) : Int) := u32_xor_nat 4294967295 (c32 zs).toNat (by decide) (by omega)
  rw [e]
  have e2 : (~~~ c32 zs) = BitVec.allOnes 32 ^^^ c32 zs := BitVec.not_def
  rw [e2, BitVec.toNat_xor]
  rfl
theorem e8_bd (zs : List Int) : 0 ≤ e8 zs ∧ e8 zs < 256 := by have := (c8 zs ^^^ 85#8).isLt; unfold e8; omega
theorem t10_bd (zs : List Int) : 0 ≤ t10 zs ∧ t10 zs < 1024 := by have := (c10 zs).isLt; unfold t10; omega
theorem l32_bd (zs : List Int) : 0 ≤ l32 zs ∧ l32 zs < 4294967296 := by have := (~~~ c32 zs).isLt; unfold l32; omega
attribute [irreducible] e8 t10 l32
end Go.Proofs.YtaoagbnhomjkpaaGreat

/- Slices of bytes that read as lists; are two alike? -/
namespace Go.Proofs.YtaoagbnhomjkpaaGreat
set_option linter.unusedVariables false
set_option linter.unusedSimpArgs false
open Go.RowKit
set_option maxRecDepth 100000
set_option maxHeartbeats 4000000
/-- a slice of bytes that reads as zs. -/
structure BytesAt (w : World) (a : Option Addr) (len : Nat) (zs : List Int) : Prop where
  length : zs.length = len
  most : len ≤ 140737488355328
  byte : ∀ k : Nat, 0 ≤ zs[k]?.getD 0 ∧ zs[k]?.getD 0 < 256
  cells : 0 < len → ∃ b off, a = some ⟨b, off, none⟩ ∧ b < w.heap.size ∧ ∀ k, k < len → w.cell? ⟨b, off + k, none⟩ = some (.int .u8 (zs[k]?.getD 0))
theorem BytesAt.below {w w' : World} {a : Option Addr} {len : Nat} {zs : List Int} (h : BytesAt w a len zs) (hb : Below w.heap.size w w') : BytesAt w' a len zs :=
  ⟨h.length, h.most, h.byte, fun hp => by
    obtain ⟨b, off, h1, h2, h3⟩ := h.cells hp
    exact ⟨b, off, h1, Nat.lt_of_lt_of_le h2 hb.size, fun k hk => (hb.cell (p := ⟨b, off + k, none⟩) h2).trans (h3 k hk)⟩⟩
theorem take_more {xs ys : List Int} {k : Nat} (h : xs.take k = ys.take k) (hx : k < xs.length) (hy : k < ys.length) (e : xs[k]?.getD 0 = ys[k]?.getD 0) : xs.take (k + 1) = ys.take (k + 1) := by
  rw [List.take_succ_eq_append_getElem hx, List.take_succ_eq_append_getElem hy, h]
  rw [List.getElem?_eq_getElem hx, List.getElem?_eq_getElem hy] at e
  simp at e
  rw [e]
theorem BytesAt.nil (w : World) : BytesAt w none 0 [] := ⟨rfl, by omega, fun k => by simp, fun h => by omega⟩
end Go.Proofs.YtaoagbnhomjkpaaGreat

/- The walks of the layer 'sums': the three checks, how a header's check differs, and which bit that tells. -/
namespace Go.Proofs.YtaoagbnhomjkpaaGreat
set_option linter.unusedVariables false
set_option linter.unusedSimpArgs false
open Go.RowKit
set_option maxRecDepth 100000
set_option maxHeartbeats 4000000
theorem rest_at {w : World} {a : Option Addr} {len cap : Nat} {zs : List Int} (h : BytesAt w a len zs) (r top by' : Int) :
    Calls Tryz.prog 104 #[.slice a len cap, .int .u32 r, .int .u32 top, .int .u32 by'] w fun e w' => e = .returned (.int .u32 (restZ zs r top by')) ∧ Below w.heap.size w w' :=
  rest_any a len cap zs h.length (by have := h.most; omega) h.byte r top by' w h.cells
attribute [local irreducible] restZ
theorem eight_at {w : World} {a : Option Addr} {len cap : Nat} {zs : List Int} (h : BytesAt w a len zs) :
    Calls Tryz.prog 80 #[.slice a len cap] w fun e w' => e = .returned (.int .u8 (e8 zs)) ∧ Below w.heap.size w w' := by
  go_enter Tryz.func80, Tryz.ntmps80
  go_wp2_with (go_at_call 104; refine (rest_at h _ _ _).mono ?_; rintro e w' ⟨rfl, hb⟩)
  go_ret
  exact ⟨ret_int (eight_eq zs), hb⟩
theorem ten_at {w : World} {a : Option Addr} {len cap : Nat} {zs : List Int} (h : BytesAt w a len zs) :
    Calls Tryz.prog 127 #[.slice a len cap] w fun e w' => e = .returned (.int .u16 (t10 zs)) ∧ Below w.heap.size w w' := by
  go_enter Tryz.func127, Tryz.ntmps127
  go_wp2_with (go_at_call 104; refine (rest_at h _ _ _).mono ?_; rintro e w' ⟨rfl, hb⟩)
  go_ret
  exact ⟨ret_int (ten_eq zs), hb⟩
theorem long_at {w : World} {a : Option Addr} {len cap : Nat} {zs : List Int} (h : BytesAt w a len zs) :
    Calls Tryz.prog 129 #[.slice a len cap] w fun e w' => e = .returned (.int .u32 (l32 zs)) ∧ Below w.heap.size w w' := by
  go_enter Tryz.func129, Tryz.ntmps129
  go_wp2_with (go_at_call 104; refine (rest_at h _ _ _).mono ?_; rintro e w' ⟨rfl, hb⟩)
  go_ret
  exact ⟨ret_int (long_eq zs), hb⟩
/-- how a header's check differs. -/
def synd (zs : List Int) : Int := if zs = [] then 0 else bits .xor .u8 (zs[zs.length - 1]?.getD 0) (e8 zs.dropLast)
theorem BytesAt.head {w : World} {a : Option Addr} {len n : Nat} {zs : List Int} (h : BytesAt w a len zs) (hn : n ≤ len) (hp : 0 < len) : BytesAt w a n (zs.take n) := by
  refine ⟨by simp [h.length]; omega, by have := h.most; omega, fun k => ?_, fun h0 => ?_⟩
  · by_cases hk : k < n
    · rw [List.getElem?_take_of_lt hk]; exact h.byte k
    · rw [List.getElem?_take_eq_none (by omega)]; simp
  · obtain ⟨b, off, e1, e2, e3⟩ := h.cells hp
    refine ⟨b, off, e1, e2, fun k hk => ?_⟩
    rw [List.getElem?_take_of_lt hk]
    exact e3 k (by omega)
theorem synd_at {w : World} {a : Option Addr} {len cap : Nat} {zs : List Int} (h : BytesAt w a len zs) (hcap : len ≤ cap) (hcap2 : cap ≤ 9223372036854775807) :
    Calls Tryz.prog 71 #[.slice a len cap] w fun e w' => e = .returned (.int .u8 (synd zs)) ∧ Below w.heap.size w w' := by
  by_cases h0 : len = 0
  · subst h0
    have hz : zs = [] := List.eq_nil_of_length_eq_zero h.length
    go_enter Tryz.func71, Tryz.ntmps71
    go_wp2
    go_ret
    exact ⟨ret_int (by simp [synd, hz]), by (repeat' (first | (with_reducible exact Below.refl _ _) | (with_reducible assumption) | (with_reducible refine below_drewN ?_ _) | (with_reducible refine Below.drew ?_) | ((with_reducible refine Below.alloc ?_ ?_ _); (rotate_left; focus (first | omega | (simp; done) | (simp; omega)))) | ((with_reducible refine Below.setCell ?_ ?_ _); (rotate_left; focus (first | omega | (simp; done) | (simp; omega)))) | (with_reducible refine Below.grown ?_ (by assumption) (by first | omega | (simp; omega)) (by simp [Value.ownBlock]; try omega)) | (with_reducible refine below_then ?_ (Aft.below _)) | (with_reducible apply below_then; rotate_left; assumption)))⟩
  · obtain ⟨b, off, rfl, hb, hc⟩ := h.cells (by omega)
    have hm := h.most
    obtain ⟨n, rfl⟩ : ∃ n, len = n + 1 := ⟨len - 1, by omega⟩
    have hi := hc n (by omega)
    clear hc
    have hl : (0 : Int) ≤ n := by omega
    have HH : BytesAt w (some ⟨b, off, none⟩) n (zs.take n) := h.head (by omega) (by omega)
    have hlen : zs.length = n + 1 := h.length
    have hds : zs.take n = zs.dropLast := by rw [List.dropLast_eq_take, hlen]; rfl
    have hsy : synd zs = bits .xor .u8 (zs[n]?.getD 0) (e8 (zs.take n)) := by
      unfold synd
      rw [if_neg (fun e => by rw [e] at hlen; simp at hlen), hlen, hds]; rfl
    rw [hsy]
    generalize zs[n]?.getD 0 = zl at hi ⊢
    generalize zs.take n = zh at HH ⊢
    clear hsy hds hlen h
    go_enter Tryz.func71, Tryz.ntmps71
    go_wp2
    have hn1 : (n : Int) < (n : Int) + 1 := by omega
    have hn2 : (n : Int) ≤ cap := by omega
    have hn3 : n < n + 1 := by omega
    have hn4 : n ≤ cap := by omega
    refine wp_region_hold (by kernel_rfl) (by kernel_rfl) ?_
    (repeat (go_big_quiet_step ((first | (go_at_call 80; exact aft_of (eight_at (HH.below (Aft.below _))))))))
    refine wpQuiet_nil ?_
    intro _ hw'
    obtain ⟨g, hw''⟩ := hw'
    subst hw''
    have hg := g.below
    go_wp2
    go_ret
    exact ⟨ret_int (by simp), by (repeat' (first | (with_reducible exact Below.refl _ _) | (with_reducible assumption) | (with_reducible refine below_drewN ?_ _) | (with_reducible refine Below.drew ?_) | ((with_reducible refine Below.alloc ?_ ?_ _); (rotate_left; focus (first | omega | (simp; done) | (simp; omega)))) | ((with_reducible refine Below.setCell ?_ ?_ _); (rotate_left; focus (first | omega | (simp; done) | (simp; omega)))) | (with_reducible refine Below.grown ?_ (by assumption) (by first | omega | (simp; omega)) (by simp [Value.ownBlock]; try omega)) | (with_reducible refine below_then ?_ (Aft.below _)) | (with_reducible apply below_then; rotate_left; assumption)))⟩
end Go.Proofs.YtaoagbnhomjkpaaGreat

/- The walk of sums.Bit: which single bit a difference tells. -/
namespace Go.Proofs.YtaoagbnhomjkpaaGreat
set_option linter.unusedVariables false
set_option linter.unusedSimpArgs false
open Go.RowKit
set_option maxRecDepth 100000
set_option maxHeartbeats 8000000
theorem region_tail {P : Program} {id : Nat} {Q : Exit → Act → World → Prop} {a : Act} {w : World} {l : List Oper} (n : Nat) (hm : P.follows .mixedOrders = true) (hB : Region.lexTailB .any l.toArray n = true)
    (h : wpStill P l.toArray w.drew (fun a' => wpList P l.toArray Q (l.drop n) a' w.drew) (l.take n) a) : (Code.region id l.toArray true).wp P Q a w := wp_region_still_tail n hm hB h
/-- bytes with a bit turned over. -/
def flipZ (zs : List Int) (k : Nat) : List Int := zs.set (k / 8) (bits .xor .u8 (zs[k / 8]?.getD 0) (128 / 2 ^ (k % 8)))
def tabZ (k : Nat) : Int := synd (flipZ [0, 0, 0, 0, 85] k)
theorem five_at {w : World} {b : Nat} {x y z u v : Int} (hb : b < w.heap.size) (h0 : w.cell? ⟨b, 0, none⟩ = some (.int .u8 x)) (h1 : w.cell? ⟨b, 1, none⟩ = some (.int .u8 y)) (h2 : w.cell? ⟨b, 2, none⟩ = some (.int .u8 z)) (h3 : w.cell? ⟨b, 3, none⟩ = some (.int .u8 u)) (h4 : w.cell? ⟨b, 4, none⟩ = some (.int .u8 v))
    (hv : ∀ q ∈ [x, y, z, u, v], 0 ≤ q ∧ q < 256) : BytesAt w (some ⟨b, 0, none⟩) 5 [x, y, z, u, v] :=
  ⟨rfl, by omega, fun k => by
    match k with
    | 0 => exact hv x (by simp)
    | 1 => exact hv y (by simp)
    | 2 => exact hv z (by simp)
    | 3 => exact hv u (by simp)
    | 4 => exact hv v (by simp)
    | k + 5 => simp,
   fun _ => ⟨b, 0, rfl, hb, fun k hk => by
    match k, hk with
    | 0, _ => exact h0
    | 1, _ => exact h1
    | 2, _ => exact h2
    | 3, _ => exact h3
    | 4, _ => exact h4⟩⟩
/-- the first bit that tells a difference, from bit k on. -/
def findZ (s : Int) : Nat → Nat → Option Nat
  | 0, _ => none
  | n + 1, k => if tabZ k = s then some k else findZ s n (k + 1)
def bitOf (s : Int) : Option Nat := findZ s 40 0
attribute [local irreducible] synd
/-- what Bit hands back. -/
def bitV (s : Int) : Value := match bitOf s with
  | some k => .tuple #[.int .i64 k, .bool true]
  | none => .tuple #[.int .i64 0, .bool false]
theorem bit_yes {s : Int} {k n : Nat} (h : bitOf s = findZ s (n + 1) k) (ht : (tabZ k == s) = true) : bitV s = .tuple #[.int .i64 k, .bool true] := by
  unfold bitV; rw [h]; unfold findZ; rw [if_pos (eq_of_beq ht)]
theorem bit_next {s : Int} {k n : Nat} (h : bitOf s = findZ s (n + 1) k) (ht : (tabZ k == s) = false) : bitOf s = findZ s n (k + 1) := by
  rw [h]; show (if tabZ k = s then some k else findZ s n (k + 1)) = _; rw [if_neg (by simpa using ht)]
theorem bit_any (s : Int) (w : World) (h0 : 0 ≤ s) (h1 : s < 256) :
    Calls Tryz.prog 72 #[.int .u8 s] w fun e w' => e = .returned (bitV s) ∧ Below w.heap.size w w' := by
  have W0 : IntKind.i64.wrap 0 = 0 := by decide
  have W1 : IntKind.i64.wrap 1 = 1 := by decide
  have W2 : IntKind.i64.wrap 2 = 2 := by decide
  have W3 : IntKind.i64.wrap 3 = 3 := by decide
  have W4 : IntKind.i64.wrap 4 = 4 := by decide
  have W5 : IntKind.i64.wrap 5 = 5 := by decide
  have W6 : IntKind.i64.wrap 6 = 6 := by decide
  have W7 : IntKind.i64.wrap 7 = 7 := by decide
  go_enter Tryz.func72, Tryz.ntmps72
  go_wp2
  go_loopw [2, 3, 4, 5, 6] (fun s2 s3 s4 s5 s6 wr => ∃ i : Int, 0 ≤ i ∧ i ≤ 40 ∧ s2 = .int .i64 0 ∧ s3 = .bool false ∧ s6 = .int .i64 i ∧ Hid (bitOf s = findZ s (40 - i.toNat) i.toNat) ∧ Below w.heap.size w wr) (fun s2 s3 s4 s5 s6 wr => 40 - (intOf s6).toNat)
  case atStart => exact ⟨0, by omega, by omega, rfl, rfl, rfl, Lib.hid rfl, Below.refl _ _⟩
  case round =>
    obtain ⟨i, hi0, hi1, rfl, rfl, rfl, HT, hB⟩ := hrel
    by_cases hlt : i < 40
    · have hi : i = 0 ∨ i = 1 ∨ i = 2 ∨ i = 3 ∨ i = 4 ∨ i = 5 ∨ i = 6 ∨ i = 7 ∨ i = 8 ∨ i = 9 ∨ i = 10 ∨ i = 11 ∨ i = 12 ∨ i = 13 ∨ i = 14 ∨ i = 15 ∨ i = 16 ∨ i = 17 ∨ i = 18 ∨ i = 19 ∨ i = 20 ∨ i = 21 ∨ i = 22 ∨ i = 23 ∨ i = 24 ∨ i = 25 ∨ i = 26 ∨ i = 27 ∨ i = 28 ∨ i = 29 ∨ i = 30 ∨ i = 31 ∨ i = 32 ∨ i = 33 ∨ i = 34 ∨ i = 35 ∨ i = 36 ∨ i = 37 ∨ i = 38 ∨ i = 39 := by omega
      rcases hi with rfl | rfl | rfl | rfl | rfl | rfl | rfl | rfl | rfl | rfl | rfl | rfl | rfl | rfl | rfl | rfl | rfl | rfl | rfl | rfl | rfl | rfl | rfl | rfl | rfl | rfl | rfl | rfl | rfl | rfl | rfl | rfl | rfl | rfl | rfl | rfl | rfl | rfl | rfl | rfl
      all_goals
        go_wp2
        have hw : ∃ w2 : World, w2 = (wr.alloc (.cells #[.int .u8 0, .int .u8 0, .int .u8 0, .int .u8 0, .int .u8 85] 130)).drew := ⟨_, rfl⟩
        obtain ⟨w2, hw2⟩ := hw
        refine region_tail 9 (by kernel_rfl) (by kernel_rfl) ?_
        rw [← hw2]
        have q0 : w2.cell? ⟨wr.heap.size, 0, none⟩ = some (.int .u8 0) := by rw [hw2]; exact cell_top rfl rfl
        have q1 : w2.cell? ⟨wr.heap.size, 1, none⟩ = some (.int .u8 0) := by rw [hw2]; exact cell_top rfl rfl
        have q2 : w2.cell? ⟨wr.heap.size, 2, none⟩ = some (.int .u8 0) := by rw [hw2]; exact cell_top rfl rfl
        have q3 : w2.cell? ⟨wr.heap.size, 3, none⟩ = some (.int .u8 0) := by rw [hw2]; exact cell_top rfl rfl
        have q4 : w2.cell? ⟨wr.heap.size, 4, none⟩ = some (.int .u8 85) := by rw [hw2]; exact cell_top rfl rfl
        have qf : ∀ o, w2.frozen? ⟨wr.heap.size, o, none⟩ = false := fun o => by rw [hw2]; exact World.frozen?_alloc_new _ _ _ _
        have hs2 : w2.heap.size = wr.heap.size + 1 := by rw [hw2]; simp
        have hs3 : wr.heap.size < w2.heap.size := by omega
        have hB2 : Below w.heap.size w w2 := by rw [hw2]; exact (hB.alloc hB.size _).drew
        have hsw := hB.size
        clear hw2
        have HS := Lib.hid hs2
        clear hs2
        simp only [List.take_succ_cons, List.take_zero, List.drop_succ_cons, List.drop_zero]
        repeat still_step
        refine wpStill_nil ?_
        have hbb : ∀ (q : Nat) (v : Value), wr.heap.size < (w2.setCell ⟨wr.heap.size, q, none⟩ v).heap.size := fun q v => by simp; omega
        go_wp2_with (first | (go_at_call 71; (with_reducible refine (synd_at (five_at (hbb _ _) (cell_set q0) (cell_off (by decide) q1) (cell_off (by decide) q2) (cell_off (by decide) q3) (cell_off (by decide) q4) ?hv0) (by decide) (by decide)).mono ?_); (case hv0 => decide); rintro e w' ⟨rfl, hb⟩) | (go_at_call 71; (with_reducible refine (synd_at (five_at (hbb _ _) (cell_off (by decide) q0) (cell_set q1) (cell_off (by decide) q2) (cell_off (by decide) q3) (cell_off (by decide) q4) ?hv1) (by decide) (by decide)).mono ?_); (case hv1 => decide); rintro e w' ⟨rfl, hb⟩) | (go_at_call 71; (with_reducible refine (synd_at (five_at (hbb _ _) (cell_off (by decide) q0) (cell_off (by decide) q1) (cell_set q2) (cell_off (by decide) q3) (cell_off (by decide) q4) ?hv2) (by decide) (by decide)).mono ?_); (case hv2 => decide); rintro e w' ⟨rfl, hb⟩) | (go_at_call 71; (with_reducible refine (synd_at (five_at (hbb _ _) (cell_off (by decide) q0) (cell_off (by decide) q1) (cell_off (by decide) q2) (cell_set q3) (cell_off (by decide) q4) ?hv3) (by decide) (by decide)).mono ?_); (case hv3 => decide); rintro e w' ⟨rfl, hb⟩) | (go_at_call 71; (with_reducible refine (synd_at (five_at (hbb _ _) (cell_off (by decide) q0) (cell_off (by decide) q1) (cell_off (by decide) q2) (cell_off (by decide) q3) (cell_set q4) ?hv4) (by decide) (by decide)).mono ?_); (case hv4 => decide); rintro e w' ⟨rfl, hb⟩))
        · go_ret2
          go_light
          have HT2 := HT.out
          simp only [Int.reduceToNat, Nat.reduceSub, Nat.sub_zero] at HT2
          exact ⟨(bit_yes HT2 (by assumption)).symm ▸ rfl, by (repeat' (first | (with_reducible exact Below.refl _ _) | (with_reducible assumption) | (with_reducible refine below_drewN ?_ _) | (with_reducible refine Below.drew ?_) | ((with_reducible refine Below.alloc ?_ ?_ _); (rotate_left; focus (first | omega | (simp; done) | (simp; omega)))) | ((with_reducible refine Below.setCell ?_ ?_ _); (rotate_left; focus (first | omega | (simp; done) | (simp; omega)))) | (with_reducible refine Below.grown ?_ (by assumption) (by first | omega | (simp; omega)) (by simp [Value.ownBlock]; try omega)) | (with_reducible refine below_then ?_ (Aft.below _)) | (with_reducible apply below_then; rotate_left; assumption)))⟩
        · go_roundw
          case rel =>
            go_light
            have HT2 := HT.out
            simp only [Int.reduceToNat, Nat.reduceSub, Nat.sub_zero] at HT2
            exact ⟨_, by decide, by decide, rfl, rfl, rfl, Lib.hid (bit_next HT2 (by assumption)), by (repeat' (first | (with_reducible exact Below.refl _ _) | (with_reducible assumption) | (with_reducible refine below_drewN ?_ _) | (with_reducible refine Below.drew ?_) | ((with_reducible refine Below.alloc ?_ ?_ _); (rotate_left; focus (first | omega | (simp; done) | (simp; omega)))) | ((with_reducible refine Below.setCell ?_ ?_ _); (rotate_left; focus (first | omega | (simp; done) | (simp; omega)))) | (with_reducible refine Below.grown ?_ (by assumption) (by first | omega | (simp; omega)) (by simp [Value.ownBlock]; try omega)) | (with_reducible refine below_then ?_ (Aft.below _)) | (with_reducible apply below_then; rotate_left; assumption)))⟩
          case measure => go_light; simp [intOf]
    · obtain rfl : i = 40 := by omega
      go_wp2
      go_ret2
      go_light
      have HT2 := HT.out
      exact ⟨by unfold bitV; rw [HT2]; rfl, by (repeat' (first | (with_reducible exact Below.refl _ _) | (with_reducible assumption) | (with_reducible refine below_drewN ?_ _) | (with_reducible refine Below.drew ?_) | ((with_reducible refine Below.alloc ?_ ?_ _); (rotate_left; focus (first | omega | (simp; done) | (simp; omega)))) | ((with_reducible refine Below.setCell ?_ ?_ _); (rotate_left; focus (first | omega | (simp; done) | (simp; omega)))) | (with_reducible refine Below.grown ?_ (by assumption) (by first | omega | (simp; omega)) (by simp [Value.ownBlock]; try omega)) | (with_reducible refine below_then ?_ (Aft.below _)) | (with_reducible apply below_then; rotate_left; assumption)))⟩
end Go.Proofs.YtaoagbnhomjkpaaGreat
