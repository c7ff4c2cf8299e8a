/- The plain law of the checks: a register behind bits, over bit vectors. No program in sight. -/
namespace Go.Proofs.Ytnjjejhniekdcaa.Crc
set_option linter.unusedVariables false
variable {n : Nat}
/-- one bit into a register with the generator g. -/
def stepV (g r : BitVec n) (b : Bool) : BitVec n := (r <<< 1) ^^^ (if (r.msb != b) = true then g else 0#n)
def crcV (g r : BitVec n) (bs : List Bool) : BitVec n := bs.foldl (stepV g) r
theorem crcV_nil (g r : BitVec n) : crcV g r [] = r := rfl
theorem crcV_cons (g r : BitVec n) (b : Bool) (bs : List Bool) : crcV g r (b :: bs) = crcV g (stepV g r b) bs := rfl
theorem crcV_append (g r : BitVec n) (as bs : List Bool) : crcV g r (as ++ bs) = crcV g (crcV g r as) bs := by
  unfold crcV; rw [List.foldl_append]
theorem stepV_xor (g r r' : BitVec n) (b b' : Bool) : stepV g (r ^^^ r') (b != b') = stepV g r b ^^^ stepV g r' b' := by
  unfold stepV
  rw [BitVec.shiftLeft_xor_distrib, BitVec.msb_xor]
  generalize r <<< 1 = u
  generalize r' <<< 1 = v
  generalize r.msb = p
  generalize r'.msb = q
  ext i hi
  cases p <;> cases q <;> cases b <;> cases b' <;> simp <;> cases u[i] <;> cases v[i] <;> cases g[i] <;> rfl
def xorL (as bs : List Bool) : List Bool := List.zipWith (· != ·) as bs
theorem crcV_xor (g : BitVec n) : ∀ (as bs : List Bool) (r r' : BitVec n), as.length = bs.length → crcV g (r ^^^ r') (xorL as bs) = crcV g r as ^^^ crcV g r' bs
  | [], [], r, r', _ => rfl
  | a :: as, b :: bs, r, r', h => by
    show crcV g (stepV g (r ^^^ r') (a != b)) (xorL as bs) = _
    rw [stepV_xor, crcV_xor g as bs _ _ (by simpa using h)]
    rfl
theorem stepV_zero (g : BitVec n) : stepV g 0#n false = 0#n := by simp [stepV]
theorem crcV_zeros (g : BitVec n) (k : Nat) : crcV g 0#n (List.replicate k false) = 0#n := by
  induction k with
  | zero => rfl
  | succ k ih => rw [List.replicate_succ, crcV_cons, stepV_zero, ih]
theorem stepV_low (g r : BitVec n) (b : Bool) (h0 : g.getLsbD 0 = true) (hn : 0 < n) (h : r.msb ≠ b) : (stepV g r b).getLsbD 0 = true := by
  unfold stepV
  rw [if_pos (by simpa using h)]
  simp [h0]
theorem stepV_same (g r : BitVec n) : stepV g r r.msb = r <<< 1 := by simp [stepV]
theorem stepV_inj (g r : BitVec n) (h0 : g.getLsbD 0 = true) (h : stepV g r false = 0#n) : r = 0#n := by
  have hn : 0 < n := by
    rcases Nat.eq_zero_or_pos n with rfl | h
    · simp [BitVec.of_length_zero] at h0
    · exact h
  by_cases hm : r.msb = false
  · rw [← hm, stepV_same] at h
    ext i hi
    rw [BitVec.getElem_zero]
    by_cases hl : i + 1 < n
    · have := congrArg (fun v => v.getLsbD (i + 1)) h
      simpa [hl] using this
    · have e : i = n - 1 := by omega
      rw [BitVec.msb_eq_getLsbD_last] at hm
      subst e
      simpa [BitVec.getLsbD_eq_getElem hi] using hm
  · have := stepV_low g r false h0 hn hm
    rw [h] at this
    simp at this
theorem crcV_zeros_inj (g : BitVec n) (h0 : g.getLsbD 0 = true) (k : Nat) : ∀ r, crcV g r (List.replicate k false) = 0#n → r = 0#n := by
  induction k with
  | zero => intro r h; exact h
  | succ k ih =>
    intro r h
    rw [List.replicate_succ, crcV_cons] at h
    exact stepV_inj g r h0 (ih _ h)
/-- the first m bits of a register. -/
def hi (r : BitVec n) (m : Nat) : List Bool := (List.range m).map fun i => r.getMsbD i
theorem hi_len (r : BitVec n) (m : Nat) : (hi r m).length = m := by simp [hi]
theorem hi_succ (r : BitVec n) (m : Nat) : hi r (m + 1) = hi r m ++ [r.getMsbD m] := by simp [hi, List.range_succ]
theorem crcV_self (g r : BitVec n) : ∀ m, m ≤ n → crcV g r (hi r m) = r <<< m := by
  intro m
  induction m with
  | zero => intro _; simp [hi, crcV]
  | succ m ih =>
    intro h
    rw [hi_succ, crcV_append, ih (by omega)]
    show stepV g (r <<< m) (r.getMsbD m) = _
    have e : (r <<< m).msb = r.getMsbD m := by
      rw [BitVec.msb_shiftLeft]
    rw [← e, stepV_same, ← BitVec.shiftLeft_add]
theorem crcV_own (g r : BitVec n) : crcV g r (hi r n) = 0#n := by
  rw [crcV_self g r n (Nat.le_refl _)]
  simp
theorem xorL_len (as bs : List Bool) (h : as.length = bs.length) : (xorL as bs).length = as.length := by simp [xorL, h]
theorem xorL_self (as bs : List Bool) (h : as.length = bs.length) : xorL as (xorL as bs) = bs := by
  induction as generalizing bs with
  | nil => cases bs <;> simp_all [xorL]
  | cons a as ih =>
    cases bs with
    | nil => simp at h
    | cons b bs =>
      show (a != (a != b)) :: xorL as (xorL as bs) = _
      rw [ih bs (by simpa using h)]
      cases a <;> cases b <;> rfl
/-- a register's own bits stand for it. -/
theorem crcV_as (g r : BitVec n) (bs : List Bool) (h : bs.length = n) : crcV g r bs = crcV g 0#n (xorL (hi r n) bs) := by
  have e := crcV_xor g (hi r n) (xorL (hi r n) bs) r 0#n (by rw [xorL_len _ _ (by rw [hi_len, h]), hi_len])
  rw [xorL_self _ _ (by rw [hi_len, h]), crcV_own] at e
  simpa using e
/-- no more bits than a register has leave it 0 from 0 just if they are all 0. -/
theorem crcV_short (g : BitVec n) (h0 : g.getLsbD 0 = true) : ∀ (bs : List Bool) (r : BitVec n), bs.length ≤ n → crcV g r bs = 0#n → bs = hi r bs.length ∧ r <<< bs.length = 0#n
  | [], r, _, h => by
    constructor
    · rfl
    · have h' : r = 0#n := h
      simpa using h'
  | b :: bs, r, hl, h => by
    rw [List.length_cons] at hl
    rw [crcV_cons] at h
    obtain ⟨h1, h2⟩ := crcV_short g h0 bs (stepV g r b) (by omega) h
    by_cases hm : r.msb = b
    · rw [← hm, stepV_same] at h1 h2
      constructor
      · have e : hi r (b :: bs).length = r.msb :: hi (r <<< 1) bs.length := by
          rw [List.length_cons]
          unfold hi
          rw [List.range_succ_eq_map, List.map_cons, List.map_map]
          congr 1
          apply List.map_congr_left
          intro i hi'
          simp only [List.mem_range] at hi'
          simp only [Function.comp]
          rw [BitVec.getMsbD_shiftLeft]
        rw [e, ← h1, hm]
      · rw [List.length_cons, Nat.add_comm, BitVec.shiftLeft_add]; exact h2
    · have hn : 0 < n := by omega
      have hlow := stepV_low g r b h0 hn hm
      have := congrArg (fun v => v.getLsbD bs.length) h2
      simp at this
      rw [this (by omega)] at hlow
      simp at hlow
theorem crcV_short_zero (g : BitVec n) (h0 : g.getLsbD 0 = true) (bs : List Bool) (hl : bs.length ≤ n) (h : crcV g 0#n bs = 0#n) : bs = List.replicate bs.length false := by
  have := (crcV_short g h0 bs 0#n hl h).1
  rw [this, hi_len]
  unfold hi
  rw [List.eq_replicate_iff]
  constructor
  · simp
  · simp
/-- a window of bits between 0s. -/
theorem crcV_window (g : BitVec n) (h0 : g.getLsbD 0 = true) (i k : Nat) (bs : List Bool) (hl : bs.length ≤ n) :
    crcV g 0#n (List.replicate i false ++ bs ++ List.replicate k false) = 0#n ↔ bs = List.replicate bs.length false := by
  rw [crcV_append, crcV_append, crcV_zeros]
  constructor
  · intro h
    exact crcV_short_zero g h0 bs hl (crcV_zeros_inj g h0 k _ h)
  · intro h
    rw [h, crcV_zeros, crcV_zeros]
end Go.Proofs.Ytnjjejhniekdcaa.Crc
