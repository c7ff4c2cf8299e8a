/- Plain laws of rates in sixteen bits: what a code's scaled rate is, the greatest code that isn't above a rate, and a rate's step. No program is in sight here. -/
namespace Go.Proofs.Ytnjjejhniekdcaa
def scl (c : Nat) : Nat := if c / 16384 % 2 = 0 then 0 else (512 + c % 512) * 2 ^ (c / 512 % 32)
def codE (n : Nat) : Nat := min (Nat.log2 n) 31
def cod (n : Nat) : Nat := 16384 + codE n * 512 + min (min n 8589934592 * 512 / 2 ^ codE n) 1023 - 512
def rgt (c : Nat) : Bool := decide (c = 0 ∨ 16384 ≤ c ∧ c < 32768)
def stp (c : Nat) : Nat := if scl c = 0 then 1152921504606846976 else (536870912 + scl c - 1) / scl c
theorem rgt_iff (c : Nat) : rgt c = true ↔ (c = 0 ∨ 16384 ≤ c ∧ c < 32768) := by simp [rgt]

theorem scl_at (e m : Nat) (he : e < 32) (hm : m < 512) : scl (16384 + e * 512 + m) = (512 + m) * 2 ^ e := by
  unfold scl
  rw [if_neg (by omega), show (16384 + e * 512 + m) % 512 = m by omega, show (16384 + e * 512 + m) / 512 % 32 = e by omega]

/-- one step up raises the rate. -/
theorem scl_next (c : Nat) (h1 : 16384 ≤ c) (h2 : c < 32767) : scl (c + 1) = scl c + 2 ^ ((c - 16384) / 512) := by
  obtain ⟨e, m, he, hm, rfl⟩ : ∃ e m, e < 32 ∧ m < 512 ∧ c = 16384 + e * 512 + m := ⟨(c - 16384) / 512, (c - 16384) % 512, by omega, by omega, by omega⟩
  rw [scl_at e m he hm, show (16384 + e * 512 + m - 16384) / 512 = e by omega]
  by_cases h : m + 1 < 512
  · rw [show 16384 + e * 512 + m + 1 = 16384 + e * 512 + (m + 1) by omega, scl_at e (m + 1) he h, show 512 + (m + 1) = 512 + m + 1 by omega, Nat.add_mul _ 1, Nat.one_mul]
  · have : m = 511 := by omega
    subst this
    rw [show 16384 + e * 512 + 511 + 1 = 16384 + (e + 1) * 512 + 0 by omega, scl_at (e + 1) 0 (by omega) (by omega), Nat.pow_succ]
    omega

theorem scl_twice (c : Nat) (h1 : 16384 ≤ c) (h2 : c < 32256) : scl (c + 512) = 2 * scl c := by
  obtain ⟨e, m, he, hm, rfl⟩ : ∃ e m, e < 31 ∧ m < 512 ∧ c = 16384 + e * 512 + m := ⟨(c - 16384) / 512, (c - 16384) % 512, by omega, by omega, by omega⟩
  rw [scl_at e m (by omega) hm, show 16384 + e * 512 + m + 512 = 16384 + (e + 1) * 512 + m by omega, scl_at (e + 1) m (by omega) hm, Nat.pow_succ]
  rw [← Nat.mul_assoc, Nat.mul_comm]
theorem scl_mono {a b : Nat} (h1 : 16384 ≤ a) (h2 : a ≤ b) (h3 : b < 32768) : scl a ≤ scl b := by
  induction b with
  | zero => omega
  | succ b ih =>
    by_cases h : a = b + 1
    · rw [h]; exact Nat.le_refl _
    · have := ih (by omega) (by omega)
      have := scl_next b (by omega) (by omega)
      have := Nat.two_pow_pos ((b - 16384) / 512)
      omega

theorem scl_lt {a b : Nat} (h1 : 16384 ≤ a) (h2 : a < b) (h3 : b < 32768) : scl a < scl b := by
  have h := scl_next a h1 (by omega)
  have := scl_mono (a := a + 1) (b := b) (by omega) h2 h3
  have : 0 < 2 ^ ((a - 16384) / 512) := Nat.two_pow_pos _
  omega

theorem scl_low : scl 16384 = 512 := rfl
theorem scl_top : scl 32767 = 1023 * 2 ^ 31 := rfl
theorem scl_pos {c : Nat} (h1 : 16384 ≤ c) (h2 : c < 32768) : 512 ≤ scl c := scl_mono (a := 16384) (Nat.le_refl _) h1 h2
theorem scl_le (c : Nat) : scl c ≤ 2196875771904 := by
  unfold scl
  split
  · omega
  · have h1 : 2 ^ (c / 512 % 32) ≤ 2 ^ 31 := Nat.pow_le_pow_right (by omega) (by omega)
    have h2 : (512 + c % 512) * 2 ^ (c / 512 % 32) ≤ 1023 * 2 ^ 31 := Nat.mul_le_mul (by omega) h1
    omega

def codI (n : Int) : Nat := if n < 1 then 0 else cod n.toNat
theorem codE_of {n e : Nat} (he : e ≤ 31) (h : 2 ^ e ≤ n) (hx : e = 31 ∨ n / 2 ^ e < 2) : e = codE n := by
  have h1 : 1 ≤ 2 ^ e := Nat.one_le_two_pow
  have h2 := (Nat.le_log2 (by omega : n ≠ 0)).2 h
  unfold codE
  rcases hx with hx | hx
  · omega
  · have h3 : n < 2 ^ (e + 1) := by
      rw [Nat.div_lt_iff_lt_mul h1] at hx
      rw [Nat.pow_succ]; omega
    have h4 : Nat.log2 n < e + 1 := (Nat.log2_lt (by omega)).2 h3
    omega

theorem codE_spec {n : Nat} (hn : 1 ≤ n) : codE n ≤ 31 ∧ 2 ^ codE n ≤ n ∧ (codE n = 31 ∨ n < 2 ^ (codE n + 1)) := by
  unfold codE
  have h1 := Nat.log2_self_le (n := n) (by omega)
  have h2 := Nat.lt_log2_self (n := n)
  by_cases h : Nat.log2 n ≤ 31
  · rw [Nat.min_eq_left h]; exact ⟨h, h1, .inr h2⟩
  · rw [Nat.min_eq_right (by omega)]
    exact ⟨Nat.le_refl _, Nat.le_trans (Nat.pow_le_pow_right (by omega) (by omega)) h1, .inl rfl⟩

/-- what the code of a rate is: the greatest one that isn't above it. -/
theorem cod_spec {n : Nat} (hn : 1 ≤ n) : 16384 ≤ cod n ∧ cod n < 32768 ∧ scl (cod n) ≤ 512 * n ∧ (cod n < 32767 → 512 * n < scl (cod n + 1)) := by
  obtain ⟨h1, h2, h3⟩ := codE_spec hn
  obtain ⟨e, he⟩ : ∃ e, e = codE n := ⟨_, rfl⟩
  obtain ⟨p, hp⟩ : ∃ p, p = 2 ^ e := ⟨_, rfl⟩
  have hp0 : 0 < p := hp ▸ Nat.two_pow_pos e
  rw [← he] at h1 h2 h3
  rw [Nat.pow_succ, ← hp] at h3
  rw [← hp] at h2
  obtain ⟨M, hM⟩ : ∃ M, M = min n 8589934592 * 512 / p := ⟨_, rfl⟩
  have hM1 : M * p ≤ min n 8589934592 * 512 := hM ▸ Nat.div_mul_le_self _ _
  have hM2 : min n 8589934592 * 512 < (M + 1) * p := by
    have := Nat.lt_mul_div_succ (min n 8589934592 * 512) hp0
    rw [← hM, Nat.mul_comm p] at this; exact this
  have hp31 : p ≤ 2147483648 := hp ▸ Nat.pow_le_pow_right (n := 2) (by omega) h1
  have hM3 : 512 ≤ M := by
    rw [hM, Nat.le_div_iff_mul_le hp0]
    omega
  have hc : cod n = 16384 + e * 512 + (min M 1023 - 512) := by
    unfold cod; rw [← he, ← hp, ← hM]; omega
  have hs : scl (cod n) = min M 1023 * p := by
    rw [hc, scl_at e (min M 1023 - 512) (by omega) (by omega), ← hp, show 512 + (min M 1023 - 512) = min M 1023 by omega]
  refine ⟨by omega, by omega, ?_, fun hlt => ?_⟩
  · rw [hs]
    have : min M 1023 * p ≤ M * p := Nat.mul_le_mul_right _ (by omega)
    omega
  · have hnx := scl_next (cod n) (by omega) hlt
    rw [show (cod n - 16384) / 512 = e by omega, ← hp, hs] at hnx
    rw [hnx]
    by_cases hm : M ≤ 1022
    · rw [Nat.min_eq_left (by omega)]
      rw [Nat.add_mul] at hM2
      by_cases hn2 : n ≤ 8589934592
      · omega
      · exfalso
        have h31 : e = 31 := by
          rcases h3 with h3 | h3
          · exact h3
          · omega
        subst h31
        have h7 : p = 2147483648 := hp
        have : M * p ≤ 1022 * p := Nat.mul_le_mul_right _ hm
        omega
    · rcases h3 with h3 | h3
      · exfalso; omega
      · rw [Nat.min_eq_right (by omega)]; omega

theorem cod_top {n : Nat} (hn : 4294967296 ≤ n) : cod n = 32767 := by
  have ⟨h1, h2, h3, h4⟩ := cod_spec (n := n) (by omega)
  by_cases h : cod n < 32767
  · have := h4 h
    have := scl_le (cod n + 1)
    omega
  · omega

/-- it is the only one. -/
theorem cod_uniq {n c : Nat} (hn : 1 ≤ n) (h1 : 16384 ≤ c) (h2 : c < 32768) (h3 : scl c ≤ 512 * n) (h4 : c < 32767 → 512 * n < scl (c + 1)) : c = cod n := by
  have ⟨g1, g2, g3, g4⟩ := cod_spec hn
  rcases Nat.lt_trichotomy c (cod n) with h | h | h
  · have := h4 (by omega)
    have := scl_mono (a := c + 1) (b := cod n) (by omega) h g2
    omega
  · exact h
  · have := g4 (by omega)
    have := scl_mono (a := cod n + 1) (b := c) (by omega) h h2
    omega

theorem cod_mono {n m : Nat} (hn : 1 ≤ n) (h : n ≤ m) : cod n ≤ cod m := by
  have ⟨g1, g2, g3, g4⟩ := cod_spec hn
  have ⟨k1, k2, k3, k4⟩ := cod_spec (n := m) (by omega)
  rcases Nat.lt_or_ge (cod m) (cod n) with hl | hl
  · have := k4 (by omega)
    have := scl_mono (a := cod m + 1) (b := cod n) (by omega) hl g2
    omega
  · exact hl

theorem codI_of {n : Int} {m lo hi : Nat} (hn : ¬ n < 1) (hm : m = min n.toNat 1099511627776) (a1 : 16384 ≤ lo) (a2 : lo ≤ hi) (a3 : hi ≤ 32767) (a4 : scl lo ≤ 512 * m)
    (a5 : hi < 32767 → 512 * m < scl (hi + 1)) (hx : ¬ lo < hi) : lo = codI n := by
  have h : lo = hi := by omega
  subst h
  have h1 : lo = cod m := cod_uniq (by omega) a1 (by omega) a4 a5
  unfold codI
  rw [if_neg hn, h1]
  by_cases hb : n.toNat ≤ 1099511627776
  · rw [hm, Nat.min_eq_left hb]
  · rw [cod_top (n := m) (by omega), cod_top (n := n.toNat) (by omega)]
theorem codI_mono {n m : Int} (h : n ≤ m) : codI n ≤ codI m := by
  unfold codI
  split
  · omega
  · rw [if_neg (by omega)]; exact cod_mono (by omega) (by omega)
theorem codI_right (n : Int) : rgt (codI n) = true ∧ codI n ≤ 32767 := by
  unfold codI
  split
  · exact ⟨rfl, by omega⟩
  · have ⟨h1, h2, _⟩ := cod_spec (n := n.toNat) (by omega)
    exact ⟨(rgt_iff _).2 (.inr ⟨h1, h2⟩), by omega⟩
theorem stp_anti {a b : Nat} (h1 : 16384 ≤ a) (h2 : a < b) (h3 : b < 32768) : stp b ≤ stp a := by
  have ha := scl_pos h1 (by omega)
  have hab := scl_lt h1 h2 h3
  unfold stp
  rw [if_neg (by omega), if_neg (by omega)]
  rw [Nat.le_div_iff_mul_le (by omega)]
  have h5 : (536870912 + scl b - 1) / scl b * scl b ≤ 536870912 + scl b - 1 := Nat.div_mul_le_self _ _
  obtain ⟨q, hq⟩ : ∃ q, q = (536870912 + scl b - 1) / scl b := ⟨_, rfl⟩
  rw [← hq] at h5 ⊢
  by_cases hq0 : q = 0
  · subst hq0; omega
  · have h6 : q = (q - 1) + 1 := by omega
    rw [h6, Nat.add_mul] at h5 ⊢
    have h7 : (q - 1) * scl a ≤ (q - 1) * scl b := Nat.mul_le_mul_left _ (by omega)
    omega

theorem stp_spec {c : Nat} (h : scl c ≠ 0) : 1 ≤ stp c ∧ 536870912 ≤ stp c * scl c ∧ (stp c - 1) * scl c < 536870912 := by
  unfold stp
  rw [if_neg h]
  have h5 : (536870912 + scl c - 1) / scl c * scl c ≤ 536870912 + scl c - 1 := Nat.div_mul_le_self _ _
  have h6 := Nat.lt_mul_div_succ (536870912 + scl c - 1) (by omega : 0 < scl c)
  rw [Nat.mul_comm, Nat.add_mul] at h6
  have h7 : 1 ≤ (536870912 + scl c - 1) / scl c := by
    rw [Nat.le_div_iff_mul_le (by omega)]; omega
  refine ⟨h7, by omega, ?_⟩
  rw [Nat.sub_mul]
  omega

theorem stp_le {c : Nat} (h1 : 16384 ≤ c) (h2 : c < 32768) : 1 ≤ stp c ∧ stp c ≤ 1048576 := by
  have h := scl_pos h1 h2
  have ⟨a, _, b⟩ := stp_spec (c := c) (by omega)
  refine ⟨a, ?_⟩
  rcases Nat.lt_or_ge 1048576 (stp c) with h3 | h3
  · have : 1048576 * 512 ≤ (stp c - 1) * scl c := Nat.mul_le_mul (by omega) h
    omega
  · exact h3

/-- by how much a code's rate is below the next one. -/
theorem scl_gap {c : Nat} (h1 : 16384 ≤ c) (h2 : c < 32767) : scl (c + 1) = scl c + 2 ^ ((c - 16384) / 512) ∧ 512 * 2 ^ ((c - 16384) / 512) ≤ scl c := by
  refine ⟨scl_next c h1 h2, ?_⟩
  have := scl_at ((c - 16384) / 512) ((c - 16384) % 512) (by omega) (by omega)
  rw [show 16384 + (c - 16384) / 512 * 512 + (c - 16384) % 512 = c by omega] at this
  rw [this]
  exact Nat.mul_le_mul_right _ (by omega)

theorem near_key {n s e p m : Nat} (hp : p = 2 ^ e) (hs : s = (512 + m) * p) (h1 : s ≤ 512 * n) (h2 : 512 * n < s + p) :
    (e ≤ 9 → s = 512 * n) ∧ (9 < e → s % 512 = 0 ∧ p % 512 = 0) := by
  refine ⟨fun he => ?_, fun he => ?_⟩
  · have hd : p ∣ 512 := ⟨2 ^ (9 - e), by rw [hp, ← Nat.pow_add, show e + (9 - e) = 9 by omega]⟩
    have h3 : p ∣ 512 * n := Nat.dvd_trans hd (Nat.dvd_mul_right _ _)
    have h4 : p ∣ s := hs ▸ Nat.dvd_mul_left _ _
    have h5 : p ∣ 512 * n - s := Nat.dvd_sub h3 h4
    have := Nat.eq_zero_of_dvd_of_lt h5 (by omega)
    omega
  · have hq : p = 512 * 2 ^ (e - 9) := by rw [hp, show (512 : Nat) = 2 ^ 9 from rfl, ← Nat.pow_add]; congr 1; omega
    have h4 : p % 512 = 0 := by rw [hq]; exact Nat.mul_mod_right _ _
    refine ⟨?_, h4⟩
    rw [hs, Nat.mul_mod, h4, Nat.mul_zero, Nat.zero_mod]

/-- RateNear's last line. -/
theorem cod_near {n : Nat} (hn : 1 ≤ n) : scl (cod n) / 512 ≤ n ∧ (n ≤ 512 → scl (cod n) / 512 = n) ∧ (n ≤ 2147483648 → n < scl (cod n) / 512 + n / 512 + 1) := by
  have ⟨g1, g2, g3, g4⟩ := cod_spec hn
  refine ⟨by omega, ?_⟩
  by_cases hbig : n ≤ 2147483648
  · have key : 512 * n < scl (cod n) + 2 ^ ((cod n - 16384) / 512) := by
      by_cases hc : cod n < 32767
      · have := g4 hc
        rwa [scl_next _ g1 hc] at this
      · rw [show cod n = 32767 by omega, scl_top]; omega
    have hs := scl_at ((cod n - 16384) / 512) ((cod n - 16384) % 512) (by omega) (by omega)
    rw [show 16384 + (cod n - 16384) / 512 * 512 + (cod n - 16384) % 512 = cod n by omega] at hs
    obtain ⟨k1, k2⟩ := near_key rfl hs g3 key
    have hs2 : 512 * 2 ^ ((cod n - 16384) / 512) ≤ scl (cod n) := by rw [hs]; exact Nat.mul_le_mul_right _ (by omega)
    by_cases he : (cod n - 16384) / 512 ≤ 9
    · have := k1 he
      omega
    · have := k2 (by omega)
      have : 2 ^ 10 ≤ 2 ^ ((cod n - 16384) / 512) := Nat.pow_le_pow_right (by omega) (by omega)
      omega
  · omega

theorem cod_back {c : Nat} (h1 : 16384 ≤ c) (h2 : c < 32768) : cod (scl c / 512) ≤ c ∧ (scl c % 512 = 0 → cod (scl c / 512) = c) ∧ scl (cod (scl c / 512)) / 512 = scl c / 512 := by
  have hp := scl_pos h1 h2
  have ⟨g1, g2, g3, g4⟩ := cod_spec (n := scl c / 512) (by omega)
  have hle : cod (scl c / 512) ≤ c := by
    rcases Nat.lt_or_ge c (cod (scl c / 512)) with h | h
    · have := scl_lt h1 h g2; omega
    · exact h
  have hwhole : scl c % 512 = 0 → cod (scl c / 512) = c := fun hw => by
    refine (cod_uniq (by omega) h1 h2 (by omega) fun h => ?_).symm
    have := scl_lt h1 (by omega : c < c + 1) (by omega); omega
  refine ⟨hle, hwhole, ?_⟩
  by_cases hv : scl c / 512 ≤ 512
  · exact (cod_near (n := scl c / 512) (by omega)).2.1 hv
  · rw [hwhole ?_]
    have hs := scl_at ((c - 16384) / 512) ((c - 16384) % 512) (by omega) (by omega)
    rw [show 16384 + (c - 16384) / 512 * 512 + (c - 16384) % 512 = c by omega] at hs
    by_cases he : (c - 16384) / 512 ≤ 8
    · exfalso
      have : 2 ^ ((c - 16384) / 512) ≤ 2 ^ 8 := Nat.pow_le_pow_right (by omega) he
      have : (512 + (c - 16384) % 512) * 2 ^ ((c - 16384) / 512) ≤ 1023 * 2 ^ 8 := Nat.mul_le_mul (by omega) this
      omega
    · have hq : 2 ^ ((c - 16384) / 512) = 512 * 2 ^ ((c - 16384) / 512 - 9) := by rw [show (512 : Nat) = 2 ^ 9 from rfl, ← Nat.pow_add]; congr 1; omega
      rw [hs, hq, Nat.mul_comm, Nat.mul_assoc]
      exact Nat.mul_mod_right _ _
/- The same over the integers, for the walks: no cast of a natural number stands in a slot. -/
def sclZ (x : Int) : Int := scl x.toNat
def stpZ (x : Int) : Int := stp x.toNat
def valZ (x : Int) : Int := (scl x.toNat / 512 : Nat)
def codZ (n : Int) : Int := codI n
def rgtZ (x : Int) : Bool := rgt x.toNat
theorem sclZ_b (x : Int) : 0 ≤ sclZ x ∧ sclZ x ≤ 2196875771904 := by have := scl_le x.toNat; unfold sclZ; omega
theorem valZ_eq (x : Int) : valZ x = sclZ x / 512 := by unfold valZ sclZ; omega
theorem codZ_b (n : Int) : 0 ≤ codZ n ∧ codZ n ≤ 32767 ∧ rgtZ (codZ n) = true := by
  have := codI_right n
  unfold codZ rgtZ
  exact ⟨by omega, by omega, by rw [Int.toNat_natCast]; exact this.1⟩
theorem codZ_mono {n m : Int} (h : n ≤ m) : codZ n ≤ codZ m := by have := codI_mono h; unfold codZ; omega
theorem orderZ {a b : Int} (h0 : 0 ≤ a) (h0' : 0 ≤ b) (ha : rgtZ a = true) (hb : rgtZ b = true) : (a < b → sclZ a < sclZ b ∧ stpZ b ≤ stpZ a) ∧ (b ≤ a → sclZ b ≤ sclZ a) := by
  obtain ⟨a, rfl⟩ : ∃ c : Nat, a = c := ⟨a.toNat, by omega⟩
  obtain ⟨b, rfl⟩ : ∃ c : Nat, b = c := ⟨b.toNat, by omega⟩
  unfold rgtZ at ha hb
  unfold sclZ stpZ
  rw [Int.toNat_natCast, rgt_iff] at ha hb
  rw [Int.toNat_natCast, Int.toNat_natCast]
  have z1 : scl 0 = 0 := rfl
  have z2 : stp 0 = 1152921504606846976 := rfl
  constructor
  · intro hlt
    rcases ha with rfl | h <;> rcases hb with rfl | h'
    · omega
    · have := scl_pos h'.1 h'.2
      have := (stp_le h'.1 h'.2).2
      rw [z1, z2]; omega
    · omega
    · have := scl_lt h.1 (by omega) h'.2
      have := stp_anti h.1 (by omega) h'.2
      omega
  · intro hlt
    rcases ha with rfl | h <;> rcases hb with rfl | h'
    · omega
    · omega
    · rw [z1]; omega
    · have := scl_mono h'.1 (by omega) h.2
      omega
theorem backZ {c : Int} (h0 : 0 ≤ c) (hr : rgtZ c = true) : codZ (sclZ c / 512) ≤ c ∧ (sclZ c % 512 = 0 → codZ (sclZ c / 512) = c) ∧ sclZ (codZ (sclZ c / 512)) / 512 = sclZ c / 512 := by
  obtain ⟨c, rfl⟩ : ∃ n : Nat, c = n := ⟨c.toNat, by omega⟩
  unfold rgtZ at hr
  rw [Int.toNat_natCast, rgt_iff] at hr
  unfold codZ sclZ
  rw [Int.toNat_natCast]
  have e : (scl c : Int) / 512 = ((scl c / 512 : Nat) : Int) := by omega
  rw [e]
  rcases hr with rfl | h
  · decide
  · have hp := scl_pos h.1 h.2
    have e2 : codI ((scl c / 512 : Nat) : Int) = cod (scl c / 512) := by unfold codI; rw [if_neg (by omega)]; rfl
    rw [e2, Int.toNat_natCast]
    have := cod_back h.1 h.2
    omega
theorem nearZ {n : Int} (h0 : 1 ≤ n) (h1 : n < 4294967296) : sclZ (codZ n) / 512 ≤ n ∧ (codZ n < 32767 → 512 * n < sclZ (codZ n + 1)) ∧ (n ≤ 512 → sclZ (codZ n) / 512 = n) ∧ (n ≤ 2147483648 → n < sclZ (codZ n) / 512 + n / 512 + 1) := by
  obtain ⟨n, rfl⟩ : ∃ m : Nat, n = m := ⟨n.toNat, by omega⟩
  obtain ⟨c0, c1, c2, c3⟩ := cod_spec (n := n) (by omega)
  obtain ⟨c4, c5, c6⟩ := cod_near (n := n) (by omega)
  have e : codZ (n : Int) = (cod n : Int) := by unfold codZ codI; rw [if_neg (by omega)]; rfl
  rw [e]
  unfold sclZ
  rw [Int.toNat_natCast, show ((cod n : Int) + 1).toNat = cod n + 1 by omega]
  omega
theorem stepsZ {c : Int} (h : sclZ c ≠ 0) : 1 ≤ stpZ c ∧ stpZ c ≤ 3000000000000 ∧ 536870912 ≤ stpZ c * sclZ c ∧ stpZ c * sclZ c < 3000000000000 ∧ 0 ≤ (stpZ c - 1) * sclZ c ∧ (stpZ c - 1) * sclZ c < 536870912 := by
  have b := scl_le c.toNat
  unfold sclZ at *
  unfold stpZ
  have ⟨c1, c2, c3⟩ := stp_spec (c := c.toNat) (by omega)
  generalize scl c.toNat = s at *
  generalize stp c.toNat = t at *
  have d2 : (536870912 : Int) ≤ (t : Int) * (s : Int) := by have := Int.natCast_mul t s; omega
  have d3 : ((t : Int) - 1) * (s : Int) < (536870912 : Int) := by
    have := Int.natCast_mul (t - 1) s
    rw [show ((t - 1 : Nat) : Int) = (t : Int) - 1 by omega] at this
    omega
  have d4 : 0 ≤ ((t : Int) - 1) * (s : Int) := Int.mul_nonneg (by omega) (by omega)
  have d5 : (t : Int) * (s : Int) < 3000000000000 := by
    have : ((t : Int) - 1) * (s : Int) = (t : Int) * s - s := by rw [Int.sub_mul]; omega
    omega
  have d6 : (t : Int) ≤ 3000000000000 := by
    have : (t : Int) * 1 ≤ (t : Int) * s := Int.mul_le_mul_of_nonneg_left (by omega) (by omega)
    omega
  exact ⟨by omega, d6, d2, d5, d4, d3⟩
theorem stepsZ0 {c : Int} (h : sclZ c = 0) : stpZ c = 1152921504606846976 := by
  unfold sclZ at h
  unfold stpZ stp
  rw [if_pos (by omega)]; rfl
theorem twiceZ {c : Int} (h0 : 0 ≤ c) (hr : rgtZ c = true) (hz : ¬ c = 0) (h1 : c < 32256) :
    16384 ≤ c ∧ 2 ^ (c / 512 % 32).toNat = sclZ (c + 1) - sclZ c ∧ sclZ (c + 512) = 2 * sclZ c := by
  obtain ⟨c, rfl⟩ : ∃ n : Nat, c = n := ⟨c.toNat, by omega⟩
  unfold rgtZ at hr
  rw [Int.toNat_natCast, rgt_iff] at hr
  have hl : 16384 ≤ c := by omega
  have n1 := scl_next c hl (by omega)
  have n2 := scl_twice c hl (by omega)
  unfold sclZ
  rw [show ((c : Int) + 1).toNat = c + 1 by omega, show ((c : Int) + 512).toNat = c + 512 by omega, Int.toNat_natCast, show ((c : Int) / 512 % 32).toNat = (c - 16384) / 512 by omega, n1, n2]
  refine ⟨by omega, ?_, by omega⟩
  have e : ((2 ^ ((c - 16384) / 512) : Nat) : Int) = 2 ^ ((c - 16384) / 512) := by push_cast; rfl
  rw [Int.natCast_add, e]; omega
attribute [irreducible] scl codE cod codI rgt stp sclZ stpZ valZ codZ rgtZ
end Go.Proofs.Ytnjjejhniekdcaa
