/- A policer as one thing: what it is made of, what it holds, where it lies. -/
import Derived.Test.YtndmmhljphlhjaaPolN2
namespace Go.Proofs.Ytndmmhljphlhjaa
set_option linter.unusedVariables false
set_option linter.unusedSimpArgs false
open Go.RowKit
set_option maxRecDepth 100000
set_option maxHeartbeats 4000000
structure Pz where
  s1 : Int
  e1 : Int
  s2 : Int
  e2 : Int
  has : Bool
  zero : Bool
  tag : Bool
  al : Bool
structure S4 where
  n1 : Int
  a1 : Bool
  n2 : Int
  a2 : Bool
def Pz.l (c : Pz) (b1 b2 : Nat) : List Rs := ⟨c.s1, c.e1, false, false, b1⟩ :: (if c.has then [⟨c.s2, c.e2, c.zero, c.tag, b2⟩] else [])
def S4.st (S : S4) (b1 b2 : Nat) : Bst := fun b => if b = b1 then (S.n1, S.a1) else (S.n2, S.a2)
def Pz.f1 (c : Pz) (S : S4) (t : Int) : Bool := fitsB c.e1 S.n1 S.a1 t
def Pz.f2 (c : Pz) (S : S4) (t : Int) : Bool := fitsB c.e2 S.n2 S.a2 t
def Pz.as2 (c : Pz) (z : Bool) : Bool := c.has && (!c.zero || z)
def Pz.verd (c : Pz) (S : S4) (t : Int) (z : Bool) : Int := if c.f1 S t = false then 3 else if (c.as2 z && !c.f2 S t) = true then (if c.tag then 2 else 3) else 1
def Pz.last (c : Pz) (S : S4) (t : Int) (z : Bool) : Int := finZ (c.verd S t z) c.al z
def Pz.nxt (c : Pz) (S : S4) (t : Int) (z : Bool) : S4 :=
  { n1 := if c.verd S t z = 3 then S.n1 else nextB c.s1 S.n1 t
    a1 := if c.verd S t z = 3 then S.a1 else true
    n2 := if c.verd S t z = 1 ∧ c.as2 z = true then nextB c.s2 S.n2 t else S.n2
    a2 := if c.verd S t z = 1 ∧ c.as2 z = true then true else S.a2 }
theorem st_one (S : S4) (b1 b2 : Nat) : S.st b1 b2 b1 = (S.n1, S.a1) := by unfold S4.st; rw [if_pos rfl]
theorem st_two (S : S4) {b1 b2 : Nat} (h : b1 ≠ b2) : S.st b1 b2 b2 = (S.n2, S.a2) := by unfold S4.st; rw [if_neg (fun e => h e.symm)]
theorem verd_eq (c : Pz) (S : S4) {b1 b2 : Nat} (h : b1 ≠ b2) (t : Int) (z : Bool) : verdZ (c.l b1 b2) (S.st b1 b2) t z = c.verd S t z := by
  have h2 := st_two S h
  have h1 := st_one S b1 b2
  obtain ⟨s1, e1, s2, e2, has, zero, tag, al⟩ := c
  obtain ⟨f1, g1⟩ : ∃ f, fitsB e1 S.n1 S.a1 t = f := ⟨_, rfl⟩
  obtain ⟨f2, g2⟩ : ∃ f, fitsB e2 S.n2 S.a2 t = f := ⟨_, rfl⟩
  cases has <;> cases zero <;> cases tag <;> cases z <;> cases f1 <;> cases f2 <;>
    simp [verdZ, Pz.verd, Pz.l, Rs.asks, badR, fitR, h1, h2, Pz.f1, Pz.f2, Pz.as2, g1, g2]
theorem nxt_eq (c : Pz) (S : S4) {b1 b2 : Nat} (h : b1 ≠ b2) (t : Int) (z : Bool) : nxtS (c.l b1 b2) (S.st b1 b2) t (c.verd S t z) z b1 = ((c.nxt S t z).n1, (c.nxt S t z).a1) ∧ (c.has = true → nxtS (c.l b1 b2) (S.st b1 b2) t (c.verd S t z) z b2 = ((c.nxt S t z).n2, (c.nxt S t z).a2)) := by
  have hb : ¬ b2 = b1 := fun e => h e.symm
  have h2 := st_two S h
  have h1 := st_one S b1 b2
  obtain ⟨s1, e1, s2, e2, has, zero, tag, al⟩ := c
  obtain ⟨f1, g1⟩ : ∃ f, fitsB e1 S.n1 S.a1 t = f := ⟨_, rfl⟩
  obtain ⟨f2, g2⟩ : ∃ f, fitsB e2 S.n2 S.a2 t = f := ⟨_, rfl⟩
  cases has <;> cases zero <;> cases tag <;> cases z <;> cases f1 <;> cases f2 <;>
    simp [nxtS, Pz.nxt, Pz.verd, Pz.l, Rs.asks, tk, fitR, h1, h2, Pz.f1, Pz.f2, Pz.as2, g1, g2, h, hb]
def S4.Bd (S : S4) (M : Int) : Prop := (0 ≤ S.n1 ∧ S.n1 ≤ M) ∧ (0 ≤ S.n2 ∧ S.n2 ≤ M)
structure Pz.Ok (c : Pz) : Prop where
  s1 : 1 ≤ c.s1 ∧ c.s1 ≤ 1099511627776
  s2 : c.has = true → 1 ≤ c.s2 ∧ c.s2 ≤ 1099511627776
  e1 : 0 ≤ c.e1 ∧ c.e1 ≤ 1099511627776
  e2 : c.has = true → 0 ≤ c.e2 ∧ c.e2 ≤ 2199023255552
theorem nextB_bd {s n t M : Int} (h : 0 ≤ n ∧ n ≤ M) (hs : 1 ≤ s ∧ s ≤ 1099511627776) (hM : 1152921504606846976 ≤ M) : 0 ≤ nextB s n t ∧ nextB s n t ≤ M + 1099511627776 := by
  have hc := clampZ_in (x := t) (lo := 0) (hi := 1152921504606846976) (by omega)
  unfold nextB
  omega
theorem Pz.nxt_bd {c : Pz} (ok : c.Ok) {S : S4} {M : Int} (h : S.Bd M) (hM : 1152921504606846976 ≤ M) (t : Int) (z : Bool) : (c.nxt S t z).Bd (M + 1099511627776) := by
  obtain ⟨h1, h2⟩ := h
  unfold Pz.nxt
  constructor
  · dsimp only
    split
    · omega
    · exact nextB_bd h1 ok.s1 hM
  · dsimp only
    split
    · next hv =>
      have hh : c.has = true := by
        have := hv.2; unfold Pz.as2 at this; cases e : c.has
        · simp [e] at this
        · rfl
      exact nextB_bd h2 (ok.s2 hh) hM
    · omega
def S4.zero : S4 := ⟨0, false, 0, false⟩
/-- a policer that lies between two marks. -/
def PolS (lo hi : Nat) (c : Pz) (S : S4) (c0 c1 c2 c3 : Int) (P : Nat) (w : World) : Prop :=
  ∃ ra cap b1 b2, b1 ≠ b2 ∧ (lo ≤ P ∧ P < hi) ∧ (lo ≤ ra ∧ ra < hi) ∧ (lo ≤ b1 ∧ b1 < hi) ∧ (c.has = true → lo ≤ b2 ∧ b2 < hi) ∧ PolOk P ra (c.l b1 b2).length (c.l b1 b2) ∧ PolAt w P ra (c.l b1 b2).length cap c.al (c.l b1 b2) (S.st b1 b2) c0 c1 c2 c3
theorem Pz.mem {c : Pz} {b1 b2 : Nat} {r : Rs} (h : r ∈ c.l b1 b2) : r = ⟨c.s1, c.e1, false, false, b1⟩ ∨ (c.has = true ∧ r = ⟨c.s2, c.e2, c.zero, c.tag, b2⟩) := by
  unfold Pz.l at h
  cases e : c.has
  · rw [e] at h; simp at h; exact .inl h
  · rw [e] at h; simp at h
    rcases h with h | h
    · exact .inl h
    · exact .inr ⟨rfl, h⟩
theorem PolAt.congr {w : World} {p ra len cap : Nat} {al : Bool} {l : List Rs} {σ τ : Bst} {c0 c1 c2 c3 : Int} (h : PolAt w p ra len cap al l σ c0 c1 c2 c3) (hs : ∀ r ∈ l, σ r.b = τ r.b) : PolAt w p ra len cap al l τ c0 c1 c2 c3 :=
  ⟨h.row, h.rules, h.rlt, fun r hr => by rw [← hs r hr]; exact h.bucks r hr⟩
theorem Pz.bd {c : Pz} {S : S4} {M : Int} (h : S.Bd M) (b1 b2 : Nat) : Bd (c.l b1 b2) (S.st b1 b2) M := by
  intro r _
  unfold S4.st
  split
  · exact h.1
  · exact h.2
theorem PolS.ok {lo hi : Nat} {c : Pz} {S : S4} {c0 c1 c2 c3 : Int} {P : Nat} {w : World} (h : PolS lo hi c S c0 c1 c2 c3 P w) (he : c.e1 ≤ 1099511627776) : c.Ok := by
  obtain ⟨ra, cap, b1, b2, _, _, _, _, _, ok, _⟩ := h
  have g1 := ok.span ⟨c.s1, c.e1, false, false, b1⟩ (by unfold Pz.l; simp)
  have g2 : c.has = true → _ := fun e => ok.span ⟨c.s2, c.e2, c.zero, c.tag, b2⟩ (by unfold Pz.l; rw [e]; simp)
  exact ⟨⟨g1.1, g1.2.1⟩, fun e => ⟨(g2 e).1, (g2 e).2.1⟩, ⟨g1.2.2.1, he⟩, fun e => (g2 e).2.2⟩
/-- the policer of a contract. -/
def pzOf (k p e wh b : Int) : Pz := ⟨p, e, wh, b + e, decide (2 ≤ k ∧ k ≤ 4), decide (3 ≤ k), decide (k = 4), decide (k = 7)⟩
theorem pz_ok {k p e wh b l : Int} (h : rightZ k p e wh b l = 0) : (pzOf k p e wh b).Ok := by
  obtain ⟨⟨p0, p1, e0, e1⟩, hF⟩ := rightZ_zero.1 h
  refine ⟨⟨p0, p1⟩, fun hh => ?_, ⟨e0, e1⟩, fun hh => ?_⟩
  · have hk := of_decide_eq_true hh
    show 1 ≤ wh ∧ wh ≤ _
    omega
  · have hk := of_decide_eq_true hh
    show 0 ≤ b + e ∧ b + e ≤ _
    omega
theorem PolS.below {lo hi : Nat} {c : Pz} {S : S4} {c0 c1 c2 c3 : Int} {P : Nat} {w w' : World} (h : PolS lo hi c S c0 c1 c2 c3 P w) (hb : Below w.heap.size w w') : PolS lo hi c S c0 c1 c2 c3 P w' := by
  obtain ⟨ra, cap, b1, b2, hn, h1, h2, h3, h4, ok, hP⟩ := h
  exact ⟨ra, cap, b1, b2, hn, h1, h2, h3, h4, ok, hP.below hb⟩
/-- what turns only outside of it leaves it. -/
theorem PolS.other {s : Nat → Prop} {lo hi : Nat} {c : Pz} {S : S4} {c0 c1 c2 c3 : Int} {P : Nat} {w w' : World} (h : PolS lo hi c S c0 c1 c2 c3 P w) (hc : ChgL s w w') (hd : ∀ k, s k → k < lo ∨ hi ≤ k) : PolS lo hi c S c0 c1 c2 c3 P w' := by
  obtain ⟨ra, cap, b1, b2, hn, h1, h2, h3, h4, ok, hP⟩ := h
  have key : ∀ k, lo ≤ k ∧ k < hi → k < w.heap.size → w'.heap[k]? = w.heap[k]? := fun k hk hl => hc.block k hl (fun e => by have := hd k e; omega)
  refine ⟨ra, cap, b1, b2, hn, h1, h2, h3, h4, ok, ⟨(key P h1 hP.lt).trans hP.row, fun i r hr => ?_, Nat.lt_of_lt_of_le hP.rlt hc.size, fun r hr => ?_⟩⟩
  · have g := hP.rules i r hr
    have hk := key ra h2 hP.rlt
    exact ⟨(World.cell?_of_block hk).trans g.c0, (World.cell?_of_block hk).trans g.c1, (World.cell?_of_block hk).trans g.c2, (World.cell?_of_block hk).trans g.c3, (World.cell?_of_block hk).trans g.c4⟩
  · have g := hP.bucks r hr
    refine (key r.b ?_ g.lt).trans g
    rcases Pz.mem hr with rfl | ⟨hh, rfl⟩
    · exact h3
    · exact h4 hh
theorem take_S {lo hi : Nat} {c : Pz} {S : S4} {c0 c1 c2 c3 : Int} {P : Nat} (t clp : Int) (z : Bool) (hz : (clp == 0) = z) (w : World) (h : PolS lo hi c S c0 c1 c2 c3 P w) (hM : S.Bd 2305843009213693952) (b0 : 0 ≤ c0 ∧ c0 ≤ 1000000) (b1 : 0 ≤ c1 ∧ c1 ≤ 1000000) (b2 : 0 ≤ c2 ∧ c2 ≤ 1000000) (b3 : 0 ≤ c3 ∧ c3 ≤ 1000000) :
    Calls Try.prog 29 #[.pointer (some ⟨P, 0, none⟩), .int .i64 t, .int .i64 clp] w fun e w' => e = .returned (.int .i64 (c.last S t z)) ∧ PolS lo hi c (c.nxt S t z) (c0 + 1) (c1 + hit (c.last S t z) 1) (c2 + hit (c.last S t z) 2) (c3 + hit (c.last S t z) 3) P w' ∧ ChgL (fun k => lo ≤ k ∧ k < hi) w w' := by
  obtain ⟨ra, cap, d1, d2, hn, h1, h2, h3, h4, ok, hP⟩ := h
  refine (take_any t clp z hz w ok hP (Pz.bd hM d1 d2) b0 b1 b2 b3).mono ?_
  rintro e w' ⟨rfl, hA, hC⟩
  have hl : lastZ (c.l d1 d2) (S.st d1 d2) t z c.al = c.last S t z := by unfold lastZ; rw [verd_eq c S hn]; rfl
  rw [hl] at hA ⊢
  refine ⟨rfl, ⟨ra, cap, d1, d2, hn, h1, h2, h3, h4, ok, hA.congr ?_⟩, hC.mono ?_⟩
  · intro r hr
    unfold nextS
    rw [verd_eq c S hn]
    have g := nxt_eq c S hn t z
    rcases Pz.mem hr with rfl | ⟨hh, rfl⟩
    · rw [st_one]; exact g.1
    · rw [st_two _ hn]; exact g.2 hh
  · rintro k (rfl | ⟨r, hr, rfl⟩)
    · exact h1
    · rcases Pz.mem hr with rfl | ⟨hh, rfl⟩
      · exact h3
      · exact h4 hh
theorem new_S (k p e wh b l : Int) (w : World) (h : rightZ k p e wh b l = 0) :
    Calls Try.prog 28 #[.agg #[.int .i64 k, .int .i64 p, .int .i64 e, .int .i64 wh, .int .i64 b, .int .i64 l]] w fun en w' => ∃ P, en = .returned (.tuple #[.pointer (some ⟨P, 0, none⟩), .int .i64 0]) ∧
      PolS w.heap.size w'.heap.size (pzOf k p e wh b) S4.zero 0 0 0 0 P w' ∧ Below w.heap.size w w' := by
  have hF := rightZ_zero.1 h
  obtain ⟨⟨p0, p1, e0, e1⟩, hF⟩ := hF
  by_cases hk : 2 ≤ k ∧ k ≤ 4
  · refine (newP_two k p e wh b l (b + e) (decide (3 ≤ k)) (decide (k = 4)) w h hk rfl rfl rfl (by rw [decide_eq_false_iff_not]; omega) p0 p1 e0 e1 (by omega) (by omega) (by omega) (by omega)).mono ?_
    rintro en w' ⟨P, ra, cap, b1, b2, rfl, ok, hA, g1, g2, g3, g4, hB⟩
    have hh : decide (2 ≤ k ∧ k ≤ 4) = true := decide_eq_true hk
    have ha : decide (k = 7) = false := by rw [decide_eq_false_iff_not]; omega
    have hl : (pzOf k p e wh b).l b1 b2 = [⟨p, e, false, false, b1⟩, ⟨wh, b + e, decide (3 ≤ k), decide (k = 4), b2⟩] := by
      unfold Pz.l pzOf; rw [hh]; rfl
    have hz : ∀ x, S4.zero.st b1 b2 x = (0, false) := fun x => by unfold S4.st S4.zero; split <;> rfl
    refine ⟨P, rfl, ⟨ra, cap, b1, b2, ?_, ⟨g1, hA.lt⟩, ⟨g4, hA.rlt⟩, ⟨g2, (hA.bucks ⟨p, e, false, false, b1⟩ (by simp)).lt⟩, fun _ => ⟨g3, (hA.bucks ⟨wh, b + e, decide (3 ≤ k), decide (k = 4), b2⟩ (by simp)).lt⟩, ?_, ?_⟩, hB⟩
    · intro hb
      have := ok.inj ⟨p, e, false, false, b1⟩ (by simp) ⟨wh, b + e, decide (3 ≤ k), decide (k = 4), b2⟩ (by simp) hb
      have hd := ok.nodup
      rw [this] at hd
      simp at hd
    · rw [hl]; exact ok
    · rw [hl]
      have : (pzOf k p e wh b).al = false := ha
      rw [this]
      exact hA.congr (fun r _ => (hz r.b).symm)
  · refine (newP_one k p e wh b l (decide (k = 7)) w h hk (by rw [h]; simp) p0 p1 e0 e1).mono ?_
    rintro en w' ⟨P, ra, cap, b1, rfl, ok, hA, g1, g2, g4, hB⟩
    have hh : decide (2 ≤ k ∧ k ≤ 4) = false := decide_eq_false hk
    have hl : (pzOf k p e wh b).l b1 (b1 + 1) = [⟨p, e, false, false, b1⟩] := by
      unfold Pz.l pzOf; rw [hh]; rfl
    have hz : ∀ x, S4.zero.st b1 (b1 + 1) x = (0, false) := fun x => by unfold S4.st S4.zero; split <;> rfl
    refine ⟨P, rfl, ⟨ra, cap, b1, b1 + 1, by omega, ⟨g1, hA.lt⟩, ⟨g4, hA.rlt⟩, ⟨g2, (hA.bucks ⟨p, e, false, false, b1⟩ (by simp)).lt⟩, fun e => absurd (hh.symm.trans e) (by simp), ?_, ?_⟩, hB⟩
    · rw [hl]; exact ok
    · rw [hl]
      exact hA.congr (fun r _ => (hz r.b).symm)
end Go.Proofs.Ytndmmhljphlhjaa
