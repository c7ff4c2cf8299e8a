import Derived.Test.YtaoagbnhomjkpaaGreatZTopVerdicts01
/- Plain laws of a policer: spaced cells pass; a dropped cell turns nothing; later by as much. No program is in sight here. -/
namespace Go.Proofs.YtaoagbnhomjkpaaGreat
set_option linter.unusedVariables false
set_option linter.unusedSimpArgs false
theorem fits_of {e n t : Int} {a : Bool} (h : n - e ≤ t) (b0 : 0 ≤ t) (b1 : t ≤ 1152921504606846976) : fitsB e n a t = true := by
  unfold fitsB
  rw [clampZ_id b0 b1, decide_eq_true h, Bool.or_true]
theorem nextB_of {s n t : Int} (b0 : 0 ≤ t) (b1 : t ≤ 1152921504606846976) : nextB s n t = max n t + s := by
  unfold nextB
  rw [clampZ_id b0 b1]
theorem spaced_step {c : Pz} (ok : c.Ok) {S : S4} {t t' : Int} (h1 : S.n1 ≤ t + c.s1) (h2 : c.has = true → S.n2 ≤ t + c.s2) (t1 : t + c.s1 ≤ t') (t2 : c.has = true → t + c.s2 ≤ t') (b0 : 0 ≤ t') (b1 : t' ≤ 1152921504606846976) (z : Bool) :
    c.verd S t' z = 1 ∧ (c.nxt S t' z).n1 ≤ t' + c.s1 ∧ (c.has = true → (c.nxt S t' z).n2 ≤ t' + c.s2) := by
  have f1 : c.f1 S t' = true := fits_of (by have := ok.e1; omega) b0 b1
  have hv : c.verd S t' z = 1 := by
    unfold Pz.verd
    rw [f1, if_neg (by simp)]
    rw [if_neg]
    intro h
    have hh : c.has = true := by
      unfold Pz.as2 at h
      cases e : c.has
      · rw [e] at h; simp at h
      · rfl
    have f2 : c.f2 S t' = true := fits_of (by have := ok.e2 hh; have := h2 hh; have := t2 hh; omega) b0 b1
    rw [f2] at h
    simp at h
  refine ⟨hv, ?_, fun hh => ?_⟩
  · unfold Pz.nxt
    rw [hv]
    dsimp only
    rw [if_neg (by omega), nextB_of b0 b1]
    omega
  · unfold Pz.nxt
    rw [hv]
    have := h2 hh
    have := t2 hh
    have := (ok.s2 hh).1
    dsimp only
    split
    · rw [nextB_of b0 b1]; omega
    · omega
theorem last_pass {c : Pz} {S : S4} {t : Int} {z : Bool} (h : c.verd S t z = 1) : c.last S t z = if (c.al && z) = true then 2 else 1 := by
  unfold Pz.last finZ
  rw [h]
  cases c.al <;> cases z <;> simp
/-- what holds of counts behind so many cells. -/
def Cnt (i : Nat) (c0 c1 c2 c3 : Int) : Prop := (0 ≤ c0 ∧ c0 ≤ (i : Int)) ∧ (0 ≤ c1 ∧ c1 ≤ (i : Int)) ∧ (0 ≤ c2 ∧ c2 ≤ (i : Int)) ∧ (0 ≤ c3 ∧ c3 ≤ (i : Int))
theorem hit_bd (v k : Int) : 0 ≤ hit v k ∧ hit v k ≤ 1 := by unfold hit; split <;> omega
theorem Cnt.step {i : Nat} {c0 c1 c2 c3 : Int} (h : Cnt i c0 c1 c2 c3) (v : Int) : Cnt (i + 1) (c0 + 1) (c1 + hit v 1) (c2 + hit v 2) (c3 + hit v 3) := by
  obtain ⟨h0, h1, h2, h3⟩ := h
  have a1 := hit_bd v 1
  have a2 := hit_bd v 2
  have a3 := hit_bd v 3
  refine ⟨?_, ?_, ?_, ?_⟩ <;> omega
theorem Cnt.le {i : Nat} {c0 c1 c2 c3 : Int} (h : Cnt i c0 c1 c2 c3) (hi : i ≤ 1000) : (0 ≤ c0 ∧ c0 ≤ 1000000) ∧ (0 ≤ c1 ∧ c1 ≤ 1000000) ∧ (0 ≤ c2 ∧ c2 ≤ 1000000) ∧ (0 ≤ c3 ∧ c3 ≤ 1000000) := by
  obtain ⟨h0, h1, h2, h3⟩ := h
  refine ⟨?_, ?_, ?_, ?_⟩ <;> omega
/-- the bound behind so many cells. -/
def Grw (i : Nat) (S : S4) : Prop := S.Bd (1152921504606846976 + 1099511627776 * (i : Int))
theorem Grw.step {c : Pz} (ok : c.Ok) {i : Nat} {S : S4} (h : Grw i S) (t : Int) (z : Bool) : Grw (i + 1) (c.nxt S t z) := by
  have := Pz.nxt_bd ok h (by omega) t z
  unfold Grw
  have e : (1152921504606846976 : Int) + 1099511627776 * ((i + 1 : Nat) : Int) = 1152921504606846976 + 1099511627776 * (i : Int) + 1099511627776 := by omega
  rw [e]; exact this
theorem Grw.le {i : Nat} {S : S4} (h : Grw i S) (hi : i ≤ 1000) : S.Bd 2305843009213693952 := by
  obtain ⟨⟨h1, h2⟩, h3, h4⟩ := h
  exact ⟨⟨h1, by omega⟩, h3, by omega⟩
theorem Grw.zero : Grw 0 S4.zero := by unfold Grw S4.Bd S4.zero; decide
theorem Cnt.zero : Cnt 0 0 0 0 0 := by unfold Cnt; omega
def SpInv (c : Pz) (S : S4) (T : Int) (i : Nat) (c0 c1 c2 c3 : Int) : Prop := (S.n1 ≤ T + c.s1 ∧ (c.has = true → S.n2 ≤ T + c.s2)) ∧ Grw i S ∧ Cnt i c0 c1 c2 c3
theorem verd_ex (c : Pz) (S : S4) (t : Int) (z : Bool) : c.verd S t z = 1 ∨ c.verd S t z = 2 ∨ c.verd S t z = 3 := by
  unfold Pz.verd
  split
  · exact .inr (.inr rfl)
  · split
    · split
      · exact .inr (.inl rfl)
      · exact .inr (.inr rfl)
    · exact .inl rfl
theorem last_drop {c : Pz} {S : S4} {t : Int} {z : Bool} : c.last S t z = 3 ↔ c.verd S t z = 3 := by
  unfold Pz.last finZ
  split
  · next h => constructor
              · intro e; omega
              · intro e; omega
  · exact Iff.rfl
theorem drop_nxt {c : Pz} {S : S4} {t : Int} {z : Bool} (h : c.last S t z = 3) : c.nxt S t z = S := by
  have hv := last_drop.1 h
  unfold Pz.nxt
  rw [hv, if_pos rfl, if_pos rfl, if_neg (by omega), if_neg (by omega)]
end Go.Proofs.YtaoagbnhomjkpaaGreat

/- The law TopVerdicts: small functions, plain facts. -/
namespace Go.Proofs.YtaoagbnhomjkpaaGreat
set_option linter.unusedVariables false
set_option linter.unusedSimpArgs false
open Go.RowKit
set_option maxRecDepth 100000
set_option maxHeartbeats 4000000
theorem priority_any (g : Int) (low : Bool) (w : World) : Calls Tryz.prog 14 #[.agg #[.int .u32 g, .bool low]] w fun e w' => e = .returned (.int .i64 (if low then 1 else 0)) ∧ Below w.heap.size w w' := by
  cases low
  all_goals
    go_enter Tryz.func14, Tryz.ntmps14
    go_wp2
    go_ret
    exact ⟨rfl, by (repeat' (first | exact Below.refl _ _ | assumption | (refine Below.grown ?_ (by assumption) (by first | omega | (simp; omega)) (by simp [Value.ownBlock]; try omega)) | (refine below_drewN ?_ _) | (refine Below.drew ?_) | (refine Below.alloc ?_ (by first | omega | (simp; done) | (simp; omega)) _) | (refine Below.setCell ?_ (by first | omega | (simp; done) | (simp; omega)) _) | (refine below_then ?_ (Aft.below _)) | (apply below_then; rotate_left; assumption)))⟩
theorem pcounts_any (lo hi Q : Nat) (cz : Pz) (S : S4) (c0 c1 c2 c3 rr rd : Int) (rc : Bool) (now sp id pa ta dr : Int) (w : World) (h : Pln1 lo hi Q cz S c0 c1 c2 c3 rr rd rc now sp id pa ta dr w) :
    Calls Tryz.prog 12 #[.pointer (some ⟨Q, 0, none⟩)] w fun e w' => e = .returned (.agg #[.int .i64 0, .int .i64 sp, .int .i64 id, .int .i64 0, .int .i64 0, .int .i64 0, .int .i64 pa, .int .i64 ta, .int .i64 dr]) ∧ Below w.heap.size w w' := by
  obtain ⟨N, T, W, cm, L, cap, K, y, A, a, b, pl, ph, hP⟩ := h
  have hQ : PlnRow w Q N T W cm (.slice (some ⟨L, 0, none⟩) 2 cap) 1 now sp id pa ta dr := hP.1
  clear hP
  have B := (Below.refl w.heap.size w).alloc (Nat.le_refl _) (.cells #[.int .i64 0, .int .i64 0, .int .i64 0, .int .i64 0, .int .i64 0, .int .i64 0, .int .i64 0, .int .i64 0, .int .i64 0] 43)
  have hQ1 := hQ.below B
  have k11 := hQ1.c11
  have k12 := hQ1.c12
  have k13 := hQ1.c13
  have k14 := hQ1.c14
  have k15 := hQ1.c15
  have k16 := hQ1.c16
  have k17 := hQ1.c17
  have k18 := hQ1.c18
  have k19 := hQ1.c19
  go_enter Tryz.func12, Tryz.ntmps12
  go_wp2
  (try simp only [Exit.inBlock, Exit.then])
  refine bodyPost_ret (results_c1 rfl _ _ rfl (v := .agg #[.int .i64 _, .int .i64 _, .int .i64 _, .int .i64 _, .int .i64 _, .int .i64 _, .int .i64 _, .int .i64 _, .int .i64 _]) ?_) rfl ⟨rfl, by (repeat' (first | exact Below.refl _ _ | assumption | (refine Below.grown ?_ (by assumption) (by first | omega | (simp; omega)) (by simp [Value.ownBlock]; try omega)) | (refine below_drewN ?_ _) | (refine Below.drew ?_) | (refine Below.alloc ?_ (by first | omega | (simp; done) | (simp; omega)) _) | (refine Below.setCell ?_ (by first | omega | (simp; done) | (simp; omega)) _) | (refine below_then ?_ (Aft.below _)) | (apply below_then; rotate_left; assumption)))⟩
  exact run_loadVar_row _ _ _ _ _ _ _ (heap_alloc_new w _) Tryz.underlying43 rfl (by kernel_rfl)
end Go.Proofs.YtaoagbnhomjkpaaGreat
