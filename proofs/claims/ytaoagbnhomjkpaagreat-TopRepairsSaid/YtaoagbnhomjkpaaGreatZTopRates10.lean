import Derived.KernelRfl
import Derived.Laws.AppendOwn
import Derived.Laws.OwnMore
import Derived.Test.YtaoagbnhomjkpaaGreatZTopRates00
import Derived.Test.YtaoagbnhomjkpaaGreatZTopRates07
import Derived.Test.YtaoagbnhomjkpaaGreatZTopRates09
/- The walks of the layer 'contract' and of its reference. -/
namespace Go.Proofs.YtaoagbnhomjkpaaGreat
set_option linter.unusedVariables false
set_option linter.unusedSimpArgs false
open Go.RowKit
set_option maxRecDepth 100000
set_option maxHeartbeats 4000000
theorem span_any (n least : Int) (w : World) : Calls Tryz.prog 23 #[.int .i64 n, .int .i64 least] w fun e w' => e = .returned (.bool (spanZ n least)) ∧ w = w' := by
  go_enter Tryz.func23, Tryz.ntmps23
  go_wp2
  all_goals
    go_ret
    refine ⟨ret_bool ?_, rfl⟩
    rw [Bool.eq_iff_iff]; simp [spanZ]; omega
theorem cright_any (k p e wh b l : Int) (w : World) :
    Calls Tryz.prog 7 #[.agg #[.int .i64 k, .int .i64 p, .int .i64 e, .int .i64 wh, .int .i64 b, .int .i64 l]] w fun en w' => en = .returned (.int .i64 (rightZ k p e wh b l)) ∧ Below w.heap.size w w' := by
  go_enter Tryz.func7, Tryz.ntmps7
  go_wp2_with (go_at_call 23; refine (span_any _ _ _).mono ?_; rintro e w' ⟨rfl, rfl⟩)
  all_goals
    go_ret
    refine ⟨ret_int (rightZ_of ?_), (Below.refl _ _).alloc (Nat.le_refl _) _⟩
    simp [spanZ] at *
    try unfold FineP
    omega
end Go.Proofs.YtaoagbnhomjkpaaGreat

/- The walk of 'Fewer' of the layer 'contract'. -/
namespace Go.Proofs.YtaoagbnhomjkpaaGreat
set_option linter.unusedVariables false
set_option linter.unusedSimpArgs false
open Go.RowKit
set_option maxRecDepth 100000
set_option maxHeartbeats 4000000
def fewZ (k p e wh b l k' p' e' wh' b' l' : Int) : Bool :=
  decide (rightZ k p e wh b l = 0 ∧ rightZ k' p' e' wh' b' l' = 0 ∧ k = k' ∧ l = l' ∧ p' ≤ p ∧ wh' ≤ wh ∧ e ≤ e' ∧ b ≤ b')
attribute [irreducible] fewZ
end Go.Proofs.YtaoagbnhomjkpaaGreat

/- The walks of 'Rules' of the layer 'contract', and of its reference: what a contract is policed by. -/
namespace Go.Proofs.YtaoagbnhomjkpaaGreat
set_option linter.unusedVariables false
set_option linter.unusedSimpArgs false
open Go.RowKit
set_option maxRecDepth 100000
set_option maxHeartbeats 4000000
def ruleV (s e : Int) (z t : Bool) : List Value := [.int .i64 s, .int .i64 e, .bool z, .bool t]
/-- the cells of a contract's rules. -/
def rulesV (k p e wh b : Int) : List Value := ruleV p e false false ++ if 2 ≤ k ∧ k ≤ 4 then ruleV wh (b + e) (decide (3 ≤ k)) (decide (k = 4)) else []
def rulesN (k : Int) : Nat := if 2 ≤ k ∧ k ≤ 4 then 2 else 1
/-- what comes back: rules of the call's own. -/
def RulesPost (P : Program) (E : TypeId) (w : World) (k p e wh b : Int) (en : Ending) (w' : World) : Prop :=
  ∃ v, en = .returned v ∧ w'.ownsRow w.heap.size E 4 v (rulesN k) (rulesV k p e wh b) ∧ Below w.heap.size w w'
theorem ruleInfo : (Tryz.prog.info? 117).map (fun i => (i.zero, i.size, i.bytes)) = some (some (.agg #[.int .i64 0, .int .i64 0, .bool false, .bool false]), 4, 24) := by kernel_rfl
theorem rules_bad (k p e wh b l : Int) (w : World) (h : ¬ rightZ k p e wh b l = 0) :
    Calls Tryz.prog 42 #[.agg #[.int .i64 k, .int .i64 p, .int .i64 e, .int .i64 wh, .int .i64 b, .int .i64 l]] w fun en w' => en = .returned (.slice none 0 0) ∧ Below w.heap.size w w' := by
  have h' : (rightZ k p e wh b l == 0) = false := by simp; exact h
  go_enter Tryz.func42, Tryz.ntmps42
  go_wp2_with (first | (go_at_call 7; refine (cright_any _ _ _ _ _ _ _).mono ?_; rintro e w' ⟨rfl, hb⟩; obtain ⟨hc, hf⟩ := bcell hb; have hz := hb.size; (try simp at hz); (try have hz1 : w.heap.size < w'.heap.size := by omega); (try have hz2 : w.heap.size + 1 < w'.heap.size := by omega); (try have hz3 : w.heap.size < w'.heap.size + 1 := by omega); (try have hz4 : w.heap.size < w'.heap.size + 1 + 1 := by omega); (try have hz5 : ¬ w.heap.size = w'.heap.size := by omega); (try have hz6 : w.heap.size + 1 + 1 < w'.heap.size := by omega)))
  go_ret
  exact ⟨rfl, by (repeat' (first | exact Below.refl _ _ | assumption | (refine Below.grown ?_ (by assumption) (by first | omega | (simp; omega)) (by simp [Value.ownBlock]; try omega)) | (refine below_drewN ?_ _) | (refine Below.drew ?_) | (refine Below.alloc ?_ (by first | omega | (simp; done) | (simp; omega)) _) | (refine Below.setCell ?_ (by first | omega | (simp; done) | (simp; omega)) _) | (refine below_then ?_ (Aft.below _)) | (apply below_then; rotate_left; assumption)))⟩
theorem rules_any (k p e wh b l : Int) (w : World) (h : rightZ k p e wh b l = 0) :
    Calls Tryz.prog 42 #[.agg #[.int .i64 k, .int .i64 p, .int .i64 e, .int .i64 wh, .int .i64 b, .int .i64 l]] w (RulesPost Tryz.prog 117 w k p e wh b) := by
  have hf := rightZ_zero.1 h
  have hk : 1 ≤ k ∧ k ≤ 7 := by unfold FineP at hf; omega
  have hb1 : 0 ≤ b + e ∧ b + e ≤ 3000000000000 := by unfold FineP at hf; omega
  clear hf
  obtain rfl | rfl | rfl | rfl | rfl | rfl | rfl : k = 1 ∨ k = 2 ∨ k = 3 ∨ k = 4 ∨ k = 5 ∨ k = 6 ∨ k = 7 := by omega
  · clear hk
    go_enter Tryz.func42, Tryz.ntmps42
    go_wp2_with (first | (go_at_call 7; refine (cright_any _ _ _ _ _ _ _).mono ?_; rintro e w' ⟨rfl, hb⟩; obtain ⟨hc, hf⟩ := bcell hb; have hz := hb.size; (try simp at hz); (try have hz1 : w.heap.size < w'.heap.size := by omega); (try have hz2 : w.heap.size + 1 < w'.heap.size := by omega); (try have hz3 : w.heap.size < w'.heap.size + 1 := by omega); (try have hz4 : w.heap.size < w'.heap.size + 1 + 1 := by omega); (try have hz5 : ¬ w.heap.size = w'.heap.size := by omega); (try have hz6 : w.heap.size + 1 + 1 < w'.heap.size := by omega)))
    go_ret
    exact ⟨_, rfl, (own_made (n := 1) #[.int .i64 p, .int .i64 e, .bool false, .bool false] (by omega) (by unfold maxLen; omega) rfl).alloc _, by (repeat' (first | exact Below.refl _ _ | assumption | (refine Below.grown ?_ (by assumption) (by first | omega | (simp; omega)) (by simp [Value.ownBlock]; try omega)) | (refine below_drewN ?_ _) | (refine Below.drew ?_) | (refine Below.alloc ?_ (by first | omega | (simp; done) | (simp; omega)) _) | (refine Below.setCell ?_ (by first | omega | (simp; done) | (simp; omega)) _) | (refine below_then ?_ (Aft.below _)) | (apply below_then; rotate_left; assumption)))⟩
  · clear hk
    obtain ⟨i0, hi, hi0, hi1, hi2⟩ := info_parts ruleInfo
    go_enter Tryz.func42, Tryz.ntmps42
    go_wp2_with (first | (go_at_call 7; refine (cright_any _ _ _ _ _ _ _).mono ?_; rintro e w' ⟨rfl, hb⟩; obtain ⟨hc, hf⟩ := bcell hb; have hz := hb.size; (try simp at hz); (try have hz1 : w.heap.size < w'.heap.size := by omega); (try have hz2 : w.heap.size + 1 < w'.heap.size := by omega); (try have hz3 : w.heap.size < w'.heap.size + 1 := by omega); (try have hz4 : w.heap.size < w'.heap.size + 1 + 1 := by omega); (try have hz5 : ¬ w.heap.size = w'.heap.size := by omega); (try have hz6 : w.heap.size + 1 + 1 < w'.heap.size := by omega)) | (at_builtin; refine wpList_append_own _ rfl _ _ 114 rfl w.heap.size 117 i0 _ 4 24 Tryz.underlying114 hi hi0 hi1 hi2 rfl (by decide) (.slice (some ⟨w'.heap.size, 0, none⟩) 1 1) 1 (ruleV p e false false) rfl (((own_made (n := 1) #[.int .i64 p, .int .i64 e, .bool false, .bool false] (by omega) (by unfold maxLen; omega) rfl).alloc _).alloc _) ⟨w'.heap.size + 1 + 1, 0, none⟩ 1 1 (ruleV wh (b + e) false false) rfl rfl (cells_made_at #[.int .i64 wh, .int .i64 (b + e), .bool false, .bool false] (by unfold maxLen; simp) (by simp)) (by simp [ruleV, Value.oneCell']) (by unfold maxLen; omega) (by omega) (by simp; omega) ?_; intro v2 w2 hown2 hg2 _))
    go_ret
    exact ⟨_, rfl, hown2, by (repeat' (first | exact Below.refl _ _ | assumption | (refine Below.grown ?_ (by assumption) (by first | omega | (simp; omega)) (by simp [Value.ownBlock]; try omega)) | (refine below_drewN ?_ _) | (refine Below.drew ?_) | (refine Below.alloc ?_ (by first | omega | (simp; done) | (simp; omega)) _) | (refine Below.setCell ?_ (by first | omega | (simp; done) | (simp; omega)) _) | (refine below_then ?_ (Aft.below _)) | (apply below_then; rotate_left; assumption)))⟩
  · clear hk
    obtain ⟨i0, hi, hi0, hi1, hi2⟩ := info_parts ruleInfo
    go_enter Tryz.func42, Tryz.ntmps42
    go_wp2_with (first | (go_at_call 7; refine (cright_any _ _ _ _ _ _ _).mono ?_; rintro e w' ⟨rfl, hb⟩; obtain ⟨hc, hf⟩ := bcell hb; have hz := hb.size; (try simp at hz); (try have hz1 : w.heap.size < w'.heap.size := by omega); (try have hz2 : w.heap.size + 1 < w'.heap.size := by omega); (try have hz3 : w.heap.size < w'.heap.size + 1 := by omega); (try have hz4 : w.heap.size < w'.heap.size + 1 + 1 := by omega); (try have hz5 : ¬ w.heap.size = w'.heap.size := by omega); (try have hz6 : w.heap.size + 1 + 1 < w'.heap.size := by omega)) | (at_builtin; refine wpList_append_own _ rfl _ _ 114 rfl w.heap.size 117 i0 _ 4 24 Tryz.underlying114 hi hi0 hi1 hi2 rfl (by decide) (.slice (some ⟨w'.heap.size, 0, none⟩) 1 1) 1 (ruleV p e false false) rfl (((own_made (n := 1) #[.int .i64 p, .int .i64 e, .bool false, .bool false] (by omega) (by unfold maxLen; omega) rfl).alloc _).alloc _) ⟨w'.heap.size + 1 + 1, 0, none⟩ 1 1 (ruleV wh (b + e) true false) rfl rfl (cells_made_at #[.int .i64 wh, .int .i64 (b + e), .bool true, .bool false] (by unfold maxLen; simp) (by simp)) (by simp [ruleV, Value.oneCell']) (by unfold maxLen; omega) (by omega) (by simp; omega) ?_; intro v2 w2 hown2 hg2 _))
    go_ret
    exact ⟨_, rfl, hown2, by (repeat' (first | exact Below.refl _ _ | assumption | (refine Below.grown ?_ (by assumption) (by first | omega | (simp; omega)) (by simp [Value.ownBlock]; try omega)) | (refine below_drewN ?_ _) | (refine Below.drew ?_) | (refine Below.alloc ?_ (by first | omega | (simp; done) | (simp; omega)) _) | (refine Below.setCell ?_ (by first | omega | (simp; done) | (simp; omega)) _) | (refine below_then ?_ (Aft.below _)) | (apply below_then; rotate_left; assumption)))⟩
  · clear hk
    obtain ⟨i0, hi, hi0, hi1, hi2⟩ := info_parts ruleInfo
    go_enter Tryz.func42, Tryz.ntmps42
    go_wp2_with (first | (go_at_call 7; refine (cright_any _ _ _ _ _ _ _).mono ?_; rintro e w' ⟨rfl, hb⟩; obtain ⟨hc, hf⟩ := bcell hb; have hz := hb.size; (try simp at hz); (try have hz1 : w.heap.size < w'.heap.size := by omega); (try have hz2 : w.heap.size + 1 < w'.heap.size := by omega); (try have hz3 : w.heap.size < w'.heap.size + 1 := by omega); (try have hz4 : w.heap.size < w'.heap.size + 1 + 1 := by omega); (try have hz5 : ¬ w.heap.size = w'.heap.size := by omega); (try have hz6 : w.heap.size + 1 + 1 < w'.heap.size := by omega)) | (at_builtin; refine wpList_append_own _ rfl _ _ 114 rfl w.heap.size 117 i0 _ 4 24 Tryz.underlying114 hi hi0 hi1 hi2 rfl (by decide) (.slice (some ⟨w'.heap.size, 0, none⟩) 1 1) 1 (ruleV p e false false) rfl (((own_made (n := 1) #[.int .i64 p, .int .i64 e, .bool false, .bool false] (by omega) (by unfold maxLen; omega) rfl).alloc _).alloc _) ⟨w'.heap.size + 1 + 1, 0, none⟩ 1 1 (ruleV wh (b + e) true true) rfl rfl (cells_made_at #[.int .i64 wh, .int .i64 (b + e), .bool true, .bool true] (by unfold maxLen; simp) (by simp)) (by simp [ruleV, Value.oneCell']) (by unfold maxLen; omega) (by omega) (by simp; omega) ?_; intro v2 w2 hown2 hg2 _))
    go_ret
    exact ⟨_, rfl, hown2, by (repeat' (first | exact Below.refl _ _ | assumption | (refine Below.grown ?_ (by assumption) (by first | omega | (simp; omega)) (by simp [Value.ownBlock]; try omega)) | (refine below_drewN ?_ _) | (refine Below.drew ?_) | (refine Below.alloc ?_ (by first | omega | (simp; done) | (simp; omega)) _) | (refine Below.setCell ?_ (by first | omega | (simp; done) | (simp; omega)) _) | (refine below_then ?_ (Aft.below _)) | (apply below_then; rotate_left; assumption)))⟩
  · clear hk
    go_enter Tryz.func42, Tryz.ntmps42
    go_wp2_with (first | (go_at_call 7; refine (cright_any _ _ _ _ _ _ _).mono ?_; rintro e w' ⟨rfl, hb⟩; obtain ⟨hc, hf⟩ := bcell hb; have hz := hb.size; (try simp at hz); (try have hz1 : w.heap.size < w'.heap.size := by omega); (try have hz2 : w.heap.size + 1 < w'.heap.size := by omega); (try have hz3 : w.heap.size < w'.heap.size + 1 := by omega); (try have hz4 : w.heap.size < w'.heap.size + 1 + 1 := by omega); (try have hz5 : ¬ w.heap.size = w'.heap.size := by omega); (try have hz6 : w.heap.size + 1 + 1 < w'.heap.size := by omega)))
    go_ret
    exact ⟨_, rfl, (own_made (n := 1) #[.int .i64 p, .int .i64 e, .bool false, .bool false] (by omega) (by unfold maxLen; omega) rfl).alloc _, by (repeat' (first | exact Below.refl _ _ | assumption | (refine Below.grown ?_ (by assumption) (by first | omega | (simp; omega)) (by simp [Value.ownBlock]; try omega)) | (refine below_drewN ?_ _) | (refine Below.drew ?_) | (refine Below.alloc ?_ (by first | omega | (simp; done) | (simp; omega)) _) | (refine Below.setCell ?_ (by first | omega | (simp; done) | (simp; omega)) _) | (refine below_then ?_ (Aft.below _)) | (apply below_then; rotate_left; assumption)))⟩
  · clear hk
    go_enter Tryz.func42, Tryz.ntmps42
    go_wp2_with (first | (go_at_call 7; refine (cright_any _ _ _ _ _ _ _).mono ?_; rintro e w' ⟨rfl, hb⟩; obtain ⟨hc, hf⟩ := bcell hb; have hz := hb.size; (try simp at hz); (try have hz1 : w.heap.size < w'.heap.size := by omega); (try have hz2 : w.heap.size + 1 < w'.heap.size := by omega); (try have hz3 : w.heap.size < w'.heap.size + 1 := by omega); (try have hz4 : w.heap.size < w'.heap.size + 1 + 1 := by omega); (try have hz5 : ¬ w.heap.size = w'.heap.size := by omega); (try have hz6 : w.heap.size + 1 + 1 < w'.heap.size := by omega)))
    go_ret
    exact ⟨_, rfl, (own_made (n := 1) #[.int .i64 p, .int .i64 e, .bool false, .bool false] (by omega) (by unfold maxLen; omega) rfl).alloc _, by (repeat' (first | exact Below.refl _ _ | assumption | (refine Below.grown ?_ (by assumption) (by first | omega | (simp; omega)) (by simp [Value.ownBlock]; try omega)) | (refine below_drewN ?_ _) | (refine Below.drew ?_) | (refine Below.alloc ?_ (by first | omega | (simp; done) | (simp; omega)) _) | (refine Below.setCell ?_ (by first | omega | (simp; done) | (simp; omega)) _) | (refine below_then ?_ (Aft.below _)) | (apply below_then; rotate_left; assumption)))⟩
  · clear hk
    go_enter Tryz.func42, Tryz.ntmps42
    go_wp2_with (first | (go_at_call 7; refine (cright_any _ _ _ _ _ _ _).mono ?_; rintro e w' ⟨rfl, hb⟩; obtain ⟨hc, hf⟩ := bcell hb; have hz := hb.size; (try simp at hz); (try have hz1 : w.heap.size < w'.heap.size := by omega); (try have hz2 : w.heap.size + 1 < w'.heap.size := by omega); (try have hz3 : w.heap.size < w'.heap.size + 1 := by omega); (try have hz4 : w.heap.size < w'.heap.size + 1 + 1 := by omega); (try have hz5 : ¬ w.heap.size = w'.heap.size := by omega); (try have hz6 : w.heap.size + 1 + 1 < w'.heap.size := by omega)))
    go_ret
    exact ⟨_, rfl, (own_made (n := 1) #[.int .i64 p, .int .i64 e, .bool false, .bool false] (by omega) (by unfold maxLen; omega) rfl).alloc _, by (repeat' (first | exact Below.refl _ _ | assumption | (refine Below.grown ?_ (by assumption) (by first | omega | (simp; omega)) (by simp [Value.ownBlock]; try omega)) | (refine below_drewN ?_ _) | (refine Below.drew ?_) | (refine Below.alloc ?_ (by first | omega | (simp; done) | (simp; omega)) _) | (refine Below.setCell ?_ (by first | omega | (simp; done) | (simp; omega)) _) | (refine below_then ?_ (Aft.below _)) | (apply below_then; rotate_left; assumption)))⟩
end Go.Proofs.YtaoagbnhomjkpaaGreat

/- More walks of the layer 'contract': what its laws begin with, and two of them. -/
namespace Go.Proofs.YtaoagbnhomjkpaaGreat
set_option linter.unusedVariables false
set_option linter.unusedSimpArgs false
open Go.RowKit
set_option maxRecDepth 100000
set_option maxHeartbeats 4000000
/-- two rules, cell by cell. -/
theorem rules_two (k p e wh b l : Int) (w : World) (h : rightZ k p e wh b l = 0) (hk : 2 ≤ k ∧ k ≤ 4) :
    Calls Tryz.prog 42 #[.agg #[.int .i64 k, .int .i64 p, .int .i64 e, .int .i64 wh, .int .i64 b, .int .i64 l]] w fun en w' =>
      ∃ g cap, en = .returned (.slice (some ⟨g, 0, none⟩) 2 cap) ∧ w.heap.size ≤ g ∧ g < w'.heap.size ∧ 2 ≤ cap ∧
        w'.cell? ⟨g, 0, none⟩ = some (.int .i64 p) ∧ w'.cell? ⟨g, 1, none⟩ = some (.int .i64 e) ∧ w'.cell? ⟨g, 2, none⟩ = some (.bool false) ∧ w'.cell? ⟨g, 3, none⟩ = some (.bool false) ∧
        w'.cell? ⟨g, 4, none⟩ = some (.int .i64 wh) ∧ w'.cell? ⟨g, 5, none⟩ = some (.int .i64 (b + e)) ∧ w'.cell? ⟨g, 6, none⟩ = some (.bool (decide (3 ≤ k))) ∧ w'.cell? ⟨g, 7, none⟩ = some (.bool (decide (k = 4))) ∧
        Below w.heap.size w w' := by
  refine (rules_any k p e wh b l w h).mono ?_
  rintro en w' ⟨v, rfl, ho, hb⟩
  unfold rulesN rulesV at ho
  rw [if_pos hk, if_pos hk] at ho
  have ho' := ho
  rcases ho.2 with ⟨_, h0⟩ | ⟨g, cap, cur, rfl, hg, hh, hn, _, _, _⟩
  · omega
  have hlt := (ho'.lt g rfl).2
  have c := fun j (hj : j < 8) => ho'.cellAt j (by omega)
  exact ⟨g, cap, rfl, hg, hlt, hn, c 0 (by omega), c 1 (by omega), c 2 (by omega), c 3 (by omega), c 4 (by omega), c 5 (by omega), c 6 (by omega), c 7 (by omega), hb⟩
theorem rules_one (k p e wh b l : Int) (w : World) (h : rightZ k p e wh b l = 0) (hk : ¬ (2 ≤ k ∧ k ≤ 4)) :
    Calls Tryz.prog 42 #[.agg #[.int .i64 k, .int .i64 p, .int .i64 e, .int .i64 wh, .int .i64 b, .int .i64 l]] w fun en w' =>
      ∃ g cap, en = .returned (.slice (some ⟨g, 0, none⟩) 1 cap) ∧ w.heap.size ≤ g ∧ g < w'.heap.size ∧ 1 ≤ cap ∧
        w'.cell? ⟨g, 0, none⟩ = some (.int .i64 p) ∧ w'.cell? ⟨g, 1, none⟩ = some (.int .i64 e) ∧ w'.cell? ⟨g, 2, none⟩ = some (.bool false) ∧ w'.cell? ⟨g, 3, none⟩ = some (.bool false) ∧
        Below w.heap.size w w' := by
  refine (rules_any k p e wh b l w h).mono ?_
  rintro en w' ⟨v, rfl, ho, hb⟩
  unfold rulesN rulesV at ho
  rw [if_neg hk, if_neg hk] at ho
  have ho' := ho
  rcases ho.2 with ⟨_, h0⟩ | ⟨g, cap, cur, rfl, hg, hh, hn, _, _, _⟩
  · omega
  have hlt := (ho'.lt g rfl).2
  have c := fun j (hj : j < 4) => ho'.cellAt j (by omega)
  exact ⟨g, cap, rfl, hg, hlt, hn, c 0 (by omega), c 1 (by omega), c 2 (by omega), c 3 (by omega), hb⟩
/-- how many may come at the peak. -/
def mostZ (k p e wh b l : Int) : Int := if 2 ≤ k ∧ k ≤ 4 ∧ rightZ k p e wh b l = 0 ∧ wh ≠ p then 1 + b / (wh - p) else 0
attribute [irreducible] mostZ
theorem always_any (k p e wh b l : Int) (w : World) :
    Calls Tryz.prog 41 #[.agg #[.int .i64 k, .int .i64 p, .int .i64 e, .int .i64 wh, .int .i64 b, .int .i64 l]] w fun en w' => en = .returned (.bool (decide (k = 7 ∧ rightZ k p e wh b l = 0))) ∧ Below w.heap.size w w' := by
  by_cases hk : k = 7
  · subst hk
    go_enter Tryz.func41, Tryz.ntmps41
    go_wp2_with (first | (go_at_call 7; refine (cright_any _ _ _ _ _ _ _).mono ?_; rintro e w' ⟨rfl, hb⟩; obtain ⟨hc, hf⟩ := bcell hb; have hz := hb.size; (try simp at hz); (try have hz1 : w.heap.size < w'.heap.size := by omega); (try have hz2 : w.heap.size + 1 < w'.heap.size := by omega); (try have hz3 : w.heap.size < w'.heap.size + 1 := by omega); (try have hz4 : w.heap.size < w'.heap.size + 1 + 1 := by omega); (try have hz5 : ¬ w.heap.size = w'.heap.size := by omega); (try have hz6 : w.heap.size + 1 + 1 < w'.heap.size := by omega)))
    go_ret
    exact ⟨ret_bool (by rw [Bool.eq_iff_iff]; simp), by (repeat' (first | exact Below.refl _ _ | assumption | (refine Below.grown ?_ (by assumption) (by first | omega | (simp; omega)) (by simp [Value.ownBlock]; try omega)) | (refine below_drewN ?_ _) | (refine Below.drew ?_) | (refine Below.alloc ?_ (by first | omega | (simp; done) | (simp; omega)) _) | (refine Below.setCell ?_ (by first | omega | (simp; done) | (simp; omega)) _) | (refine below_then ?_ (Aft.below _)) | (apply below_then; rotate_left; assumption)))⟩
  · have hk' : (k == 7) = false := by simp; exact hk
    go_enter Tryz.func41, Tryz.ntmps41
    go_wp2_with (first | (go_at_call 7; refine (cright_any _ _ _ _ _ _ _).mono ?_; rintro e w' ⟨rfl, hb⟩; obtain ⟨hc, hf⟩ := bcell hb; have hz := hb.size; (try simp at hz); (try have hz1 : w.heap.size < w'.heap.size := by omega); (try have hz2 : w.heap.size + 1 < w'.heap.size := by omega); (try have hz3 : w.heap.size < w'.heap.size + 1 := by omega); (try have hz4 : w.heap.size < w'.heap.size + 1 + 1 := by omega); (try have hz5 : ¬ w.heap.size = w'.heap.size := by omega); (try have hz6 : w.heap.size + 1 + 1 < w'.heap.size := by omega)))
    go_ret
    exact ⟨ret_bool (by rw [Bool.eq_iff_iff]; simp; omega), by (repeat' (first | exact Below.refl _ _ | assumption | (refine Below.grown ?_ (by assumption) (by first | omega | (simp; omega)) (by simp [Value.ownBlock]; try omega)) | (refine below_drewN ?_ _) | (refine Below.drew ?_) | (refine Below.alloc ?_ (by first | omega | (simp; done) | (simp; omega)) _) | (refine Below.setCell ?_ (by first | omega | (simp; done) | (simp; omega)) _) | (refine below_then ?_ (Aft.below _)) | (apply below_then; rotate_left; assumption)))⟩
end Go.Proofs.YtaoagbnhomjkpaaGreat

/- police.New. -/
namespace Go.Proofs.YtaoagbnhomjkpaaGreat
set_option linter.unusedVariables false
set_option linter.unusedSimpArgs false
open Go.RowKit
set_option maxRecDepth 100000
set_option maxHeartbeats 4000000
theorem prInfo : (Tryz.prog.info? 123).map (fun i => (i.zero, i.size, i.bytes)) = some (some (.agg #[.int .i64 0, .int .i64 0, .bool false, .bool false, .nilIface]), 5, 40) := by kernel_rfl
def flatP : List Rs → List Value
  | [] => []
  | x :: xs => x.val.toList ++ flatP xs
theorem flatP_append : ∀ xs ys : List Rs, flatP (xs ++ ys) = flatP xs ++ flatP ys
  | [], _ => rfl
  | x :: xs, ys => by show x.val.toList ++ flatP (xs ++ ys) = _; rw [flatP_append xs ys, ← List.append_assoc]; rfl
theorem flatP_at : ∀ (cs : List Rs) (i : Nat) (x : Rs), cs[i]? = some x → ∀ j, j < 5 → (flatP cs)[i * 5 + j]? = x.val[j]?
  | [], _, _, h, _, _ => by simp at h
  | y :: ys, 0, x, h, j, hj => by
    simp at h; subst h
    unfold flatP
    rw [Nat.zero_mul, Nat.zero_add, List.getElem?_append_left (by simpa using hj)]
    simp
  | y :: ys, i + 1, x, h, j, hj => by
    have := flatP_at ys i x (by simpa using h) j hj
    unfold flatP
    rw [List.getElem?_append_right (by simp; omega), ← this]
    congr 1
    simp; omega
/-- a row of rules of the call's own. -/
def OwnP (w : World) (base : Nat) (v : Value) (n : Nat) (l : List Rs) : Prop := l.length = n ∧ w.ownsRow base 123 5 v n (flatP l)
theorem OwnP.below {w w' : World} {base : Nat} {v : Value} {n : Nat} {cs : List Rs} (h : OwnP w base v n cs) (hb : Below w.heap.size w w') : OwnP w' base v n cs := ⟨h.1, own_below h.2 hb⟩
theorem OwnP.nil (w : World) (base : Nat) : OwnP w base (.slice none 0 0) 0 [] := ⟨rfl, World.ownsRow_nil w base _ 5⟩
theorem OwnP.at {w : World} {base : Nat} {v : Value} {n : Nat} {cs : List Rs} (h : OwnP w base v n cs) (hn : 0 < n) :
    ∃ g cap, v = .slice (some ⟨g, 0, none⟩) n cap ∧ base ≤ g ∧ g < w.heap.size ∧ (∃ cur fr, w.heap[g]? = some (.cells cur 123 fr)) ∧ ∀ i r, cs[i]? = some r → RsAt w g i r := by
  have hl := h.1
  rcases h.2.2 with ⟨_, h0⟩ | ⟨g, cap, cur, rfl, hbg, hg, hnc, hcm, hcs, htake⟩
  · omega
  · have hlt := (h.2.lt g rfl).2
    refine ⟨g, cap, rfl, hbg, hlt, ⟨_, _, hg⟩, fun i r hr => ?_⟩
    have hi : i < n := by rw [← hl]; exact (List.getElem?_eq_some_iff.1 hr).1
    have key : ∀ j, j < 5 → w.cell? ⟨g, i * 5 + j, none⟩ = r.val[j]? := fun j hj => by
      have := World.ownsRow.cellAt h.2 (i * 5 + j) (by omega)
      rw [this, flatP_at cs i r hr j hj]
    exact ⟨key 0 (by omega), key 1 (by omega), key 2 (by omega), key 3 (by omega), key 4 (by omega)⟩
theorem wpList_append_rule {w : World} {ops : Array Oper} {rest : List Oper} {o : Oper} {a : Act} {Q : Exit → Act → World → Prop} (hgd : o.guard = none) (s x : Operand)
    (ho : o.op = .call { callee := .builtin .append, args := #[s, x], argTypes := #[111, 111] }) {base : Nat} {v : Value} {n : Nat} {xs : List Rs} (hs : a.eval s = v) (hown : OwnP w base v n xs)
    {b : Nat} {r : Rs} (hx : a.eval x = .slice (some ⟨b, 0, none⟩) 1 1) (hc : RsAt w b 0 r) (hb : n + 1 ≤ 1000) (hbase : base ≤ w.heap.size)
    (h : ∀ v' w', OwnP w' base v' (n + 1) (xs ++ [r]) → w.grownBy w' v.ownBlock → Below base w w' → wpList Tryz.prog ops Q rest (a.put o.dst v') w') : wpList Tryz.prog ops Q (o :: rest) a w := by
  obtain ⟨inf, hin, hi0, hi1, hi2⟩ := info_parts prInfo
  refine wpList_append_own _ hgd s x 111 ho base 123 inf _ 5 40 Tryz.underlying111 hin hi0 hi1 hi2 rfl (by decide) v n (flatP xs) hs hown.2 ⟨b, 0, none⟩ 1 1 r.val.toList hx rfl ?_ (by simp [Value.oneCell']) (by unfold maxLen; omega) (by omega) hbase ?_
  · intro j u hj
    have c0 := hc.c0; have c1 := hc.c1; have c2 := hc.c2; have c3 := hc.c3; have c4 := hc.c4
    simp only [Nat.zero_mul, Nat.zero_add] at c0 c1 c2 c3 c4
    rw [Go.WideShapes.add_plain]
    match j, hj with
    | 0, hj => simp at hj; rw [← hj]; simpa using c0
    | 1, hj => simp at hj; rw [← hj]; simpa using c1
    | 2, hj => simp at hj; rw [← hj]; simpa using c2
    | 3, hj => simp at hj; rw [← hj]; simpa using c3
    | 4, hj => simp at hj; rw [← hj]; simpa using c4
    | j + 5, hj => simp at hj
  · intro v' w' h1 h2 _
    refine h v' w' ⟨by rw [List.length_append, hown.1]; rfl, ?_⟩ h2 ((Below.refl base w).grown h2 hbase (fun k hk => (World.ownsRow.lt hown.2 k hk).1))
    rw [flatP_append]
    have : flatP [r] = r.val.toList := by show r.val.toList ++ [] = _; rw [List.append_nil]
    rw [this]; exact h1
/-- a policer that is being made. -/
structure PolNew (w : World) (p : Nat) (al : Bool) (v : Value) : Prop where
  row : w.heap[p]? = some (.cells #[.bool al, v, .int .i64 0, .int .i64 0, .int .i64 0, .int .i64 0] 113)
theorem PolNew.cells {w : World} {p : Nat} {al : Bool} {v : Value} (h : PolNew w p al v) : w.cell? ⟨p, 1, none⟩ = some v ∧ w.frozen? ⟨p, 1, none⟩ = false :=
  ⟨by rw [cell_of_row w p _ _ _ _ h.row]; rfl, frozen_of_row w p 1 _ _ h.row⟩
theorem PolNew.lt {w : World} {p : Nat} {al : Bool} {v : Value} (h : PolNew w p al v) : p < w.heap.size := (Array.getElem?_eq_some_iff.1 h.row).1
theorem PolNew.below {w w' : World} {p : Nat} {al : Bool} {v : Value} (h : PolNew w p al v) (hb : Below w.heap.size w w') : PolNew w' p al v := ⟨(hb.block p h.lt).trans h.row⟩
theorem PolNew.set {w : World} {p : Nat} {al : Bool} {v u : Value} (h : PolNew w p al v) : PolNew (w.setCell ⟨p, 1, none⟩ u) p al u := ⟨heap_setCell_same w p 1 _ _ u h.row⟩
theorem newB_at (s e : Int) (w : World) (s0 : 1 ≤ s) (s1 : s ≤ 1152921504606846976) (e0 : 0 ≤ e) (e1 : e ≤ 1152921504606846976) : Calls Tryz.prog 43 #[.int .i64 s, .int .i64 e] w fun en w' => en = .returned (.pointer (some ⟨w.heap.size, 0, none⟩)) ∧ BuckAt w' w.heap.size s e 0 false ∧ Below w.heap.size w w' ∧ w.heap.size < w'.heap.size := by
  refine (newB_id s e w s0 s1 e0 e1).mono ?_
  rintro en w' ⟨rfl, rfl⟩
  exact ⟨rfl, heap_alloc_new _ _, (Below.refl _ _).alloc (Nat.le_refl _) _, by simp⟩
theorem OwnP.other {w w' : World} {base n g c : Nat} {l : List Rs} (h : OwnP w base (.slice (some ⟨g, 0, none⟩) n c) n l) (hk : w'.heap[g]? = w.heap[g]?) : OwnP w' base (.slice (some ⟨g, 0, none⟩) n c) n l := by
  refine ⟨h.1, h.2.1, ?_⟩
  rcases h.2.2 with ⟨h1, _⟩ | ⟨g', cap, cur, h1, h2, h3, h4⟩
  · cases h1
  · cases h1
    exact .inr ⟨g, c, cur, rfl, h2, hk.trans h3, h4⟩
/-- behind a rule that was laid. -/
def NewR (w : World) (P b : Nat) (al : Bool) (n : Nat) (l : List Rs) (r : Rs) (i : Nat) (ra cr : Nat) (W : World) : Prop :=
  PolNew W P al (.slice (some ⟨ra, 0, none⟩) n cr) ∧ OwnP W w.heap.size (.slice (some ⟨ra, 0, none⟩) n cr) n l ∧ BuckAt W b r.st r.ea 0 false ∧ (∃ cur fr, W.heap[ra]? = some (.cells cur 123 fr)) ∧ RsAt W ra i r ∧ Below w.heap.size w W
theorem newR {w w4 A1 w6 : World} {P b ra cr n i : Nat} {al : Bool} {l : List Rs} {r : Rs} {cur : Array Value} {fr : Nat × Nat} {v0 : Value} {o : Obj} (bW : Below w.heap.size w w4) (bA : Below w4.heap.size w4 A1) (O6 : OwnP w6 w.heap.size (.slice (some ⟨ra, 0, none⟩) n cr) n l) (hb : Below w.heap.size (A1.alloc o) w6) (K6 : BuckAt w6 b r.st r.ea 0 false) (M6 : PolNew w6 P al v0) (hcur : w6.heap[ra]? = some (.cells cur 123 fr)) (hR : RsAt w6 ra i r) (hP : w.heap.size ≤ P) :
    NewR w P b al n l r i ra cr (w6.setCell ⟨P, 1, none⟩ (.slice (some ⟨ra, 0, none⟩) n cr)) := by
  have n1 : P ≠ ra := fun e => by
    have := M6.row; rw [e, hcur] at this; injection this with this; injection this with _ h2 _; exact absurd h2 (by decide)
  have n2 : b ≠ P := fun e => by
    have := M6.row; rw [← e, show w6.heap[b]? = _ from K6] at this; injection this with this; injection this with _ h2 _; exact absurd h2 (by decide)
  have hk := Below.heap_setCell w6 ⟨P, 1, none⟩ (.slice (some ⟨ra, 0, none⟩) n cr) ra (fun e => n1 e.symm)
  refine ⟨M6.set, O6.other hk, (Below.heap_setCell w6 ⟨P, 1, none⟩ _ b n2).trans K6, ⟨_, _, hk.trans hcur⟩, ⟨cell_beside n1 hR.c0, cell_beside n1 hR.c1, cell_beside n1 hR.c2, cell_beside n1 hR.c3, cell_beside n1 hR.c4⟩, ?_⟩
  have b1 := bW.trans (bA.mono bW.size)
  have b2 := b1.trans (((Below.refl _ _).alloc (Nat.le_refl _) o).mono b1.size)
  exact (b2.trans hb).setCell (p := ⟨P, 1, none⟩) hP _
theorem apart_pr {W : World} {P ra : Nat} {al : Bool} {v : Value} {cur : Array Value} {fr : Nat × Nat} (h : PolNew W P al v) (hcur : W.heap[ra]? = some (.cells cur 123 fr)) : P ≠ ra := fun e => by
  have := h.row; rw [e, hcur] at this; injection this with this; injection this with _ h2 _; exact absurd h2 (by decide)
theorem apart_pb {W : World} {P b : Nat} {al : Bool} {v : Value} {s e n : Int} {a : Bool} (h : PolNew W P al v) (hb : BuckAt W b s e n a) : b ≠ P := fun he => by
  have := h.row; rw [← he, show W.heap[b]? = _ from hb] at this; injection this with this; injection this with _ h2 _; exact absurd h2 (by decide)
theorem apart_br {W : World} {b ra : Nat} {cur : Array Value} {fr : Nat × Nat} {s e n : Int} {a : Bool} (hb : BuckAt W b s e n a) (hcur : W.heap[ra]? = some (.cells cur 123 fr)) : b ≠ ra := fun he => by
  rw [← he, show W.heap[b]? = _ from hb] at hcur; injection hcur with this; injection this with _ h2 _; exact absurd h2 (by decide)
theorem newB {w w1 w2 w3 : World} {o o' : Obj} (h1 : Below (w.alloc o).heap.size (w.alloc o) w1) (h2 : Below w1.heap.size w1 w2) (h3 : Below (w2.alloc o').heap.size (w2.alloc o') w3) : Below w.heap.size w w3 :=
  below_then (below_then (below_box h1) h2) (below_box h3)
/-- a rule's four numbers in a block of its own. -/
def Box4 (q : Nat) (s e : Int) (z t : Bool) (w : World) : Prop := w.cell? ⟨q, 0, none⟩ = some (.int .i64 s) ∧ w.cell? ⟨q, 1, none⟩ = some (.int .i64 e) ∧ w.cell? ⟨q, 2, none⟩ = some (.bool z) ∧ w.cell? ⟨q, 3, none⟩ = some (.bool t)
theorem Box4.below {q : Nat} {s e : Int} {z t : Bool} {w w' : World} (h : Box4 q s e z t w) (hb : Below w.heap.size w w') : Box4 q s e z t w' := ⟨cell_keep hb h.1, cell_keep hb h.2.1, cell_keep hb h.2.2.1, cell_keep hb h.2.2.2⟩
theorem Box4.grown {q : Nat} {s e : Int} {z t : Bool} {w w' : World} {row : Option Nat} (h : Box4 q s e z t w) (hg : w.grownBy w' row) (hn : some q ≠ row) : Box4 q s e z t w' := by
  have hk := hg.block q (World.block_lt_of_cell? _ _ h.1) hn
  exact ⟨(World.cell?_of_block hk).trans h.1, (World.cell?_of_block hk).trans h.2.1, (World.cell?_of_block hk).trans h.2.2.1, (World.cell?_of_block hk).trans h.2.2.2⟩
theorem Box4.set {q p o : Nat} {s e : Int} {z t : Bool} {w : World} {v : Value} (h : Box4 q s e z t w) (hn : p ≠ q) : Box4 q s e z t (w.setCell ⟨p, o, none⟩ v) := ⟨cell_beside hn h.1, cell_beside hn h.2.1, cell_beside hn h.2.2.1, cell_beside hn h.2.2.2⟩
theorem ra_own {w : World} {base ra n c m : Nat} {l : List Rs} (h : OwnP w base (.slice (some ⟨ra, 0, none⟩) n c) m l) (hm : 0 < m) : base ≤ ra := by
  obtain ⟨g, cap, e, hb, _⟩ := h.at hm
  injection e with e1
  injection e1 with e2
  injection e2 with e3
  omega
theorem newP_bad (k p e wh b l : Int) (w : World) (R : Int) (hR : rightZ k p e wh b l = R) (h0 : ¬ R = 0) :
    Calls Tryz.prog 13 #[.agg #[.int .i64 k, .int .i64 p, .int .i64 e, .int .i64 wh, .int .i64 b, .int .i64 l]] w fun en w' => en = .returned (.tuple #[.pointer none, .int .i64 R]) ∧ Below w.heap.size w w' := by
  have h1 : (R != 0) = true := by simp [h0]
  have HR := Lib.hid hR
  clear hR
  go_enter Tryz.func13, Tryz.ntmps13
  go_wp2_with (go_at_call 7; (refine (cright_any k p e wh b l _).mono ?_); rw [HR.out]; rintro en w1 ⟨rfl, hb_w1⟩)
  go_ret2
  exact ⟨rfl, below_box hb_w1⟩
theorem newP_one (k p e wh b l : Int) (al : Bool) (w : World) (h : rightZ k p e wh b l = 0) (hk : ¬ (2 ≤ k ∧ k ≤ 4)) (hal : decide (k = 7 ∧ rightZ k p e wh b l = 0) = al) (p0 : 1 ≤ p) (p1 : p ≤ 1099511627776) (e0 : 0 ≤ e) (e1 : e ≤ 1099511627776) :
    Calls Tryz.prog 13 #[.agg #[.int .i64 k, .int .i64 p, .int .i64 e, .int .i64 wh, .int .i64 b, .int .i64 l]] w fun en w' => ∃ P ra cap b1, en = .returned (.tuple #[.pointer (some ⟨P, 0, none⟩), .int .i64 0]) ∧
      PolOk P ra 1 [⟨p, e, false, false, b1⟩] ∧ PolAt w' P ra 1 cap al [⟨p, e, false, false, b1⟩] (fun _ => (0, false)) 0 0 0 0 ∧ w.heap.size ≤ P ∧ w.heap.size ≤ b1 ∧ w.heap.size ≤ ra ∧ Below w.heap.size w w' := by
  have HR := Lib.hid h
  have HA := Lib.hid hal
  clear h hal
  go_enter Tryz.func13, Tryz.ntmps13
  go_wp2_with (first | (go_at_call 7; (refine (cright_any k p e wh b l _).mono ?_); rw [HR.out]; rintro en w1 ⟨rfl, hb_w1⟩; have k1_0 : w1.cell? ⟨w.heap.size, 0, none⟩ = some (.int .i64 k) := cell_keep hb_w1 (cell_top rfl rfl); have k1_1 : w1.cell? ⟨w.heap.size, 1, none⟩ = some (.int .i64 p) := cell_keep hb_w1 (cell_top rfl rfl); have k1_2 : w1.cell? ⟨w.heap.size, 2, none⟩ = some (.int .i64 e) := cell_keep hb_w1 (cell_top rfl rfl); have k1_3 : w1.cell? ⟨w.heap.size, 3, none⟩ = some (.int .i64 wh) := cell_keep hb_w1 (cell_top rfl rfl); have k1_4 : w1.cell? ⟨w.heap.size, 4, none⟩ = some (.int .i64 b) := cell_keep hb_w1 (cell_top rfl rfl); have k1_5 : w1.cell? ⟨w.heap.size, 5, none⟩ = some (.int .i64 l) := cell_keep hb_w1 (cell_top rfl rfl)) | (go_at_call 41; (refine (always_any k p e wh b l _).mono ?_); rw [HA.out]; rintro en w2 ⟨rfl, hb_w2⟩; have k2_0 := cell_keep hb_w2 k1_0; have k2_1 := cell_keep hb_w2 k1_1; have k2_2 := cell_keep hb_w2 k1_2; have k2_3 := cell_keep hb_w2 k1_3; have k2_4 := cell_keep hb_w2 k1_4; have k2_5 := cell_keep hb_w2 k1_5; have hlt2 : w.heap.size < w2.heap.size := World.block_lt_of_cell? _ _ k2_0) | (go_at_call 42; (refine (rules_one k p e wh b l _ HR.out hk).mono ?_); rintro en w3 ⟨g, cg, rfl, hg1, hg2, hg3, r0, r1, r2, r3, hb_w3⟩; have N3 : PolNew w3 w2.heap.size al (.slice none 0 0) := (PolNew.mk (heap_alloc_new _ _)).below hb_w3))
  refine wp_loop_rounds 2 ?_
  rw [rounds_succ]
  go_wp2_with fail
  obtain ⟨w4, hw4⟩ : ∃ w4 : World, w4 = w3.alloc (.cells #[.int .i64 p, .int .i64 e, .bool false, .bool false] 117) := ⟨_, rfl⟩
  have s4 : w3.heap.size < w4.heap.size := by rw [hw4]; simp
  have hb_w4 : Below w3.heap.size w3 w4 := by rw [hw4]; exact (Below.refl _ _).alloc (Nat.le_refl _) _
  have hs23 : w2.heap.size < w3.heap.size := N3.lt
  have S0 : Box4 w3.heap.size p e false false w4 := by rw [hw4]; exact ⟨cell_top rfl rfl, cell_top rfl rfl, cell_top rfl rfl, cell_top rfl rfl⟩
  have N4 : PolNew w4 w2.heap.size al (.slice none 0 0) := N3.below hb_w4
  rw [← hw4]
  clear hw4
  have hW : Below w.heap.size w w3 := newB hb_w1 hb_w2 hb_w3
  have bW4 : Below w.heap.size w w4.drew := (hW.trans (hb_w4.mono hW.size)).drew
  have hwP : w.heap.size ≤ w2.heap.size := Nat.le_of_lt hlt2
  refine wp_cut_frame3 (NewR w w2.heap.size w4.heap.size al 1 [⟨p, e, false, false, w4.heap.size⟩] ⟨p, e, false, false, w4.heap.size⟩ 0) ?_
  apply Exists.intro
  apply And.intro
  focus
    have S4 : Box4 w3.heap.size p e false false w4.drew := ⟨S0.1, S0.2.1, S0.2.2.1, S0.2.2.2⟩
    have M4 : PolNew w4.drew w2.heap.size al (.slice none 0 0) := ⟨N4.row⟩
    obtain ⟨n0, n1⟩ := M4.cells
    have g0 := fun g : Wits (Box4 w3.heap.size p e false false) => (Wits.is g).1
    have g1 := fun g : Wits (Box4 w3.heap.size p e false false) => (Wits.is g).2.1
    have g2 := fun g : Wits (Box4 w3.heap.size p e false false) => (Wits.is g).2.2.1
    have g3 := fun g : Wits (Box4 w3.heap.size p e false false) => (Wits.is g).2.2.2
    refine wp_region_float (Box4 w3.heap.size p e false false) [10, 11, 12, 13, 14, 15, 16, 17] [0, 1, 2, 3, 5, 6, 7, 8, 9, 10, 11, 12, 13, 14, 15, 16, 17] 4 14 _ _ (by kernel_rfl) (by kernel_rfl) (by kernel_rfl) (by simp only [List.filterMap_cons, List.getElem?_cons_zero, List.getElem?_cons_succ, Option.map_some, List.filterMap_nil]; rfl) rfl rfl rfl rfl S4 ?_
    refine float_quietB_n 9 rfl S4 ?_
    intro _
    (simp only [List.take_succ_cons, List.take_zero, List.drop_succ_cons, List.drop_zero, List.map_cons, List.map_nil])
    (repeat (go_big_quiet_step (fail)))
    (refine wpQuiet_nil ?_)
    clear g0 g1 g2 g3
    have O4 := OwnP.nil w4.drew w.heap.size
    refine float_one rfl rfl rfl ?_ ?_
    focus
      go_wp2; (refine ⟨rfl, S4, ?_⟩)
      (refine lead_one rfl ?_ S4)
      go_wp2_with (go_at_call 43; (with_reducible refine (newB_at p e _ (by omega) (by omega) (by omega) (by omega)).mono ?_); rintro en A1 ⟨rfl, K1, bA1, sA1⟩; have S1 := S4.below bA1; have M1 := M4.below bA1; have O1 := O4.below bA1; have u1 := M1.cells.1; have bA2 := (Below.refl A1.heap.size A1).alloc (Nat.le_refl _) (.cells #[.int .i64 p, .int .i64 e, .bool false, .bool false, .iface 118 (.pointer (some ⟨w4.heap.size, 0, none⟩))] 123); have S2 := S1.below bA2; have M2 := M1.below bA2; have O2 := O1.below bA2; have K2 := K1.below bA2; have u2 := M2.cells.1); (refine ⟨rfl, S1, ?_⟩)
      (refine lead_one rfl ?_ S1)
      go_wp2; (refine ⟨rfl, S1, ?_⟩)
      (refine lead_one rfl ?_ S1)
      go_wp2; (refine ⟨rfl, S1, ?_⟩)
      (refine lead_one rfl ?_ S1)
      go_wp2; (refine ⟨rfl, S2, ?_⟩)
      (refine lead_one rfl ?_ S2)
      go_wp2_with (at_builtin; refine wpList_append_rule rfl _ _ rfl (v := .slice none 0 0) (n := 0) (xs := []) (b := A1.heap.size) (r := ⟨p, e, false, false, w4.heap.size⟩) (base := w.heap.size) rfl O2 rfl ?hc (by omega) ?hbase ?_; (case hc => exact ⟨cell_top rfl rfl, cell_top rfl rfl, cell_top rfl rfl, cell_top rfl rfl, cell_top rfl rfl⟩); (case hbase => (have h8 := bA1.size; simp at h8; simp; omega)); intro v6 w6 O6 G6 hb_w6; obtain ⟨ra, cr, rfl, hra1, hra2, ⟨cur, fr, hcur⟩, hRs⟩ := O6.at (by omega); have h8 := bA1.size; (simp at h8); have S6 := S2.grown G6 (by simp [Value.ownBlock]); have K6 : BuckAt w6 w4.heap.size p e 0 false := (G6.block _ K2.lt (by simp [Value.ownBlock])).trans K2; have M6 : PolNew w6 w2.heap.size al (.slice none 0 0) := PolNew.mk ((G6.block _ M2.lt (by simp [Value.ownBlock])).trans M2.row); have m0 := M6.cells.1; have m1 := M6.cells.2)
      refine ⟨rfl, S6, ?_⟩
      (refine lead_one rfl ?_ S6)
      go_wp2; (refine ⟨rfl, S6, ?_⟩)
      (refine lead_one rfl ?_ S6)
      go_wp2; (refine ⟨rfl, S6, ?_⟩)
      (refine lead_one rfl ?_ S6)
      go_wp2
      refine ⟨rfl, S6.set (by omega), ?_⟩
      refine lead_nil ?_
      obtain ⟨a1, ha1⟩ : ∃ a, a = A1.heap.size := ⟨_, rfl⟩
      rw [← ha1]
      exact ⟨ra, cr, a1, rfl, rfl, newR bW4 bA1 O6 hb_w6 K6 M6 hcur (hRs 0 _ rfl) hwP⟩
    go_wp2_with (go_at_call 43; (with_reducible refine (newB_at p e _ (by omega) (by omega) (by omega) (by omega)).mono ?_); rintro en A1 ⟨rfl, K1, bA1, sA1⟩; have S1 := S4.below bA1; have M1 := M4.below bA1; have O1 := O4.below bA1; have u1 := M1.cells.1; have bA2 := (Below.refl A1.heap.size A1).alloc (Nat.le_refl _) (.cells #[.int .i64 p, .int .i64 e, .bool false, .bool false, .iface 118 (.pointer (some ⟨w4.heap.size, 0, none⟩))] 123); have S2 := S1.below bA2; have M2 := M1.below bA2; have O2 := O1.below bA2; have K2 := K1.below bA2; have u2 := M2.cells.1); (refine ⟨rfl, S1, ?_⟩)
    refine float_one rfl rfl rfl ?_ ?_
    focus
      go_wp2; (refine ⟨rfl, S1, ?_⟩)
      (refine lead_one rfl ?_ S1)
      go_wp2; (refine ⟨rfl, S1, ?_⟩)
      (refine lead_one rfl ?_ S1)
      go_wp2; (refine ⟨rfl, S1, ?_⟩)
      (refine lead_one rfl ?_ S1)
      go_wp2; (refine ⟨rfl, S2, ?_⟩)
      (refine lead_one rfl ?_ S2)
      go_wp2_with (at_builtin; refine wpList_append_rule rfl _ _ rfl (v := .slice none 0 0) (n := 0) (xs := []) (b := A1.heap.size) (r := ⟨p, e, false, false, w4.heap.size⟩) (base := w.heap.size) rfl O2 rfl ?hc (by omega) ?hbase ?_; (case hc => exact ⟨cell_top rfl rfl, cell_top rfl rfl, cell_top rfl rfl, cell_top rfl rfl, cell_top rfl rfl⟩); (case hbase => (have h8 := bA1.size; simp at h8; simp; omega)); intro v6 w6 O6 G6 hb_w6; obtain ⟨ra, cr, rfl, hra1, hra2, ⟨cur, fr, hcur⟩, hRs⟩ := O6.at (by omega); have h8 := bA1.size; (simp at h8); have S6 := S2.grown G6 (by simp [Value.ownBlock]); have K6 : BuckAt w6 w4.heap.size p e 0 false := (G6.block _ K2.lt (by simp [Value.ownBlock])).trans K2; have M6 : PolNew w6 w2.heap.size al (.slice none 0 0) := PolNew.mk ((G6.block _ M2.lt (by simp [Value.ownBlock])).trans M2.row); have m0 := M6.cells.1; have m1 := M6.cells.2)
      refine ⟨rfl, S6, ?_⟩
      (refine lead_one rfl ?_ S6)
      go_wp2; (refine ⟨rfl, S6, ?_⟩)
      (refine lead_one rfl ?_ S6)
      go_wp2; (refine ⟨rfl, S6, ?_⟩)
      (refine lead_one rfl ?_ S6)
      go_wp2
      refine ⟨rfl, S6.set (by omega), ?_⟩
      refine lead_nil ?_
      obtain ⟨a1, ha1⟩ : ∃ a, a = A1.heap.size := ⟨_, rfl⟩
      rw [← ha1]
      exact ⟨ra, cr, a1, rfl, rfl, newR bW4 bA1 O6 hb_w6 K6 M6 hcur (hRs 0 _ rfl) hwP⟩
    go_wp2; (refine ⟨rfl, S1, ?_⟩)
    refine float_one rfl rfl rfl ?_ ?_
    focus
      go_wp2; (refine ⟨rfl, S1, ?_⟩)
      (refine lead_one rfl ?_ S1)
      go_wp2; (refine ⟨rfl, S1, ?_⟩)
      (refine lead_one rfl ?_ S1)
      go_wp2; (refine ⟨rfl, S2, ?_⟩)
      (refine lead_one rfl ?_ S2)
      go_wp2_with (at_builtin; refine wpList_append_rule rfl _ _ rfl (v := .slice none 0 0) (n := 0) (xs := []) (b := A1.heap.size) (r := ⟨p, e, false, false, w4.heap.size⟩) (base := w.heap.size) rfl O2 rfl ?hc (by omega) ?hbase ?_; (case hc => exact ⟨cell_top rfl rfl, cell_top rfl rfl, cell_top rfl rfl, cell_top rfl rfl, cell_top rfl rfl⟩); (case hbase => (have h8 := bA1.size; simp at h8; simp; omega)); intro v6 w6 O6 G6 hb_w6; obtain ⟨ra, cr, rfl, hra1, hra2, ⟨cur, fr, hcur⟩, hRs⟩ := O6.at (by omega); have h8 := bA1.size; (simp at h8); have S6 := S2.grown G6 (by simp [Value.ownBlock]); have K6 : BuckAt w6 w4.heap.size p e 0 false := (G6.block _ K2.lt (by simp [Value.ownBlock])).trans K2; have M6 : PolNew w6 w2.heap.size al (.slice none 0 0) := PolNew.mk ((G6.block _ M2.lt (by simp [Value.ownBlock])).trans M2.row); have m0 := M6.cells.1; have m1 := M6.cells.2)
      refine ⟨rfl, S6, ?_⟩
      (refine lead_one rfl ?_ S6)
      go_wp2; (refine ⟨rfl, S6, ?_⟩)
      (refine lead_one rfl ?_ S6)
      go_wp2; (refine ⟨rfl, S6, ?_⟩)
      (refine lead_one rfl ?_ S6)
      go_wp2
      refine ⟨rfl, S6.set (by omega), ?_⟩
      refine lead_nil ?_
      obtain ⟨a1, ha1⟩ : ∃ a, a = A1.heap.size := ⟨_, rfl⟩
      rw [← ha1]
      exact ⟨ra, cr, a1, rfl, rfl, newR bW4 bA1 O6 hb_w6 K6 M6 hcur (hRs 0 _ rfl) hwP⟩
    go_wp2; (refine ⟨rfl, S1, ?_⟩)
    refine float_one rfl rfl rfl ?_ ?_
    focus
      go_wp2; (refine ⟨rfl, S1, ?_⟩)
      (refine lead_one rfl ?_ S1)
      go_wp2; (refine ⟨rfl, S2, ?_⟩)
      (refine lead_one rfl ?_ S2)
      go_wp2_with (at_builtin; refine wpList_append_rule rfl _ _ rfl (v := .slice none 0 0) (n := 0) (xs := []) (b := A1.heap.size) (r := ⟨p, e, false, false, w4.heap.size⟩) (base := w.heap.size) rfl O2 rfl ?hc (by omega) ?hbase ?_; (case hc => exact ⟨cell_top rfl rfl, cell_top rfl rfl, cell_top rfl rfl, cell_top rfl rfl, cell_top rfl rfl⟩); (case hbase => (have h8 := bA1.size; simp at h8; simp; omega)); intro v6 w6 O6 G6 hb_w6; obtain ⟨ra, cr, rfl, hra1, hra2, ⟨cur, fr, hcur⟩, hRs⟩ := O6.at (by omega); have h8 := bA1.size; (simp at h8); have S6 := S2.grown G6 (by simp [Value.ownBlock]); have K6 : BuckAt w6 w4.heap.size p e 0 false := (G6.block _ K2.lt (by simp [Value.ownBlock])).trans K2; have M6 : PolNew w6 w2.heap.size al (.slice none 0 0) := PolNew.mk ((G6.block _ M2.lt (by simp [Value.ownBlock])).trans M2.row); have m0 := M6.cells.1; have m1 := M6.cells.2)
      refine ⟨rfl, S6, ?_⟩
      (refine lead_one rfl ?_ S6)
      go_wp2; (refine ⟨rfl, S6, ?_⟩)
      (refine lead_one rfl ?_ S6)
      go_wp2; (refine ⟨rfl, S6, ?_⟩)
      (refine lead_one rfl ?_ S6)
      go_wp2
      refine ⟨rfl, S6.set (by omega), ?_⟩
      refine lead_nil ?_
      obtain ⟨a1, ha1⟩ : ∃ a, a = A1.heap.size := ⟨_, rfl⟩
      rw [← ha1]
      exact ⟨ra, cr, a1, rfl, rfl, newR bW4 bA1 O6 hb_w6 K6 M6 hcur (hRs 0 _ rfl) hwP⟩
    go_wp2; (refine ⟨rfl, S2, ?_⟩)
    refine float_stop rfl rfl ?_
    focus
      go_wp2; (refine ⟨rfl, S2, ?_⟩)
      (refine lead_one rfl ?_ S2)
      go_wp2_with (at_builtin; refine wpList_append_rule rfl _ _ rfl (v := .slice none 0 0) (n := 0) (xs := []) (b := A1.heap.size) (r := ⟨p, e, false, false, w4.heap.size⟩) (base := w.heap.size) rfl O2 rfl ?hc (by omega) ?hbase ?_; (case hc => exact ⟨cell_top rfl rfl, cell_top rfl rfl, cell_top rfl rfl, cell_top rfl rfl, cell_top rfl rfl⟩); (case hbase => (have h8 := bA1.size; simp at h8; simp; omega)); intro v6 w6 O6 G6 hb_w6; obtain ⟨ra, cr, rfl, hra1, hra2, ⟨cur, fr, hcur⟩, hRs⟩ := O6.at (by omega); have h8 := bA1.size; (simp at h8); have S6 := S2.grown G6 (by simp [Value.ownBlock]); have K6 : BuckAt w6 w4.heap.size p e 0 false := (G6.block _ K2.lt (by simp [Value.ownBlock])).trans K2; have M6 : PolNew w6 w2.heap.size al (.slice none 0 0) := PolNew.mk ((G6.block _ M2.lt (by simp [Value.ownBlock])).trans M2.row); have m0 := M6.cells.1; have m1 := M6.cells.2)
      refine ⟨rfl, S6, ?_⟩
      (refine lead_one rfl ?_ S6)
      go_wp2; (refine ⟨rfl, S6, ?_⟩)
      (refine lead_one rfl ?_ S6)
      go_wp2; (refine ⟨rfl, S6, ?_⟩)
      (refine lead_one rfl ?_ S6)
      go_wp2
      refine ⟨rfl, S6.set (by omega), ?_⟩
      refine lead_nil ?_
      obtain ⟨a1, ha1⟩ : ∃ a, a = A1.heap.size := ⟨_, rfl⟩
      rw [← ha1]
      exact ⟨ra, cr, a1, rfl, rfl, newR bW4 bA1 O6 hb_w6 K6 M6 hcur (hRs 0 _ rfl) hwP⟩
  rintro ra cr a1 W ⟨HN, HO, HK, ⟨cur, fr, hcur⟩, HRs, HB⟩
  go_wp2_with fail
  rw [rounds_succ]
  go_wp2_with fail
  go_ret2
  refine ⟨_, ra, cr, w4.heap.size, rfl, ⟨rfl, by omega, apart_pr HN hcur, ?_, ?_, by simp, ?_⟩, ⟨HN.row, ?_, (Array.getElem?_eq_some_iff.1 hcur).1, ?_⟩, hwP, by have := hW.size; omega, ra_own HO (by omega), HB⟩
  · intro r hr; simp at hr; subst hr; exact ⟨apart_pb HN HK, apart_br HK hcur⟩
  · intro r hr r' hr' _; simp at hr hr'; rw [hr, hr']
  · intro r hr; simp at hr; subst hr; exact ⟨p0, p1, e0, by show e ≤ _; omega⟩
  · intro i r hr
    match i, hr with
    | 0, hr => simp at hr; subst hr; exact HRs
    | i + 1, hr => simp at hr
  · intro r hr; simp at hr; subst hr; exact HK
end Go.Proofs.YtaoagbnhomjkpaaGreat
