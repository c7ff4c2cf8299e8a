/- The walks of 'Rules' of the layer 'contract', and of its reference: what a contract is policed by. -/
import Derived.Test.YtndmmhljphlhjaaContrW
import Derived.Test.YtndmmhljphlhjaaKit2
namespace Go.Proofs.Ytndmmhljphlhjaa
set_option linter.unusedVariables false
set_option linter.unusedSimpArgs false
open Go.RowKit
set_option maxRecDepth 100000
set_option maxHeartbeats 4000000
def ruleV (s e : Int) (z t : Bool) : List Value := [.int .i64 s, .int .i64 e, .bool z, .bool t]
/-- the cells of a contract's rules. -/
def rulesV (k p e wh b : Int) : List Value := ruleV p e false false ++ if 2 ≤ k ∧ k ≤ 4 then ruleV wh (b + e) (decide (3 ≤ k)) (decide (k = 4)) else []
def rulesN (k : Int) : Nat := if 2 ≤ k ∧ k ≤ 4 then 2 else 1
/-- what comes back: rules of the call's own. -/
def RulesPost (P : Program) (E : TypeId) (w : World) (k p e wh b : Int) (en : Ending) (w' : World) : Prop :=
  ∃ v, en = .returned v ∧ w'.ownsRow w.heap.size E 4 v (rulesN k) (rulesV k p e wh b) ∧ Below w.heap.size w w'
theorem ruleInfo : (Try.prog.info? 31).map (fun i => (i.zero, i.size, i.bytes)) = some (some (.agg #[.int .i64 0, .int .i64 0, .bool false, .bool false]), 4, 24) := by kernel_rfl
theorem rules_bad (k p e wh b l : Int) (w : World) (h : ¬ rightZ k p e wh b l = 0) :
    Calls Try.prog 18 #[.agg #[.int .i64 k, .int .i64 p, .int .i64 e, .int .i64 wh, .int .i64 b, .int .i64 l]] w fun en w' => en = .returned (.slice none 0 0) ∧ Below w.heap.size w w' := by
  have h' : (rightZ k p e wh b l == 0) = false := by simp; exact h
  go_enter Try.func18, Try.ntmps18
  go_wp2_with (first | (go_at_call 16; refine (cright_any _ _ _ _ _ _ _).mono ?_; rintro e w' ⟨rfl, hb⟩; obtain ⟨hc, hf⟩ := bcell hb; have hz := hb.size; (try simp at hz); (try have hz1 : w.heap.size < w'.heap.size := by omega); (try have hz2 : w.heap.size + 1 < w'.heap.size := by omega); (try have hz3 : w.heap.size < w'.heap.size + 1 := by omega); (try have hz4 : w.heap.size < w'.heap.size + 1 + 1 := by omega); (try have hz5 : ¬ w.heap.size = w'.heap.size := by omega); (try have hz6 : w.heap.size + 1 + 1 < w'.heap.size := by omega)))
  go_ret
  exact ⟨rfl, by (repeat' (first | exact Below.refl _ _ | assumption | (refine Below.grown ?_ (by assumption) (by first | omega | (simp; omega)) (by simp [Value.ownBlock]; try omega)) | (refine below_drewN ?_ _) | (refine Below.drew ?_) | (refine Below.alloc ?_ (by first | omega | (simp; done) | (simp; omega)) _) | (refine Below.setCell ?_ (by first | omega | (simp; done) | (simp; omega)) _) | (refine below_then ?_ (Aft.below _)) | (apply below_then; rotate_left; assumption)))⟩
theorem rules_any (k p e wh b l : Int) (w : World) (h : rightZ k p e wh b l = 0) :
    Calls Try.prog 18 #[.agg #[.int .i64 k, .int .i64 p, .int .i64 e, .int .i64 wh, .int .i64 b, .int .i64 l]] w (RulesPost Try.prog 31 w k p e wh b) := by
  have hf := rightZ_zero.1 h
  have hk : 1 ≤ k ∧ k ≤ 7 := by unfold FineP at hf; omega
  have hb1 : 0 ≤ b + e ∧ b + e ≤ 3000000000000 := by unfold FineP at hf; omega
  clear hf
  obtain rfl | rfl | rfl | rfl | rfl | rfl | rfl : k = 1 ∨ k = 2 ∨ k = 3 ∨ k = 4 ∨ k = 5 ∨ k = 6 ∨ k = 7 := by omega
  · clear hk
    go_enter Try.func18, Try.ntmps18
    go_wp2_with (first | (go_at_call 16; refine (cright_any _ _ _ _ _ _ _).mono ?_; rintro e w' ⟨rfl, hb⟩; obtain ⟨hc, hf⟩ := bcell hb; have hz := hb.size; (try simp at hz); (try have hz1 : w.heap.size < w'.heap.size := by omega); (try have hz2 : w.heap.size + 1 < w'.heap.size := by omega); (try have hz3 : w.heap.size < w'.heap.size + 1 := by omega); (try have hz4 : w.heap.size < w'.heap.size + 1 + 1 := by omega); (try have hz5 : ¬ w.heap.size = w'.heap.size := by omega); (try have hz6 : w.heap.size + 1 + 1 < w'.heap.size := by omega)))
    go_ret
    exact ⟨_, rfl, (own_made (n := 1) #[.int .i64 p, .int .i64 e, .bool false, .bool false] (by omega) (by unfold maxLen; omega) rfl).alloc _, by (repeat' (first | exact Below.refl _ _ | assumption | (refine Below.grown ?_ (by assumption) (by first | omega | (simp; omega)) (by simp [Value.ownBlock]; try omega)) | (refine below_drewN ?_ _) | (refine Below.drew ?_) | (refine Below.alloc ?_ (by first | omega | (simp; done) | (simp; omega)) _) | (refine Below.setCell ?_ (by first | omega | (simp; done) | (simp; omega)) _) | (refine below_then ?_ (Aft.below _)) | (apply below_then; rotate_left; assumption)))⟩
  · clear hk
    obtain ⟨i0, hi, hi0, hi1, hi2⟩ := info_parts ruleInfo
    go_enter Try.func18, Try.ntmps18
    go_wp2_with (first | (go_at_call 16; refine (cright_any _ _ _ _ _ _ _).mono ?_; rintro e w' ⟨rfl, hb⟩; obtain ⟨hc, hf⟩ := bcell hb; have hz := hb.size; (try simp at hz); (try have hz1 : w.heap.size < w'.heap.size := by omega); (try have hz2 : w.heap.size + 1 < w'.heap.size := by omega); (try have hz3 : w.heap.size < w'.heap.size + 1 := by omega); (try have hz4 : w.heap.size < w'.heap.size + 1 + 1 := by omega); (try have hz5 : ¬ w.heap.size = w'.heap.size := by omega); (try have hz6 : w.heap.size + 1 + 1 < w'.heap.size := by omega)) | (at_builtin; refine wpList_append_own _ rfl _ _ 32 rfl w.heap.size 31 i0 _ 4 24 Try.underlying32 hi hi0 hi1 hi2 rfl (by decide) (.slice (some ⟨w'.heap.size, 0, none⟩) 1 1) 1 (ruleV p e false false) rfl (((own_made (n := 1) #[.int .i64 p, .int .i64 e, .bool false, .bool false] (by omega) (by unfold maxLen; omega) rfl).alloc _).alloc _) ⟨w'.heap.size + 1 + 1, 0, none⟩ 1 1 (ruleV wh (b + e) false false) rfl rfl (cells_made_at #[.int .i64 wh, .int .i64 (b + e), .bool false, .bool false] (by unfold maxLen; simp) (by simp)) (by simp [ruleV, Value.oneCell']) (by unfold maxLen; omega) (by omega) (by simp; omega) ?_; intro v2 w2 hown2 hg2 _))
    go_ret
    exact ⟨_, rfl, hown2, by (repeat' (first | exact Below.refl _ _ | assumption | (refine Below.grown ?_ (by assumption) (by first | omega | (simp; omega)) (by simp [Value.ownBlock]; try omega)) | (refine below_drewN ?_ _) | (refine Below.drew ?_) | (refine Below.alloc ?_ (by first | omega | (simp; done) | (simp; omega)) _) | (refine Below.setCell ?_ (by first | omega | (simp; done) | (simp; omega)) _) | (refine below_then ?_ (Aft.below _)) | (apply below_then; rotate_left; assumption)))⟩
  · clear hk
    obtain ⟨i0, hi, hi0, hi1, hi2⟩ := info_parts ruleInfo
    go_enter Try.func18, Try.ntmps18
    go_wp2_with (first | (go_at_call 16; refine (cright_any _ _ _ _ _ _ _).mono ?_; rintro e w' ⟨rfl, hb⟩; obtain ⟨hc, hf⟩ := bcell hb; have hz := hb.size; (try simp at hz); (try have hz1 : w.heap.size < w'.heap.size := by omega); (try have hz2 : w.heap.size + 1 < w'.heap.size := by omega); (try have hz3 : w.heap.size < w'.heap.size + 1 := by omega); (try have hz4 : w.heap.size < w'.heap.size + 1 + 1 := by omega); (try have hz5 : ¬ w.heap.size = w'.heap.size := by omega); (try have hz6 : w.heap.size + 1 + 1 < w'.heap.size := by omega)) | (at_builtin; refine wpList_append_own _ rfl _ _ 32 rfl w.heap.size 31 i0 _ 4 24 Try.underlying32 hi hi0 hi1 hi2 rfl (by decide) (.slice (some ⟨w'.heap.size, 0, none⟩) 1 1) 1 (ruleV p e false false) rfl (((own_made (n := 1) #[.int .i64 p, .int .i64 e, .bool false, .bool false] (by omega) (by unfold maxLen; omega) rfl).alloc _).alloc _) ⟨w'.heap.size + 1 + 1, 0, none⟩ 1 1 (ruleV wh (b + e) true false) rfl rfl (cells_made_at #[.int .i64 wh, .int .i64 (b + e), .bool true, .bool false] (by unfold maxLen; simp) (by simp)) (by simp [ruleV, Value.oneCell']) (by unfold maxLen; omega) (by omega) (by simp; omega) ?_; intro v2 w2 hown2 hg2 _))
    go_ret
    exact ⟨_, rfl, hown2, by (repeat' (first | exact Below.refl _ _ | assumption | (refine Below.grown ?_ (by assumption) (by first | omega | (simp; omega)) (by simp [Value.ownBlock]; try omega)) | (refine below_drewN ?_ _) | (refine Below.drew ?_) | (refine Below.alloc ?_ (by first | omega | (simp; done) | (simp; omega)) _) | (refine Below.setCell ?_ (by first | omega | (simp; done) | (simp; omega)) _) | (refine below_then ?_ (Aft.below _)) | (apply below_then; rotate_left; assumption)))⟩
  · clear hk
    obtain ⟨i0, hi, hi0, hi1, hi2⟩ := info_parts ruleInfo
    go_enter Try.func18, Try.ntmps18
    go_wp2_with (first | (go_at_call 16; refine (cright_any _ _ _ _ _ _ _).mono ?_; rintro e w' ⟨rfl, hb⟩; obtain ⟨hc, hf⟩ := bcell hb; have hz := hb.size; (try simp at hz); (try have hz1 : w.heap.size < w'.heap.size := by omega); (try have hz2 : w.heap.size + 1 < w'.heap.size := by omega); (try have hz3 : w.heap.size < w'.heap.size + 1 := by omega); (try have hz4 : w.heap.size < w'.heap.size + 1 + 1 := by omega); (try have hz5 : ¬ w.heap.size = w'.heap.size := by omega); (try have hz6 : w.heap.size + 1 + 1 < w'.heap.size := by omega)) | (at_builtin; refine wpList_append_own _ rfl _ _ 32 rfl w.heap.size 31 i0 _ 4 24 Try.underlying32 hi hi0 hi1 hi2 rfl (by decide) (.slice (some ⟨w'.heap.size, 0, none⟩) 1 1) 1 (ruleV p e false false) rfl (((own_made (n := 1) #[.int .i64 p, .int .i64 e, .bool false, .bool false] (by omega) (by unfold maxLen; omega) rfl).alloc _).alloc _) ⟨w'.heap.size + 1 + 1, 0, none⟩ 1 1 (ruleV wh (b + e) true true) rfl rfl (cells_made_at #[.int .i64 wh, .int .i64 (b + e), .bool true, .bool true] (by unfold maxLen; simp) (by simp)) (by simp [ruleV, Value.oneCell']) (by unfold maxLen; omega) (by omega) (by simp; omega) ?_; intro v2 w2 hown2 hg2 _))
    go_ret
    exact ⟨_, rfl, hown2, by (repeat' (first | exact Below.refl _ _ | assumption | (refine Below.grown ?_ (by assumption) (by first | omega | (simp; omega)) (by simp [Value.ownBlock]; try omega)) | (refine below_drewN ?_ _) | (refine Below.drew ?_) | (refine Below.alloc ?_ (by first | omega | (simp; done) | (simp; omega)) _) | (refine Below.setCell ?_ (by first | omega | (simp; done) | (simp; omega)) _) | (refine below_then ?_ (Aft.below _)) | (apply below_then; rotate_left; assumption)))⟩
  · clear hk
    go_enter Try.func18, Try.ntmps18
    go_wp2_with (first | (go_at_call 16; refine (cright_any _ _ _ _ _ _ _).mono ?_; rintro e w' ⟨rfl, hb⟩; obtain ⟨hc, hf⟩ := bcell hb; have hz := hb.size; (try simp at hz); (try have hz1 : w.heap.size < w'.heap.size := by omega); (try have hz2 : w.heap.size + 1 < w'.heap.size := by omega); (try have hz3 : w.heap.size < w'.heap.size + 1 := by omega); (try have hz4 : w.heap.size < w'.heap.size + 1 + 1 := by omega); (try have hz5 : ¬ w.heap.size = w'.heap.size := by omega); (try have hz6 : w.heap.size + 1 + 1 < w'.heap.size := by omega)))
    go_ret
    exact ⟨_, rfl, (own_made (n := 1) #[.int .i64 p, .int .i64 e, .bool false, .bool false] (by omega) (by unfold maxLen; omega) rfl).alloc _, by (repeat' (first | exact Below.refl _ _ | assumption | (refine Below.grown ?_ (by assumption) (by first | omega | (simp; omega)) (by simp [Value.ownBlock]; try omega)) | (refine below_drewN ?_ _) | (refine Below.drew ?_) | (refine Below.alloc ?_ (by first | omega | (simp; done) | (simp; omega)) _) | (refine Below.setCell ?_ (by first | omega | (simp; done) | (simp; omega)) _) | (refine below_then ?_ (Aft.below _)) | (apply below_then; rotate_left; assumption)))⟩
  · clear hk
    go_enter Try.func18, Try.ntmps18
    go_wp2_with (first | (go_at_call 16; refine (cright_any _ _ _ _ _ _ _).mono ?_; rintro e w' ⟨rfl, hb⟩; obtain ⟨hc, hf⟩ := bcell hb; have hz := hb.size; (try simp at hz); (try have hz1 : w.heap.size < w'.heap.size := by omega); (try have hz2 : w.heap.size + 1 < w'.heap.size := by omega); (try have hz3 : w.heap.size < w'.heap.size + 1 := by omega); (try have hz4 : w.heap.size < w'.heap.size + 1 + 1 := by omega); (try have hz5 : ¬ w.heap.size = w'.heap.size := by omega); (try have hz6 : w.heap.size + 1 + 1 < w'.heap.size := by omega)))
    go_ret
    exact ⟨_, rfl, (own_made (n := 1) #[.int .i64 p, .int .i64 e, .bool false, .bool false] (by omega) (by unfold maxLen; omega) rfl).alloc _, by (repeat' (first | exact Below.refl _ _ | assumption | (refine Below.grown ?_ (by assumption) (by first | omega | (simp; omega)) (by simp [Value.ownBlock]; try omega)) | (refine below_drewN ?_ _) | (refine Below.drew ?_) | (refine Below.alloc ?_ (by first | omega | (simp; done) | (simp; omega)) _) | (refine Below.setCell ?_ (by first | omega | (simp; done) | (simp; omega)) _) | (refine below_then ?_ (Aft.below _)) | (apply below_then; rotate_left; assumption)))⟩
  · clear hk
    go_enter Try.func18, Try.ntmps18
    go_wp2_with (first | (go_at_call 16; refine (cright_any _ _ _ _ _ _ _).mono ?_; rintro e w' ⟨rfl, hb⟩; obtain ⟨hc, hf⟩ := bcell hb; have hz := hb.size; (try simp at hz); (try have hz1 : w.heap.size < w'.heap.size := by omega); (try have hz2 : w.heap.size + 1 < w'.heap.size := by omega); (try have hz3 : w.heap.size < w'.heap.size + 1 := by omega); (try have hz4 : w.heap.size < w'.heap.size + 1 + 1 := by omega); (try have hz5 : ¬ w.heap.size = w'.heap.size := by omega); (try have hz6 : w.heap.size + 1 + 1 < w'.heap.size := by omega)))
    go_ret
    exact ⟨_, rfl, (own_made (n := 1) #[.int .i64 p, .int .i64 e, .bool false, .bool false] (by omega) (by unfold maxLen; omega) rfl).alloc _, by (repeat' (first | exact Below.refl _ _ | assumption | (refine Below.grown ?_ (by assumption) (by first | omega | (simp; omega)) (by simp [Value.ownBlock]; try omega)) | (refine below_drewN ?_ _) | (refine Below.drew ?_) | (refine Below.alloc ?_ (by first | omega | (simp; done) | (simp; omega)) _) | (refine Below.setCell ?_ (by first | omega | (simp; done) | (simp; omega)) _) | (refine below_then ?_ (Aft.below _)) | (apply below_then; rotate_left; assumption)))⟩
end Go.Proofs.Ytndmmhljphlhjaa
