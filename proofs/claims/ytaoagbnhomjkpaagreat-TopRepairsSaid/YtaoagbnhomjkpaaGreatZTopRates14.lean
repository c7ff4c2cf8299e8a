import Derived.Test.YtaoagbnhomjkpaaGreatZTopRates00
import Derived.Test.YtaoagbnhomjkpaaGreatZTopRates10
import Derived.Test.YtaoagbnhomjkpaaGreatZTopRates11
import Derived.Test.YtaoagbnhomjkpaaGreatZTopRates13
/- The walks of the layer 'cost' and of its reference. -/
namespace Go.Proofs.YtaoagbnhomjkpaaGreat
set_option linter.unusedVariables false
set_option linter.unusedSimpArgs false
open Go.RowKit
set_option maxRecDepth 100000
set_option maxHeartbeats 4000000
theorem per_any (s : Int) (w : World) : Calls Tryz.prog 22 #[.int .i64 s] w fun e w' => e = .returned (.int .i64 (perZ s)) ∧ w = w' := by
  have hb := perZ_b s
  go_enter Tryz.func22, Tryz.ntmps22
  by_cases h : s < 1
  · go_wp2
    go_ret
    exact ⟨ret_int (by simp [perZ, h]), rfl⟩
  · have h1 := Int.ediv_le_self (a := 1048575) s (by omega)
    have h2 : 0 ≤ 1048575 / s := Int.ediv_nonneg (by omega) (by omega)
    go_wp2
    go_ret
    exact ⟨ret_int (by unfold perZ; rw [if_neg (by omega)]), rfl⟩
theorem up_any (n d : Int) (w : World) (h0 : 0 ≤ n) (h1 : 1 ≤ d) (h2 : n + d ≤ 9223372036854775807) : Calls Tryz.prog 48 #[.int .i64 n, .int .i64 d] w fun e w' => e = .returned (.int .i64 (upZ n d)) ∧ w = w' := by
  have h3 := Int.ediv_le_self (a := n + d - 1) d (by omega)
  have h4 : 0 ≤ (n + d - 1) / d := Int.ediv_nonneg (by omega) (by omega)
  go_enter Tryz.func48, Tryz.ntmps48
  go_wp2
  go_ret
  exact ⟨ret_int (by unfold upZ; rfl), rfl⟩
theorem need_any (k p e wh b l : Int) (w : World) :
    Calls Tryz.prog 20 #[.agg #[.int .i64 k, .int .i64 p, .int .i64 e, .int .i64 wh, .int .i64 b, .int .i64 l]] w fun en w' => en = .returned (.int .i64 (needZ k p e wh b l)) ∧ Below w.heap.size w w' := by
  by_cases hr : rightZ k p e wh b l = 0
  · have hf := rightZ_zero.1 hr
    have hk : ¬ (k < 1 ∨ 7 < k) := by unfold FineP at hf; omega
    by_cases hv : 2 ≤ k ∧ k ≤ 4
    · have hn : needZ k p e wh b l = upZ (perZ wh * 4096 + perZ p * b) (b + 4096) := by
        unfold needZ
        rw [if_neg (by omega), if_neg (by omega), if_neg (by omega), if_pos hv]
      have b1 := perZ_b wh
      have b2 := perZ_b p
      have b3 : 0 ≤ b ∧ b ≤ 1099511627776 := by unfold FineP at hf; omega
      have b4 : 0 ≤ perZ p * b := Int.mul_nonneg b2.1 b3.1
      have b5 : perZ p * b ≤ 1048576 * 1099511627776 := Int.mul_le_mul b2.2 b3.2 b3.1 (by omega)
      rw [hn]
      clear hn hf
      obtain rfl | rfl | rfl : k = 2 ∨ k = 3 ∨ k = 4 := by omega
      all_goals
        go_enter Tryz.func20, Tryz.ntmps20
        go_wp2_with (first | (go_at_call 7; refine (cright_any _ _ _ _ _ _ _).mono ?_; rintro e w' ⟨rfl, hb⟩; obtain ⟨hc, hf⟩ := bcell hb; have hz := hb.size; (try simp at hz); (try have hz1 : w.heap.size < w'.heap.size := by omega); (try have hz2 : w.heap.size + 1 < w'.heap.size := by omega); (try have hz3 : w.heap.size < w'.heap.size + 1 := by omega); (try have hz4 : w.heap.size < w'.heap.size + 1 + 1 := by omega); (try have hz5 : ¬ w.heap.size = w'.heap.size := by omega); (try have hz6 : w.heap.size + 1 + 1 < w'.heap.size := by omega)))
        go_quiet ((first
          | (go_at_call 22; exact quiet_same (per_any _ _))
          | (go_at_call 48; exact quiet_same (up_any _ _ _ (by omega) (by omega) (by omega)))))
        go_wp2
        go_ret
        exact ⟨rfl, below_drewN (below_box hb) _⟩
    · by_cases h1 : k = 1
      · have hn : needZ k p e wh b l = perZ p := by
          unfold needZ
          rw [if_neg (by omega), if_pos h1]
        rw [hn]
        clear hn hk hv
        subst h1
        go_enter Tryz.func20, Tryz.ntmps20
        go_wp2_with (first | (go_at_call 7; refine (cright_any _ _ _ _ _ _ _).mono ?_; rintro e w' ⟨rfl, hb⟩; obtain ⟨hc, hf⟩ := bcell hb; have hz := hb.size; (try simp at hz); (try have hz1 : w.heap.size < w'.heap.size := by omega); (try have hz2 : w.heap.size + 1 < w'.heap.size := by omega); (try have hz3 : w.heap.size < w'.heap.size + 1 := by omega); (try have hz4 : w.heap.size < w'.heap.size + 1 + 1 := by omega); (try have hz5 : ¬ w.heap.size = w'.heap.size := by omega); (try have hz6 : w.heap.size + 1 + 1 < w'.heap.size := by omega)) | (go_at_call 22; refine (per_any _ _).mono ?_; rintro e w' ⟨rfl, rfl⟩))
        go_ret
        exact ⟨rfl, below_box hb⟩
      · by_cases h5 : k = 5
        · have hn : needZ k p e wh b l = perZ l := by
            unfold needZ
            rw [if_neg (by omega), if_neg (by omega), if_pos h5]
          rw [hn]
          clear hn hk hv h1
          subst h5
          go_enter Tryz.func20, Tryz.ntmps20
          go_wp2_with (first | (go_at_call 7; refine (cright_any _ _ _ _ _ _ _).mono ?_; rintro e w' ⟨rfl, hb⟩; obtain ⟨hc, hf⟩ := bcell hb; have hz := hb.size; (try simp at hz); (try have hz1 : w.heap.size < w'.heap.size := by omega); (try have hz2 : w.heap.size + 1 < w'.heap.size := by omega); (try have hz3 : w.heap.size < w'.heap.size + 1 := by omega); (try have hz4 : w.heap.size < w'.heap.size + 1 + 1 := by omega); (try have hz5 : ¬ w.heap.size = w'.heap.size := by omega); (try have hz6 : w.heap.size + 1 + 1 < w'.heap.size := by omega)) | (go_at_call 22; refine (per_any _ _).mono ?_; rintro e w' ⟨rfl, rfl⟩))
          go_ret
          exact ⟨rfl, below_box hb⟩
        · have hn : needZ k p e wh b l = 0 := by
            unfold needZ
            rw [if_neg (by omega), if_neg (by omega), if_neg (by omega), if_neg (by omega)]
          rw [hn]
          clear hn
          go_enter Tryz.func20, Tryz.ntmps20
          go_wp2_with (first | (go_at_call 7; refine (cright_any _ _ _ _ _ _ _).mono ?_; rintro e w' ⟨rfl, hb⟩; obtain ⟨hc, hf⟩ := bcell hb; have hz := hb.size; (try simp at hz); (try have hz1 : w.heap.size < w'.heap.size := by omega); (try have hz2 : w.heap.size + 1 < w'.heap.size := by omega); (try have hz3 : w.heap.size < w'.heap.size + 1 := by omega); (try have hz4 : w.heap.size < w'.heap.size + 1 + 1 := by omega); (try have hz5 : ¬ w.heap.size = w'.heap.size := by omega); (try have hz6 : w.heap.size + 1 + 1 < w'.heap.size := by omega)) | (go_at_call 22; refine (per_any _ _).mono ?_; rintro e w' ⟨rfl, rfl⟩))
          go_ret
          exact ⟨rfl, below_box hb⟩
  · have hn : needZ k p e wh b l = 0 := by unfold needZ; rw [if_pos hr]
    rw [hn]
    have hr' : (rightZ k p e wh b l == 0) = false := by simp; exact hr
    clear hn
    go_enter Tryz.func20, Tryz.ntmps20
    go_wp2_with (first | (go_at_call 7; refine (cright_any _ _ _ _ _ _ _).mono ?_; rintro e w' ⟨rfl, hb⟩; obtain ⟨hc, hf⟩ := bcell hb; have hz := hb.size; (try simp at hz); (try have hz1 : w.heap.size < w'.heap.size := by omega); (try have hz2 : w.heap.size + 1 < w'.heap.size := by omega); (try have hz3 : w.heap.size < w'.heap.size + 1 := by omega); (try have hz4 : w.heap.size < w'.heap.size + 1 + 1 := by omega); (try have hz5 : ¬ w.heap.size = w'.heap.size := by omega); (try have hz6 : w.heap.size + 1 + 1 < w'.heap.size := by omega)))
    go_ret
    exact ⟨rfl, below_box hb⟩
end Go.Proofs.YtaoagbnhomjkpaaGreat

/- admit: what is wrong with a connection, whether it is admitted. -/
namespace Go.Proofs.YtaoagbnhomjkpaaGreat
set_option linter.unusedVariables false
set_option linter.unusedSimpArgs false
open Go.RowKit
set_option maxRecDepth 100000
set_option maxHeartbeats 4000000
theorem link_one (N L cap T m g1 : Nat) (nx : Int) (w : World) (hN : NodRow w N (.slice (some ⟨L, 0, none⟩) 2 cap) T m nx) (h1 : w.cell? ⟨L, 1, none⟩ = some (.pointer (some ⟨g1, 0, none⟩))) :
    Calls Tryz.prog 52 #[.pointer (some ⟨N, 0, none⟩), .int .i64 1] w fun e w' => e = .returned (.pointer (some ⟨g1, 0, none⟩)) ∧ w = w' := by
  obtain ⟨c0, _, _, _, _, _⟩ := hN.cells
  go_enter Tryz.func52, Tryz.ntmps52
  go_wp2
  go_ret
  exact ⟨rfl, rfl⟩
/-- a key's box and a contract's. -/
def KC (K C : Nat) (x y z k p e wh b l : Int) (w : World) : Prop := Cs9 K 0 (.int .i64 x) K 1 (.int .i64 y) K 2 (.int .i64 z) C 0 (.int .i64 k) C 1 (.int .i64 p) C 2 (.int .i64 e) C 3 (.int .i64 wh) C 4 (.int .i64 b) C 5 (.int .i64 l) w
theorem KC.below {K C : Nat} {x y z k p e wh b l : Int} {w w' : World} (h : KC K C x y z k p e wh b l w) (hb : Below w.heap.size w w') : KC K C x y z k p e wh b l w' := Cs9.below h hb
theorem kc_new (w : World) (x y z k p e wh b l : Int) (T T' : TypeId) : KC w.heap.size (w.heap.size + 1) x y z k p e wh b l ((w.alloc (.cells #[.int .i64 x, .int .i64 y, .int .i64 z] T)).alloc (.cells #[.int .i64 k, .int .i64 p, .int .i64 e, .int .i64 wh, .int .i64 b, .int .i64 l] T')) := by
  have s1 : (w.alloc (.cells #[.int .i64 x, .int .i64 y, .int .i64 z] T)).heap.size = w.heap.size + 1 := by simp
  refine ⟨?_, ?_, ?_, ?_, ?_, ?_, ?_, ?_, ?_, trivial⟩
  · exact cell_under (by omega) (cell_top rfl rfl)
  · exact cell_under (by omega) (cell_top rfl rfl)
  · exact cell_under (by omega) (cell_top rfl rfl)
  · exact cell_top s1.symm rfl
  · exact cell_top s1.symm rfl
  · exact cell_top s1.symm rfl
  · exact cell_top s1.symm rfl
  · exact cell_top s1.symm rfl
  · exact cell_top s1.symm rfl
theorem below2 (w : World) (o o' : Obj) : Below w.heap.size w ((w.alloc o).alloc o') := ((Below.refl _ _).alloc (Nat.le_refl _) o).alloc (by simp) o'
theorem wrong_ok (N L cap T m g1 : Nat) (nx k p e wh b l : Int) (w : World) (hN : NodRow w N (.slice (some ⟨L, 0, none⟩) 2 cap) T m nx) (h1 : w.cell? ⟨L, 1, none⟩ = some (.pointer (some ⟨g1, 0, none⟩))) (hr : rightZ k p e wh b l = 0) :
    Calls Tryz.prog 75 #[.pointer (some ⟨N, 0, none⟩), .agg #[.int .i64 1, .int .i64 0, .int .i64 50], .agg #[.int .i64 k, .int .i64 p, .int .i64 e, .int .i64 wh, .int .i64 b, .int .i64 l]] w fun en w' => en = .returned (.int .i64 0) ∧ Below w.heap.size w w' := by
  have X := kc_new w 1 0 50 k p e wh b l 29 23
  have B := below2 w (.cells #[.int .i64 1, .int .i64 0, .int .i64 50] 29) (.cells #[.int .i64 k, .int .i64 p, .int .i64 e, .int .i64 wh, .int .i64 b, .int .i64 l] 23)
  have HR := Lib.hid hr
  clear hr
  go_enter Tryz.func75, Tryz.ntmps75
  go_wp2_with (first
    | (go_at_call 52; (with_reducible refine (link_one N L cap T m g1 nx _ (hN.below B) (cell_keep B h1)).mono ?_); rintro en w0 ⟨rfl, rfl⟩)
    | (go_at_call 28; (with_reducible refine (right_out _).mono ?_); rintro en w1 ⟨rfl, b1⟩; have X1 := X.below b1; obtain ⟨x0, x1, x2, y0, y1, y2, y3, y4, y5, _⟩ := id X1; have B1 := B.trans (b1.mono B.size))
    | (go_at_call 7; (with_reducible refine (cright_any k p e wh b l _).mono ?_); rw [HR.out]; rintro en w2 ⟨rfl, b2⟩; have B2 := B1.trans (b2.mono B1.size)))
  go_ret
  exact ⟨rfl, B2⟩
theorem right_bad {k p e wh b l : Int} (h : rightZ k p e wh b l ≠ 0) : rightZ k p e wh b l = 11 ∨ rightZ k p e wh b l = 12 := by
  unfold rightZ at h ⊢
  split
  · exact .inr rfl
  · split
    · rename_i h1 h2
      simp [h1, h2] at h
    · exact .inl rfl
theorem wrong_bad (N L cap T m g1 : Nat) (nx k p e wh b l : Int) (w : World) (hN : NodRow w N (.slice (some ⟨L, 0, none⟩) 2 cap) T m nx) (h1 : w.cell? ⟨L, 1, none⟩ = some (.pointer (some ⟨g1, 0, none⟩))) (hr : rightZ k p e wh b l ≠ 0) :
    Calls Tryz.prog 75 #[.pointer (some ⟨N, 0, none⟩), .agg #[.int .i64 1, .int .i64 0, .int .i64 50], .agg #[.int .i64 k, .int .i64 p, .int .i64 e, .int .i64 wh, .int .i64 b, .int .i64 l]] w fun en w' => en = .returned (.int .i64 73) ∧ Below w.heap.size w w' := by
  have X := kc_new w 1 0 50 k p e wh b l 29 23
  have B := below2 w (.cells #[.int .i64 1, .int .i64 0, .int .i64 50] 29) (.cells #[.int .i64 k, .int .i64 p, .int .i64 e, .int .i64 wh, .int .i64 b, .int .i64 l] 23)
  have hr := right_bad hr
  rcases hr with hr | hr
  all_goals
    have HR := Lib.hid hr
    clear hr
    go_enter Tryz.func75, Tryz.ntmps75
    go_wp2_with (first
      | (go_at_call 52; (with_reducible refine (link_one N L cap T m g1 nx _ (hN.below B) (cell_keep B h1)).mono ?_); rintro en w0 ⟨rfl, rfl⟩)
      | (go_at_call 28; (with_reducible refine (right_out _).mono ?_); rintro en w1 ⟨rfl, b1⟩; have X1 := X.below b1; obtain ⟨x0, x1, x2, y0, y1, y2, y3, y4, y5, _⟩ := id X1; have B1 := B.trans (b1.mono B.size))
      | (go_at_call 7; (with_reducible refine (cright_any k p e wh b l _).mono ?_); rw [HR.out]; rintro en w2 ⟨rfl, b2⟩; have B2 := B1.trans (b2.mono B1.size)))
    go_ret
    exact ⟨rfl, B2⟩
theorem check_bad (N L cap T m g1 : Nat) (nx k p e wh b l : Int) (w : World) (hN : NodRow w N (.slice (some ⟨L, 0, none⟩) 2 cap) T m nx) (h1 : w.cell? ⟨L, 1, none⟩ = some (.pointer (some ⟨g1, 0, none⟩))) (hr : rightZ k p e wh b l ≠ 0) :
    Calls Tryz.prog 51 #[.pointer (some ⟨N, 0, none⟩), .agg #[.int .i64 1, .int .i64 0, .int .i64 50], .agg #[.int .i64 k, .int .i64 p, .int .i64 e, .int .i64 wh, .int .i64 b, .int .i64 l]] w fun en w' => en = .returned (.int .i64 73) ∧ Below w.heap.size w w' := by
  have X := kc_new w 1 0 50 k p e wh b l 29 23
  have B := below2 w (.cells #[.int .i64 1, .int .i64 0, .int .i64 50] 29) (.cells #[.int .i64 k, .int .i64 p, .int .i64 e, .int .i64 wh, .int .i64 b, .int .i64 l] 23)
  obtain ⟨x0, x1, x2, y0, y1, y2, y3, y4, y5, _⟩ := id X
  go_enter Tryz.func51, Tryz.ntmps51
  go_wp2_with (go_at_call 75; (with_reducible refine (wrong_bad N L cap T m g1 nx k p e wh b l _ (hN.below B) (cell_keep B h1) hr).mono ?_); rintro en w1 ⟨rfl, b1⟩)
  go_ret
  exact ⟨rfl, B.trans (b1.mono B.size)⟩
def ST (N T K C : Nat) (k p e wh b l : Int) (w : World) : Prop := w.cell? ⟨N, 1, none⟩ = some (.pointer (some ⟨T, 0, none⟩)) ∧ KC K C 1 0 50 k p e wh b l w
theorem ST.below {N T K C : Nat} {k p e wh b l : Int} {w w' : World} (h : ST N T K C k p e wh b l w) (hb : Below w.heap.size w w') : ST N T K C k p e wh b l w' := ⟨cell_keep hb h.1, h.2.below hb⟩
theorem check_ok (N L cap T m g1 m1 : Nat) (nx k p e wh b l r : Int) (w : World) (hN : NodRow w N (.slice (some ⟨L, 0, none⟩) 2 cap) T m nx) (h1 : w.cell? ⟨L, 1, none⟩ = some (.pointer (some ⟨g1, 0, none⟩))) (hT : TabAt w T tab0) (hg : LedAt w g1 r 0 m1) (r0 : 0 ≤ r) (r1 : r ≤ 1152921504606846976) (hr : rightZ k p e wh b l = 0) (hn : needZ k p e wh b l ≤ r) :
    Calls Tryz.prog 51 #[.pointer (some ⟨N, 0, none⟩), .agg #[.int .i64 1, .int .i64 0, .int .i64 50], .agg #[.int .i64 k, .int .i64 p, .int .i64 e, .int .i64 wh, .int .i64 b, .int .i64 l]] w fun en w' => en = .returned (.int .i64 0) ∧ Below w.heap.size w w' := by
  have X := kc_new w 1 0 50 k p e wh b l 29 23
  have B := below2 w (.cells #[.int .i64 1, .int .i64 0, .int .i64 50] 29) (.cells #[.int .i64 k, .int .i64 p, .int .i64 e, .int .i64 wh, .int .i64 b, .int .i64 l] 23)
  obtain ⟨x0, x1, x2, y0, y1, y2, y3, y4, y5, _⟩ := id X
  obtain ⟨nd, hnd⟩ : ∃ nd, needZ k p e wh b l = nd := ⟨_, rfl⟩
  rw [hnd] at hn
  have HND := Lib.hid hnd
  clear hnd
  go_enter Tryz.func51, Tryz.ntmps51
  go_wp2_with (go_at_call 75; (with_reducible refine (wrong_ok N L cap T m g1 nx k p e wh b l _ (hN.below B) (cell_keep B h1) hr).mono ?_); rintro en w1 ⟨rfl, b1⟩)
  have X1 := X.below b1
  have B1 := B.trans (b1.mono B.size)
  obtain ⟨K, hK⟩ : ∃ K, K = w.heap.size := ⟨_, rfl⟩
  obtain ⟨C, hC⟩ : ∃ C, C = w.heap.size + 1 := ⟨_, rfl⟩
  rw [← hC, ← hK] at X1 ⊢
  clear hK hC x0 x1 x2 y0 y1 y2 y3 y4 y5 X B b1
  have N1 := hN.below B1
  have S0 : ST N T K C k p e wh b l w1.drew := ⟨N1.cells.2.1, X1⟩
  (refine wp_region_lead (ST N T K C k p e wh b l) [5] [0, 1, 2, 3, 4, 5, 6, 7, 8, 9, 10] _ (by kernel_rfl) (by kernel_rfl) (by kernel_rfl) (by simp only [List.filterMap_cons, List.getElem?_cons_zero, List.getElem?_cons_succ, Option.map_some, List.filterMap_nil]; rfl) rfl rfl S0 ?_)
  have g0 := fun g : Wits (ST N T K C k p e wh b l) => (Wits.is g).1
  have g1 := fun g : Wits (ST N T K C k p e wh b l) => (Wits.is g).2.1
  have g2 := fun g : Wits (ST N T K C k p e wh b l) => (Wits.is g).2.2.1
  have g3 := fun g : Wits (ST N T K C k p e wh b l) => (Wits.is g).2.2.2.1
  (refine lead_quietB_n 5 rfl S0 ?_); (intro _); (simp only [List.take_succ_cons, List.take_zero, List.drop_succ_cons, List.drop_zero, List.map_cons, List.map_nil]); (repeat (go_big_quiet_step (fail))); (refine wpQuiet_nil ?_)
  clear g0 g1 g2 g3
  refine lead_one rfl ?_ S0
  go_wp2_with (go_at_call 50; (with_reducible refine (get_out0 T _ (hT.below B1.drew)).mono ?_); rintro en w2 ⟨rfl, b2⟩)
  have S2 := S0.below b2
  have B2 : Below w.heap.size w w2 := B1.drew.trans (b2.mono B1.drew.size)
  refine ⟨rfl, S2, ?_⟩
  (refine lead_quietB_n 5 rfl S2 ?_); (intro _); (simp only [List.take_succ_cons, List.take_zero, List.drop_succ_cons, List.drop_zero, List.map_cons, List.map_nil]); (repeat (go_big_quiet_step (fail))); (refine wpQuiet_nil ?_)
  refine lead_nil ?_
  have n2 : w2.cell? ⟨N, 1, none⟩ = some (.pointer (some ⟨T, 0, none⟩)) := S2.1
  go_wp2_with (go_at_call 76; (with_reducible refine (len_any T tab0 0 _ (hT.below B2) tabLn.1).mono ?_); rintro en w3 ⟨rfl, b3⟩)
  have B3 := B2.trans (b3.mono B2.size)
  have S3 : ST N T K C k p e wh b l w3.drew := S2.below b3.drew
  clear n2 b3 b2 S0 S2 X1 N1
  (refine wp_region_lead (ST N T K C k p e wh b l) [1, 5, 6] [0, 2, 3, 4, 1, 5, 6, 7, 8] _ (by kernel_rfl) (by kernel_rfl) (by kernel_rfl) (by simp only [List.filterMap_cons, List.getElem?_cons_zero, List.getElem?_cons_succ, Option.map_some, List.filterMap_nil]; rfl) rfl rfl S3 ?_)
  have e0 := fun g : Wits (ST N T K C k p e wh b l) => (Wits.is g).2.1
  have e1 := fun g : Wits (ST N T K C k p e wh b l) => (Wits.is g).2.2.2.2.1
  have e2 := fun g : Wits (ST N T K C k p e wh b l) => (Wits.is g).2.2.2.2.2.1
  have e3 := fun g : Wits (ST N T K C k p e wh b l) => (Wits.is g).2.2.2.2.2.2.1
  have e4 := fun g : Wits (ST N T K C k p e wh b l) => (Wits.is g).2.2.2.2.2.2.2.1
  have e5 := fun g : Wits (ST N T K C k p e wh b l) => (Wits.is g).2.2.2.2.2.2.2.2.1
  have e6 := fun g : Wits (ST N T K C k p e wh b l) => (Wits.is g).2.2.2.2.2.2.2.2.2.1
  (refine lead_quietB_n 4 rfl S3 ?_); (intro _); (simp only [List.take_succ_cons, List.take_zero, List.drop_succ_cons, List.drop_zero, List.map_cons, List.map_nil]); (repeat (go_big_quiet_step (fail))); (refine wpQuiet_nil ?_)
  clear e0 e1 e2 e3 e4 e5 e6
  refine lead_one rfl ?_ S3
  go_wp2_with (go_at_call 20; (with_reducible refine (need_any k p e wh b l _).mono ?_); rw [HND.out]; rintro en w4 ⟨rfl, b4⟩)
  have S4 := S3.below b4
  have B4 : Below w.heap.size w w4 := B3.drew.trans (b4.mono B3.drew.size)
  refine ⟨rfl, S4, ?_⟩
  refine lead_one rfl ?_ S4
  go_wp2_with (go_at_call 52; (with_reducible refine (link_one N L cap T m g1 nx _ (hN.below B4) (cell_keep B4 h1)).mono ?_); rintro en w0 ⟨rfl, rfl⟩)
  refine ⟨rfl, S4, ?_⟩
  refine lead_one rfl ?_ S4
  go_wp2_with (go_at_call 77; (with_reducible refine (left_any g1 r 0 m1 _ (hg.below B4) (by omega) (by omega)).mono ?_); rintro en w5 ⟨rfl, q, rfl⟩)
  have S5 : ST N T K C k p e wh b l (w4.drewN q) := S4
  refine ⟨rfl, S5, ?_⟩
  (refine lead_quietB_n 2 rfl S5 ?_); (intro _); (simp only [List.take_succ_cons, List.take_zero, List.drop_succ_cons, List.drop_zero, List.map_cons, List.map_nil]); (repeat (go_big_quiet_step (fail))); (refine wpQuiet_nil ?_)
  refine lead_nil ?_
  go_wp2
  go_ret
  exact ⟨rfl, below_drewN B4 _⟩
theorem undC : Tryz.prog.underlying 134 = some (.map 3 194) := by kernel_rfl
/-- a connection's value. -/
abbrev connV (k p e wh b l : Int) (P : Nat) : Value := .agg #[.int .i64 k, .int .i64 p, .int .i64 e, .int .i64 wh, .int .i64 b, .int .i64 l, .pointer (some ⟨P, 0, none⟩)]
theorem put_ok (N T m : Nat) (ls : Value) (nx k p e wh b l : Int) (w : World) (hN : NodRow w N ls T m nx) (hm : M0 w m) (hr : rightZ k p e wh b l = 0) :
    Calls Tryz.prog 54 #[.pointer (some ⟨N, 0, none⟩), .int .i64 0, .agg #[.int .i64 k, .int .i64 p, .int .i64 e, .int .i64 wh, .int .i64 b, .int .i64 l]] w fun en w' => en = .returned (.tuple #[]) ∧ ∃ P lo, PolS lo w'.heap.size (pzOf k p e wh b) S4.zero 0 0 0 0 P w' ∧ M1 w' m (connV k p e wh b l P) ∧ w.heap.size ≤ lo ∧ lo ≤ w'.heap.size ∧ Chg m w w' := by
  have hB : Below w.heap.size w (w.alloc (.cells #[.int .i64 k, .int .i64 p, .int .i64 e, .int .i64 wh, .int .i64 b, .int .i64 l] 23)) := (Below.refl _ _).alloc (Nat.le_refl _) _
  have X : Cs6 w.heap.size 0 (.int .i64 k) w.heap.size 1 (.int .i64 p) w.heap.size 2 (.int .i64 e) w.heap.size 3 (.int .i64 wh) w.heap.size 4 (.int .i64 b) w.heap.size 5 (.int .i64 l) (w.alloc (.cells #[.int .i64 k, .int .i64 p, .int .i64 e, .int .i64 wh, .int .i64 b, .int .i64 l] 23)) :=
    ⟨cell_top rfl rfl, cell_top rfl rfl, cell_top rfl rfl, cell_top rfl rfl, cell_top rfl rfl, cell_top rfl rfl, trivial⟩
  obtain ⟨x0, x1, x2, x3, x4, x5, _⟩ := id X
  go_enter Tryz.func54, Tryz.ntmps54
  go_wp2_with (go_at_call 13; (with_reducible refine (new_S k p e wh b l _ hr).mono ?_); rintro en w1 ⟨P, rfl, hP, b1⟩)
  have X1 := X.below b1
  have B1 := hB.trans (b1.mono hB.size)
  have hz := b1.size
  obtain ⟨lo, hlo⟩ : ∃ lo, lo = (w.alloc (.cells #[.int .i64 k, .int .i64 p, .int .i64 e, .int .i64 wh, .int .i64 b, .int .i64 l] 23)).heap.size := ⟨_, rfl⟩
  rw [← hlo] at hP hz
  have hlo2 : w.heap.size < lo := by rw [hlo]; simp
  obtain ⟨C, hC⟩ : ∃ C, C = w.heap.size := ⟨_, rfl⟩
  rw [← hC] at X1 ⊢
  clear hC x0 x1 x2 x3 x4 x5 X hlo b1
  have N1 := hN.below B1
  have M1 := hm.below B1
  have S0 : Cs7 N 2 (.map (some m)) C 0 (.int .i64 k) C 1 (.int .i64 p) C 2 (.int .i64 e) C 3 (.int .i64 wh) C 4 (.int .i64 b) C 5 (.int .i64 l) w1.drew := ⟨N1.cells.2.2.1, X1⟩
  (refine wp_region_leadT (Cs7 N 2 (.map (some m)) C 0 (.int .i64 k) C 1 (.int .i64 p) C 2 (.int .i64 e) C 3 (.int .i64 wh) C 4 (.int .i64 b) C 5 (.int .i64 l)) [99] [0, 1, 2, 3, 4, 5, 6, 7] 8 _ _ (by kernel_rfl) (by kernel_rfl) (by kernel_rfl) rfl (by simp only [List.filterMap_cons, List.getElem?_cons_zero, List.getElem?_cons_succ, Option.map_some, List.filterMap_nil]; rfl) rfl rfl S0 ?_)
  have e0 := fun g : Wits (Cs7 N 2 (.map (some m)) C 0 (.int .i64 k) C 1 (.int .i64 p) C 2 (.int .i64 e) C 3 (.int .i64 wh) C 4 (.int .i64 b) C 5 (.int .i64 l)) => (Wits.is g).1
  have e1 := fun g : Wits (Cs7 N 2 (.map (some m)) C 0 (.int .i64 k) C 1 (.int .i64 p) C 2 (.int .i64 e) C 3 (.int .i64 wh) C 4 (.int .i64 b) C 5 (.int .i64 l)) => (Wits.is g).2.1
  have e2 := fun g : Wits (Cs7 N 2 (.map (some m)) C 0 (.int .i64 k) C 1 (.int .i64 p) C 2 (.int .i64 e) C 3 (.int .i64 wh) C 4 (.int .i64 b) C 5 (.int .i64 l)) => (Wits.is g).2.2.1
  have e3 := fun g : Wits (Cs7 N 2 (.map (some m)) C 0 (.int .i64 k) C 1 (.int .i64 p) C 2 (.int .i64 e) C 3 (.int .i64 wh) C 4 (.int .i64 b) C 5 (.int .i64 l)) => (Wits.is g).2.2.2.1
  have e4 := fun g : Wits (Cs7 N 2 (.map (some m)) C 0 (.int .i64 k) C 1 (.int .i64 p) C 2 (.int .i64 e) C 3 (.int .i64 wh) C 4 (.int .i64 b) C 5 (.int .i64 l)) => (Wits.is g).2.2.2.2.1
  have e5 := fun g : Wits (Cs7 N 2 (.map (some m)) C 0 (.int .i64 k) C 1 (.int .i64 p) C 2 (.int .i64 e) C 3 (.int .i64 wh) C 4 (.int .i64 b) C 5 (.int .i64 l)) => (Wits.is g).2.2.2.2.2.1
  have e6 := fun g : Wits (Cs7 N 2 (.map (some m)) C 0 (.int .i64 k) C 1 (.int .i64 p) C 2 (.int .i64 e) C 3 (.int .i64 wh) C 4 (.int .i64 b) C 5 (.int .i64 l)) => (Wits.is g).2.2.2.2.2.2.1
  (refine lead_quietB_n 8 rfl S0 ?_); (intro _); (simp only [List.take_succ_cons, List.take_zero, List.drop_succ_cons, List.drop_zero, List.map_cons, List.map_nil]); (repeat (go_big_quiet_step (fail))); (refine wpQuiet_nil ?_)
  clear e0 e1 e2 e3 e4 e5 e6
  refine lead_nil ?_
  have M1d : M0 w1.drew m := M1
  go_wp2_with (at_mapUpdate; refine wpList_upd0 (val := connV k p e wh b l P) rfl _ _ _ _ rfl undC undI rfl M1d rfl rfl ?_; intro w2 h2 c2 s2)
  refine ⟨rfl, ?_⟩
  go_wp2
  refine bodyPost_end (results_none rfl _ _ _) rfl ?_
  have lm : m < lo := by have := hm.lt; omega
  have s3 : w2.heap.size = w1.heap.size := s2
  refine ⟨rfl, P, lo, ?_, h2, by omega, by omega, (Chg.of B1).trans ((Chg.drew (Chg.refl m w1)).trans c2)⟩
  rw [s3]
  have c3 : Chg m w1 w2 := ⟨c2.os, c2.tape, c2.output, c2.size, c2.block⟩
  exact hP.other (s := fun k => k = m) (ChgL.chg c3 rfl) (fun k hk => by omega)
end Go.Proofs.YtaoagbnhomjkpaaGreat

/- admit: a connection is taken; the verdict on its cells. -/
namespace Go.Proofs.YtaoagbnhomjkpaaGreat
set_option linter.unusedVariables false
set_option linter.unusedSimpArgs false
open Go.RowKit
set_option maxRecDepth 100000
set_option maxHeartbeats 4000000
theorem ne_rows {w : World} {b b' : Nat} {c c' : Array Value} {T T' : TypeId} (h : w.heap[b]? = some (.cells c T)) (h' : w.heap[b']? = some (.cells c' T')) (hT : T ≠ T') : b ≠ b' := fun e => by
  subst e
  rw [h] at h'
  injection h' with h'
  injection h' with h1 h2
  exact hT h2
theorem ne_map {w : World} {b b' : Nat} {c : Array Value} {T : TypeId} {es : Array MapEntry} {n : Nat} (h : w.heap[b]? = some (.cells c T)) (h' : w.heap[b']? = some (.map es n)) : b ≠ b' := fun e => by
  subst e
  rw [h] at h'
  cases h'
theorem KC.chg {s : Nat → Prop} {K C : Nat} {x y z k p e wh b l : Int} {w w' : World} (h : KC K C x y z k p e wh b l w) (hc : ChgL s w w') (h1 : ¬ s K) (h2 : ¬ s C) : KC K C x y z k p e wh b l w' := by
  obtain ⟨a0, a1, a2, a3, a4, a5, a6, a7, a8, _⟩ := h
  have q : ∀ {b o : Nat} {v : Value}, ¬ s b → w.cell? ⟨b, o, none⟩ = some v → w'.cell? ⟨b, o, none⟩ = some v := fun hb hv =>
    (World.cell?_of_block (w := w) (hc.block _ (World.block_lt_of_cell? w _ hv) hb)).trans hv
  exact ⟨q h1 a0, q h1 a1, q h1 a2, q h2 a3, q h2 a4, q h2 a5, q h2 a6, q h2 a7, q h2 a8, trivial⟩
/-- a node that has taken the connection. -/
def Nod1 (O : Nat → Prop) (N : Nat) (c : Pz) (S : S4) (c0 c1 c2 c3 : Int) (w : World) : Prop := ∃ ls T m P pl ph k p e wh b l, NodRow w N ls T m 1 ∧ TabAt w T tabO ∧ M1 w m (connV k p e wh b l P) ∧ PolS pl ph c S c0 c1 c2 c3 P w ∧
  (O N ∧ ¬ (pl ≤ N ∧ N < ph)) ∧ (O T ∧ ¬ (pl ≤ T ∧ T < ph)) ∧ (O m ∧ ¬ (pl ≤ m ∧ m < ph)) ∧ ∀ k, pl ≤ k ∧ k < ph → O k
theorem Nod1.below {O : Nat → Prop} {N : Nat} {c : Pz} {S : S4} {c0 c1 c2 c3 : Int} {w w' : World} (h : Nod1 O N c S c0 c1 c2 c3 w) (hb : Below w.heap.size w w') : Nod1 O N c S c0 c1 c2 c3 w' := by
  obtain ⟨ls, T, m, P, pl, ph, k, p, e, wh, b, l, h1, h2, h3, h4, h5⟩ := h
  exact ⟨ls, T, m, P, pl, ph, k, p, e, wh, b, l, h1.below hb, h2.below hb, h3.below hb, h4.below hb, h5⟩
theorem Nod1.other {O s : Nat → Prop} {N : Nat} {c : Pz} {S : S4} {c0 c1 c2 c3 : Int} {w w' : World} (h : Nod1 O N c S c0 c1 c2 c3 w) (hc : ChgL s w w') (hd : ∀ k, s k → ¬ O k) : Nod1 O N c S c0 c1 c2 c3 w' := by
  obtain ⟨ls, T, m, P, pl, ph, k, p, e, wh, b, l, h1, h2, h3, h4, ⟨o1, n1⟩, ⟨o2, n2⟩, ⟨o3, n3⟩, o4⟩ := h
  refine ⟨ls, T, m, P, pl, ph, k, p, e, wh, b, l, ?_, ?_, ?_, h4.other hc (fun j hj => ?_), ⟨o1, n1⟩, ⟨o2, n2⟩, ⟨o3, n3⟩, o4⟩
  · exact (hc.block N h1.lt (fun q => hd _ q o1)).trans h1
  · exact (hc.block T h2.lt (fun q => hd _ q o2)).trans h2
  · exact (hc.block m h3.lt (fun q => hd _ q o3)).trans h3
  · by_cases hq : pl ≤ j ∧ j < ph
    · exact absurd (o4 j hq) (hd j hj)
    · omega
/-- the blocks of a node: those of its making, and its policer's. -/
def NO (lo hi pl ph : Nat) (k : Nat) : Prop := (lo ≤ k ∧ k < hi) ∨ (pl ≤ k ∧ k < ph)
theorem take_bad (lo hi N : Nat) (r k p e wh b l : Int) (w : World) (h : Nod0 lo hi N r w) (hr : rightZ k p e wh b l ≠ 0) :
    Calls Tryz.prog 30 #[.pointer (some ⟨N, 0, none⟩), .agg #[.int .i64 1, .int .i64 0, .int .i64 50], .agg #[.int .i64 k, .int .i64 p, .int .i64 e, .int .i64 wh, .int .i64 b, .int .i64 l]] w fun en w' => en = .returned (.int .i64 73) ∧ Below w.heap.size w w' := by
  obtain ⟨L, cap, T, m, g0, g1, m1, hN, h0, h1, hT, hm, hg, hm1, hne, _⟩ := h
  have X := kc_new w 1 0 50 k p e wh b l 29 23
  have B := below2 w (.cells #[.int .i64 1, .int .i64 0, .int .i64 50] 29) (.cells #[.int .i64 k, .int .i64 p, .int .i64 e, .int .i64 wh, .int .i64 b, .int .i64 l] 23)
  obtain ⟨x0, x1, x2, y0, y1, y2, y3, y4, y5, _⟩ := id X
  go_enter Tryz.func30, Tryz.ntmps30
  go_wp2_with (go_at_call 51; (with_reducible refine (check_bad N L cap T m g1 0 k p e wh b l _ (hN.below B) (cell_keep B h1) hr).mono ?_); rintro en w1 ⟨rfl, b1⟩)
  go_ret
  exact ⟨rfl, B.trans (b1.mono B.size)⟩
theorem take_ok (lo hi N : Nat) (r k p e wh b l : Int) (w : World) (h : Nod0 lo hi N r w) (hhi : hi ≤ w.heap.size) (r0 : 0 ≤ r) (r1 : r ≤ 1152921504606846976) (hr : rightZ k p e wh b l = 0) (hn : needZ k p e wh b l ≤ r) (hn0 : 0 ≤ needZ k p e wh b l) :
    Calls Tryz.prog 30 #[.pointer (some ⟨N, 0, none⟩), .agg #[.int .i64 1, .int .i64 0, .int .i64 50], .agg #[.int .i64 k, .int .i64 p, .int .i64 e, .int .i64 wh, .int .i64 b, .int .i64 l]] w fun en w' => en = .returned (.int .i64 0) ∧ ∃ pl ph, w.heap.size ≤ pl ∧ pl ≤ ph ∧ ph ≤ w'.heap.size ∧ Nod1 (NO lo hi pl ph) N (pzOf k p e wh b) S4.zero 0 0 0 0 w' ∧ ChgL (fun j => lo ≤ j ∧ j < hi) w w' := by
  obtain ⟨L, cap, T, m, g0, g1, m1, hN, h0, h1, hT, hm, hg, hm1, hne, bN, bL, bT, bm, bg, bm1, nL, nLT⟩ := h
  have n1 := ne_rows hN hT (by decide)
  have n2 := ne_map hN hm
  have n3 := ne_rows hN hg (by decide)
  have n4 := ne_map hN hm1
  have n5 := ne_map hT hm
  have n6 := ne_rows hT hg (by decide)
  have n7 := ne_map hT hm1
  have n8 := ne_map hg hm
  have n9 := ne_map hg hm1
  have X := kc_new w 1 0 50 k p e wh b l 29 23
  have B := below2 w (.cells #[.int .i64 1, .int .i64 0, .int .i64 50] 29) (.cells #[.int .i64 k, .int .i64 p, .int .i64 e, .int .i64 wh, .int .i64 b, .int .i64 l] 23)
  obtain ⟨x0, x1, x2, y0, y1, y2, y3, y4, y5, _⟩ := id X
  obtain ⟨nd, hnd⟩ : ∃ nd, needZ k p e wh b l = nd := ⟨_, rfl⟩
  have HND := Lib.hid hnd
  go_enter Tryz.func30, Tryz.ntmps30
  go_wp2_with (go_at_call 51; (with_reducible refine (check_ok N L cap T m g1 m1 0 k p e wh b l r _ (hN.below B) (cell_keep B h1) (hT.below B) (hg.below B) r0 r1 hr hn).mono ?_); rintro en w1 ⟨rfl, b1⟩; have N1 := hN.below (B.trans (b1.mono B.size)); obtain ⟨_, _, _, c3, _, f3⟩ := N1.cells)
  rw [hnd] at hn hn0
  clear hnd
  have X1 := X.below b1
  have B1 := B.trans (b1.mono B.size)
  obtain ⟨K, hK⟩ : ∃ K, K = w.heap.size := ⟨_, rfl⟩
  obtain ⟨C, hC⟩ : ∃ C, C = w.heap.size + 1 := ⟨_, rfl⟩
  have h1' := cell_keep B1 h1
  have T1 := hT.below B1
  have M1a := hm.below B1
  have G1 := hg.below B1
  have Q1 := hm1.below B1
  have lN := hN.lt
  have lT := hT.lt
  have lg := hg.lt
  have lm := hm.lt
  have lm1 := hm1.lt
  have lL := World.block_lt_of_cell? w _ h1
  have kK : K ≠ N ∧ K ≠ T ∧ K ≠ g1 ∧ K ≠ m ∧ K ≠ m1 ∧ C ≠ N ∧ C ≠ T ∧ C ≠ g1 ∧ C ≠ m ∧ C ≠ m1 := by omega
  obtain ⟨V, hV⟩ : ∃ V, V = w1.setCell ⟨N, 3, none⟩ (.int .i64 1) := ⟨_, rfl⟩
  have CV : ChgL (fun j => j = N) w1 V := by rw [hV]; exact ChgL.chg ((Chg.refl N w1).setCell 3 _) rfl
  have NV : NodRow V N (.slice (some ⟨L, 0, none⟩) 2 cap) T m 1 := by rw [hV]; exact N1.set3
  rw [← hC, ← hK] at X1 ⊢
  rw [← hV]
  clear hK hC hV c3 f3 x0 x1 x2 y0 y1 y2 y3 y4 y5 X B b1
  have cl : ∀ {s : Nat → Prop} {w w' : World} {b o : Nat} {v : Value}, ChgL s w w' → ¬ s b → w.cell? ⟨b, o, none⟩ = some v → w'.cell? ⟨b, o, none⟩ = some v := fun hc hb hv =>
    (World.cell?_of_block (hc.block _ (World.block_lt_of_cell? _ _ hv) hb)).trans hv
  have XV : KC K C 1 0 50 k p e wh b l V := X1.chg CV (by omega) (by omega)
  have TV : TabAt V T tab0 := (CV.block T T1.lt (fun q => n1 q.symm)).trans T1
  have MV : M0 V m := (CV.block m M1a.lt (fun q => n2 q.symm)).trans M1a
  have GV : LedAt V g1 r 0 m1 := (CV.block g1 G1.lt (fun q => n3 q.symm)).trans G1
  have QV : M0 V m1 := (CV.block m1 Q1.lt (fun q => n4 q.symm)).trans Q1
  have LV := cl CV nL h1'
  have CW : ChgL (fun j => lo ≤ j ∧ j < hi) w V := (ChgL.of B1).trans (CV.mono (fun j hj => by rw [hj]; exact bN))
  clear CV h1' T1 M1a G1 Q1 N1 X1
  have S0 : ST N T K C k p e wh b l V.drew := ⟨NV.cells.2.1, XV⟩
  (refine wp_region_lead (ST N T K C k p e wh b l) [6] [0, 1, 2, 3, 4, 5, 6] _ (by kernel_rfl) (by kernel_rfl) (by kernel_rfl) (by simp only [List.filterMap_cons, List.getElem?_cons_zero, List.getElem?_cons_succ, Option.map_some, List.filterMap_nil]; rfl) rfl rfl S0 ?_)
  have e0 := fun g : Wits (ST N T K C k p e wh b l) => (Wits.is g).1
  have e1 := fun g : Wits (ST N T K C k p e wh b l) => (Wits.is g).2.1
  have e2 := fun g : Wits (ST N T K C k p e wh b l) => (Wits.is g).2.2.1
  have e3 := fun g : Wits (ST N T K C k p e wh b l) => (Wits.is g).2.2.2.1
  (refine lead_quietB_n 6 rfl S0 ?_); (intro _); (simp only [List.take_succ_cons, List.take_zero, List.drop_succ_cons, List.drop_zero, List.map_cons, List.map_nil]); (repeat (go_big_quiet_step (fail))); (refine wpQuiet_nil ?_)
  clear e0 e1 e2 e3
  refine lead_one rfl ?_ S0
  have TVd : TabAt V.drew T tab0 := TV
  go_wp2_with (go_at_call 33; (with_reducible refine (put_out T _ TVd).mono ?_); rintro en w2 ⟨rfl, T2, c2⟩)
  have C2 : ChgL (fun j => j = T) V w2 := ⟨c2.os, c2.tape, c2.output, c2.size, c2.block⟩
  have X2 : KC K C 1 0 50 k p e wh b l w2 := XV.chg C2 (by omega) (by omega)
  have N2 : NodRow w2 N (.slice (some ⟨L, 0, none⟩) 2 cap) T m 1 := (C2.block N NV.lt n1).trans NV
  have M2 : M0 w2 m := (C2.block m MV.lt (fun q => n5 q.symm)).trans MV
  have G2 : LedAt w2 g1 r 0 m1 := (C2.block g1 GV.lt (fun q => n6 q.symm)).trans GV
  have Q2 : M0 w2 m1 := (C2.block m1 QV.lt (fun q => n7 q.symm)).trans QV
  have L2 := cl C2 nLT LV
  have CW2 : ChgL (fun j => lo ≤ j ∧ j < hi) w w2 := CW.trans (C2.mono (fun j hj => by rw [hj]; exact bT))
  have S2 : ST N T K C k p e wh b l w2 := ⟨N2.cells.2.1, X2⟩
  refine ⟨rfl, S2, ?_⟩
  refine lead_nil ?_
  clear S0 XV TV MV GV QV LV CW C2 c2 TVd NV
  go_wp2
  have S2 : ST N T K C k p e wh b l w2.drew := S2
  (refine wp_region_lead (ST N T K C k p e wh b l) [3, 6, 7] [0, 1, 2, 4, 5, 3, 6, 7] _ (by kernel_rfl) (by kernel_rfl) (by kernel_rfl) (by simp only [List.filterMap_cons, List.getElem?_cons_zero, List.getElem?_cons_succ, Option.map_some, List.filterMap_nil]; rfl) rfl rfl S2 ?_)
  have e0 := fun g : Wits (ST N T K C k p e wh b l) => (Wits.is g).2.1
  have e1 := fun g : Wits (ST N T K C k p e wh b l) => (Wits.is g).2.2.2.2.1
  have e2 := fun g : Wits (ST N T K C k p e wh b l) => (Wits.is g).2.2.2.2.2.1
  have e3 := fun g : Wits (ST N T K C k p e wh b l) => (Wits.is g).2.2.2.2.2.2.1
  have e4 := fun g : Wits (ST N T K C k p e wh b l) => (Wits.is g).2.2.2.2.2.2.2.1
  have e5 := fun g : Wits (ST N T K C k p e wh b l) => (Wits.is g).2.2.2.2.2.2.2.2.1
  have e6 := fun g : Wits (ST N T K C k p e wh b l) => (Wits.is g).2.2.2.2.2.2.2.2.2.1
  (refine lead_quietB_n 5 rfl S2 ?_); (intro _); (simp only [List.take_succ_cons, List.take_zero, List.drop_succ_cons, List.drop_zero, List.map_cons, List.map_nil]); (repeat (go_big_quiet_step (fail))); (refine wpQuiet_nil ?_)
  clear e0 e1 e2 e3 e4 e5 e6
  refine lead_one rfl ?_ S2
  have N2d : NodRow w2.drew N (.slice (some ⟨L, 0, none⟩) 2 cap) T m 1 := N2
  have L2d : w2.drew.cell? ⟨L, 1, none⟩ = some (.pointer (some ⟨g1, 0, none⟩)) := L2
  go_wp2_with (go_at_call 52; (with_reducible refine (link_one N L cap T m g1 1 _ N2d L2d).mono ?_); rintro en w0 ⟨rfl, rfl⟩)
  refine ⟨rfl, S2, ?_⟩
  refine lead_one rfl ?_ S2
  go_wp2_with (go_at_call 20; (with_reducible refine (need_any k p e wh b l _).mono ?_); rw [HND.out]; rintro en w3 ⟨rfl, b3⟩)
  have S3 := S2.below b3
  refine ⟨rfl, S3, ?_⟩
  refine lead_one rfl ?_ S3
  have G3 := LedAt.below (w := w2.drew) G2 b3
  have Q3 := M0.below (w := w2.drew) Q2 b3
  go_wp2_with (go_at_call 53; (with_reducible refine (book_any g1 m1 r nd _ G3 Q3 hn0 hn r1).mono ?_); rintro en w4 ⟨rfl, c4⟩)
  have C4 : ChgL (fun j => j = g1 ∨ j = m1) w2 w4 := (ChgL.of ((Below.refl _ _).drew.trans b3)).trans c4
  have X4 : KC K C 1 0 50 k p e wh b l w4 := X2.chg C4 (by omega) (by omega)
  have N4 : NodRow w4 N (.slice (some ⟨L, 0, none⟩) 2 cap) T m 1 := (C4.block N N2.lt (by omega)).trans N2
  have T4 : TabAt w4 T tabO := (C4.block T T2.lt (by omega)).trans T2
  have M4 : M0 w4 m := (C4.block m M2.lt (by omega)).trans M2
  have CW4 : ChgL (fun j => lo ≤ j ∧ j < hi) w w4 := CW2.trans (C4.mono (fun j hj => by rcases hj with rfl | rfl; exact bg; exact bm1))
  have S4 : ST N T K C k p e wh b l w4 := ⟨N4.cells.2.1, X4⟩
  refine ⟨rfl, S4, ?_⟩
  refine lead_nil ?_
  obtain ⟨x0, x1, x2, y0, y1, y2, y3, y4, y5, _⟩ := id X4
  go_wp2_with (go_at_call 54; (with_reducible refine (put_ok N T m _ 1 k p e wh b l _ N4 M4 hr).mono ?_); rintro en w5 ⟨rfl, P, pl, hP, M5, l5, u5, c5⟩)
  go_ret
  have C5 : ChgL (fun j => j = m) w4 w5 := ⟨c5.os, c5.tape, c5.output, c5.size, c5.block⟩
  have z4 := CW4.size
  refine ⟨rfl, pl, w5.heap.size, by omega, u5, Nat.le_refl _, ⟨_, T, m, P, pl, w5.heap.size, k, p, e, wh, b, l, (C5.block N N4.lt n2).trans N4, (C5.block T T4.lt n5).trans T4, M5, hP, ⟨.inl bN, by omega⟩, ⟨.inl bT, by omega⟩, ⟨.inl bm, by omega⟩, fun j hj => .inr hj⟩, CW4.trans (C5.mono (fun j hj => by rw [hj]; exact bm))⟩
theorem findN_out (N T m : Nat) (ls : Value) (nx : Int) (w : World) (hN : NodRow w N ls T m nx) (hT : TabAt w T tabO) :
    Calls Tryz.prog 103 #[.pointer (some ⟨N, 0, none⟩), .agg #[.int .i64 1, .int .i64 0, .int .i64 50]] w fun en w' => en = .returned (.tuple #[.int .i64 0, .bool true]) ∧ Below w.heap.size w w' := by
  have B : Below w.heap.size w (w.alloc (.cells #[.int .i64 1, .int .i64 0, .int .i64 50] 29)) := (Below.refl _ _).alloc (Nat.le_refl _) _
  go_enter Tryz.func103, Tryz.ntmps103
  go_wp2
  obtain ⟨W, hW⟩ : ∃ W, W = w.alloc (.cells #[.int .i64 1, .int .i64 0, .int .i64 50] 29) := ⟨_, rfl⟩
  rw [← hW] at B
  have X : Cs4 N 1 (.pointer (some ⟨T, 0, none⟩)) w.heap.size 0 (.int .i64 1) w.heap.size 1 (.int .i64 0) w.heap.size 2 (.int .i64 50) W.drew := by
    refine ⟨(hN.below B).cells.2.1, ?_, ?_, ?_, trivial⟩ <;> (rw [hW]; exact cell_top rfl rfl)
  rw [← hW]
  clear hW
  obtain ⟨K, hK⟩ : ∃ K, K = w.heap.size := ⟨_, rfl⟩
  rw [← hK] at X ⊢
  clear hK
  (refine wp_region_lead (Cs4 N 1 (.pointer (some ⟨T, 0, none⟩)) K 0 (.int .i64 1) K 1 (.int .i64 0) K 2 (.int .i64 50)) [5] [0, 1, 2, 3, 4, 5, 6, 7, 8, 9] _ (by kernel_rfl) (by kernel_rfl) (by kernel_rfl) (by simp only [List.filterMap_cons, List.getElem?_cons_zero, List.getElem?_cons_succ, Option.map_some, List.filterMap_nil]; rfl) rfl rfl X ?_)
  have e0 := fun g : Wits (Cs4 N 1 (.pointer (some ⟨T, 0, none⟩)) K 0 (.int .i64 1) K 1 (.int .i64 0) K 2 (.int .i64 50)) => (Wits.is g).1
  have e1 := fun g : Wits (Cs4 N 1 (.pointer (some ⟨T, 0, none⟩)) K 0 (.int .i64 1) K 1 (.int .i64 0) K 2 (.int .i64 50)) => (Wits.is g).2.1
  have e2 := fun g : Wits (Cs4 N 1 (.pointer (some ⟨T, 0, none⟩)) K 0 (.int .i64 1) K 1 (.int .i64 0) K 2 (.int .i64 50)) => (Wits.is g).2.2.1
  have e3 := fun g : Wits (Cs4 N 1 (.pointer (some ⟨T, 0, none⟩)) K 0 (.int .i64 1) K 1 (.int .i64 0) K 2 (.int .i64 50)) => (Wits.is g).2.2.2.1
  (refine lead_quietB_n 5 rfl X ?_); (intro _); (simp only [List.take_succ_cons, List.take_zero, List.drop_succ_cons, List.drop_zero, List.map_cons, List.map_nil]); (repeat (go_big_quiet_step (fail))); (refine wpQuiet_nil ?_)
  clear e0 e1 e2 e3
  refine lead_one rfl ?_ X
  go_wp2_with (go_at_call 50; (with_reducible refine (get_out1 T _ (hT.below B.drew)).mono ?_); rintro en w2 ⟨rfl, b2⟩)
  have X2 := X.below b2
  have B2 : Below w.heap.size w w2 := B.drew.trans (b2.mono B.drew.size)
  refine ⟨rfl, X2, ?_⟩
  (refine lead_quietB_n 4 rfl X2 ?_); (intro _); (simp only [List.take_succ_cons, List.take_zero, List.drop_succ_cons, List.drop_zero, List.map_cons, List.map_nil]); (repeat (go_big_quiet_step (fail))); (refine wpQuiet_nil ?_)
  refine lead_nil ?_
  go_wp2
  go_ret2
  exact ⟨rfl, B2⟩
theorem verdict_ok (O : Nat → Prop) (N : Nat) (c : Pz) (S : S4) (c0 c1 c2 c3 t clp : Int) (z : Bool) (hz : (clp == 0) = z) (w : World) (h : Nod1 O N c S c0 c1 c2 c3 w) (hM : S.Bd 2305843009213693952) (b0 : 0 ≤ c0 ∧ c0 ≤ 1000000) (b1 : 0 ≤ c1 ∧ c1 ≤ 1000000) (b2 : 0 ≤ c2 ∧ c2 ≤ 1000000) (b3 : 0 ≤ c3 ∧ c3 ≤ 1000000) :
    Calls Tryz.prog 67 #[.pointer (some ⟨N, 0, none⟩), .agg #[.int .i64 1, .int .i64 0, .int .i64 50], .int .i64 t, .int .i64 clp] w fun en w' => en = .returned (.tuple #[.int .i64 (c.last S t z), .bool true]) ∧ Nod1 O N c (c.nxt S t z) (c0 + 1) (c1 + hit (c.last S t z) 1) (c2 + hit (c.last S t z) 2) (c3 + hit (c.last S t z) 3) w' ∧ ChgL O w w' := by
  obtain ⟨ls, T, m, P, pl, ph, k, p, e, wh, b, l, hN, hT, hm, hP, ⟨oN, nN⟩, ⟨oT, nT⟩, ⟨om, nm⟩, oP⟩ := h
  have B : Below w.heap.size w (w.alloc (.cells #[.int .i64 1, .int .i64 0, .int .i64 50] 29)) := (Below.refl _ _).alloc (Nat.le_refl _) _
  have hf : ∀ w, (Instr.field 194 (.agg #[.int .i64 k, .int .i64 p, .int .i64 e, .int .i64 wh, .int .i64 b, .int .i64 l, .pointer (some ⟨P, 0, none⟩)]) 1).run Tryz.prog w = .ok (.pointer (some ⟨P, 0, none⟩)) w := fun w => by kernel_rfl
  have q0 : (w.alloc (.cells #[.int .i64 1, .int .i64 0, .int .i64 50] 29)).cell? ⟨w.heap.size, 0, none⟩ = some (.int .i64 1) := cell_top rfl rfl
  have q1 : (w.alloc (.cells #[.int .i64 1, .int .i64 0, .int .i64 50] 29)).cell? ⟨w.heap.size, 1, none⟩ = some (.int .i64 0) := cell_top rfl rfl
  have q2 : (w.alloc (.cells #[.int .i64 1, .int .i64 0, .int .i64 50] 29)).cell? ⟨w.heap.size, 2, none⟩ = some (.int .i64 50) := cell_top rfl rfl
  go_enter Tryz.func67, Tryz.ntmps67
  go_wp2_with (first
    | (go_at_call 103; (with_reducible refine (findN_out N T m ls 1 _ (hN.below B) (hT.below B)).mono ?_); rintro en w1 ⟨rfl, g1⟩; have B1 := B.trans (g1.mono B.size); have N1 := hN.below B1; have m1 := hm.below B1; have P1 := hP.below B1; obtain ⟨_, _, k2, _, _, _⟩ := N1.cells; have hl : (Instr.lookup 134 (.map (some m)) (.int .i64 0) false).run Tryz.prog w1 = .ok (.agg #[.int .i64 k, .int .i64 p, .int .i64 e, .int .i64 wh, .int .i64 b, .int .i64 l, .pointer (some ⟨P, 0, none⟩)]) w1 := look1 false undC undI m1)
    | (go_at_call 15; (with_reducible refine (take_S t clp z hz _ P1 hM b0 b1 b2 b3).mono ?_); rintro en w2 ⟨rfl, P2, c2⟩))
  go_ret2
  have C2 : ChgL (fun j => pl ≤ j ∧ j < ph) w w2 := (ChgL.of B1).trans c2
  exact ⟨rfl, ⟨ls, T, m, P, pl, ph, k, p, e, wh, b, l, (C2.block N hN.lt nN).trans hN, (C2.block T hT.lt nT).trans hT, (C2.block m hm.lt nm).trans hm, P2, ⟨oN, nN⟩, ⟨oT, nT⟩, ⟨om, nm⟩, oP⟩, C2.mono oP⟩
end Go.Proofs.YtaoagbnhomjkpaaGreat

/- alarm, gather: what a way and a link are made of. -/
namespace Go.Proofs.YtaoagbnhomjkpaaGreat
set_option linter.unusedVariables false
set_option linter.unusedSimpArgs false
open Go.RowKit
set_option maxRecDepth 100000
set_option maxHeartbeats 4000000
/-- an alarm's block. -/
def AlmAt (w : World) (A : Nat) : Prop := ∃ cur : Array Value, w.heap[A]? = some (.cells cur 154) ∧ cur.size = 20
theorem AlmAt.lt {w : World} {A : Nat} (h : AlmAt w A) : A < w.heap.size := by obtain ⟨c, h, _⟩ := h; exact (Array.getElem?_eq_some_iff.1 h).1
theorem AlmAt.block {w w' : World} {A : Nat} (h : AlmAt w A) (hb : w'.heap[A]? = w.heap[A]?) : AlmAt w' A := by obtain ⟨c, h, hc⟩ := h; exact ⟨c, hb.trans h, hc⟩
theorem AlmAt.below {w w' : World} {A : Nat} (h : AlmAt w A) (hb : Below w.heap.size w w') : AlmAt w' A := h.block (hb.block A h.lt)
theorem AlmAt.cell {w : World} {A : Nat} (h : AlmAt w A) (o : Nat) (ho : o < 20) : ∃ v, w.cell? ⟨A, o, none⟩ = some v := by
  obtain ⟨c, h, hc⟩ := h
  exact ⟨c[o]'(by omega), by rw [cell_of_row w A o _ _ _ h, Array.getElem?_eq_getElem]⟩
theorem AlmAt.frozen {w : World} {A : Nat} (h : AlmAt w A) (o : Nat) : w.frozen? ⟨A, o, none⟩ = false := by obtain ⟨c, h, hc⟩ := h; exact frozen_of_row w A o _ _ h
theorem AlmAt.set {w : World} {A : Nat} (h : AlmAt w A) (o : Nat) (v : Value) : AlmAt (w.setCell ⟨A, o, none⟩ v) A := by
  obtain ⟨c, h, hc⟩ := h
  exact ⟨_, heap_setCell_same w A o _ _ _ h, by simpa using hc⟩
theorem held_any (x : Int) (w : World) (h0 : 0 ≤ x) (h1 : x ≤ 1152921504606846976) : Calls Tryz.prog 55 #[.int .i64 x] w fun e w' => e = .returned (.int .i64 x) ∧ w = w' := by
  have e1 : min x 1152921504606846976 = x := by omega
  have e2 : max 0 x = x := by omega
  go_enter Tryz.func55, Tryz.ntmps55
  go_wp2
  all_goals
    go_ret
    exact ⟨ret_int (by omega), rfl⟩
theorem down_any (A : Nat) (b : Bool) (w : World) (h : AlmAt w A) : Calls Tryz.prog 32 #[.pointer (some ⟨A, 0, none⟩), .bool b] w fun e w' => e = .returned (.tuple #[]) ∧ AlmAt w' A ∧ Chg A w w' := by
  obtain ⟨v, hv⟩ := h.cell 19 (by omega)
  have hf := h.frozen 19
  go_enter Tryz.func32, Tryz.ntmps32
  go_wp2
  refine bodyPost_end (results_none rfl _ _ _) rfl ?_
  exact ⟨rfl, h.set 19 _, (Chg.refl A w).setCell 19 _⟩
theorem over_any (A : Nat) (w : World) (h : AlmAt w A) : Calls Tryz.prog 99 #[.pointer (some ⟨A, 0, none⟩)] w fun e w' => e = .returned (.tuple #[]) ∧ AlmAt w' A ∧ Chg A w w' := by
  obtain ⟨v, hv⟩ := h.cell 0 (by omega)
  have hf := h.frozen 0
  go_enter Tryz.func99, Tryz.ntmps99
  go_wp2
  refine bodyPost_end (results_none rfl _ _ _) rfl ?_
  exact ⟨rfl, h.set 0 _, (Chg.refl A w).setCell 0 _⟩
theorem user_any (A : Nat) (t : Int) (w : World) (h : AlmAt w A) : Calls Tryz.prog 68 #[.pointer (some ⟨A, 0, none⟩), .int .i64 t] w fun e w' => e = .returned (.tuple #[]) ∧ AlmAt w' A ∧ Chg A w w' := by
  go_enter Tryz.func68, Tryz.ntmps68
  go_wp2_with (go_at_call 99; (with_reducible refine (over_any A _ h).mono ?_); rintro en w1 ⟨rfl, h1, c1⟩)
  refine bodyPost_end (results_none rfl _ _ _) rfl ?_
  exact ⟨rfl, h1, c1⟩
theorem newG_any (w : World) : Calls Tryz.prog 26 #[.int .i64 10] w fun e w' => ∃ g, e = .returned (.pointer (some ⟨g, 0, none⟩)) ∧ Below w.heap.size w w' := by
  go_enter Tryz.func26, Tryz.ntmps26
  go_wp2
  go_ret
  exact ⟨_, rfl, by (repeat' (first | exact Below.refl _ _ | assumption | (refine Below.grown ?_ (by assumption) (by first | omega | (simp; omega)) (by simp [Value.ownBlock]; try omega)) | (refine below_drewN ?_ _) | (refine Below.drew ?_) | (refine Below.alloc ?_ (by first | omega | (simp; done) | (simp; omega)) _) | (refine Below.setCell ?_ (by first | omega | (simp; done) | (simp; omega)) _) | (refine below_then ?_ (Aft.below _)) | (apply below_then; rotate_left; assumption)))⟩
/-- a box of sixteen bytes. -/
def Z16 (K : Nat) (w : World) : Prop := w.heap[K]? = some (.cells #[.int .u8 0, .int .u8 0, .int .u8 0, .int .u8 0, .int .u8 0, .int .u8 0, .int .u8 0, .int .u8 0, .int .u8 0, .int .u8 0, .int .u8 0, .int .u8 0, .int .u8 0, .int .u8 0, .int .u8 0, .int .u8 0] 97) ∧ True
theorem Z16.below {K : Nat} {w w' : World} (h : Z16 K w) (hb : Below w.heap.size w w') : Z16 K w' := ⟨(hb.block K (Array.getElem?_eq_some_iff.1 h.1).1).trans h.1, trivial⟩
theorem newA_any (w : World) : Calls Tryz.prog 31 #[.agg #[.int .u8 0, .int .u8 0, .int .u8 0, .int .u8 0, .int .u8 0, .int .u8 0, .int .u8 0, .int .u8 0, .int .u8 0, .int .u8 0, .int .u8 0, .int .u8 0, .int .u8 0, .int .u8 0, .int .u8 0, .int .u8 0], .int .i64 10] w fun e w' => ∃ A, e = .returned (.pointer (some ⟨A, 0, none⟩)) ∧ AlmAt w' A ∧ w.heap.size ≤ A ∧ Below w.heap.size w w' := by
  go_enter Tryz.func31, Tryz.ntmps31
  go_wp2
  have B : Below w.heap.size w (w.alloc (.cells #[.int .u8 0, .int .u8 0, .int .u8 0, .int .u8 0, .int .u8 0, .int .u8 0, .int .u8 0, .int .u8 0, .int .u8 0, .int .u8 0, .int .u8 0, .int .u8 0, .int .u8 0, .int .u8 0, .int .u8 0, .int .u8 0] 97)) := (Below.refl _ _).alloc (Nat.le_refl _) _
  obtain ⟨W, hW⟩ : ∃ W, W = w.alloc (.cells #[.int .u8 0, .int .u8 0, .int .u8 0, .int .u8 0, .int .u8 0, .int .u8 0, .int .u8 0, .int .u8 0, .int .u8 0, .int .u8 0, .int .u8 0, .int .u8 0, .int .u8 0, .int .u8 0, .int .u8 0, .int .u8 0] 97) := ⟨_, rfl⟩
  have S0 : Z16 w.heap.size W.drew := ⟨by rw [hW]; exact heap_alloc_new w _, trivial⟩
  rw [← hW] at B
  rw [← hW]
  clear hW
  obtain ⟨K, hK⟩ : ∃ K, K = w.heap.size := ⟨_, rfl⟩
  rw [← hK] at S0 ⊢
  clear hK
  (refine wp_region_lead (Z16 K) [2, 3, 5] [0, 1, 2, 3, 4, 5, 6] _ (by kernel_rfl) (by kernel_rfl) (by kernel_rfl) (by simp only [List.filterMap_cons, List.getElem?_cons_zero, List.getElem?_cons_succ, Option.map_some, List.filterMap_nil]; rfl) rfl rfl S0 ?_)
  have e0 : ∀ g : Wits (Z16 K), g.w.cell? ⟨K, 0, none⟩ = some (.int .u8 0) := fun g => cell_of_row _ K 0 _ _ _ (Wits.is g).1
  have e1 : ∀ g : Wits (Z16 K), g.w.cell? ⟨K, 1, none⟩ = some (.int .u8 0) := fun g => cell_of_row _ K 1 _ _ _ (Wits.is g).1
  have e2 : ∀ g : Wits (Z16 K), g.w.cell? ⟨K, 2, none⟩ = some (.int .u8 0) := fun g => cell_of_row _ K 2 _ _ _ (Wits.is g).1
  have e3 : ∀ g : Wits (Z16 K), g.w.cell? ⟨K, 3, none⟩ = some (.int .u8 0) := fun g => cell_of_row _ K 3 _ _ _ (Wits.is g).1
  have e4 : ∀ g : Wits (Z16 K), g.w.cell? ⟨K, 4, none⟩ = some (.int .u8 0) := fun g => cell_of_row _ K 4 _ _ _ (Wits.is g).1
  have e5 : ∀ g : Wits (Z16 K), g.w.cell? ⟨K, 5, none⟩ = some (.int .u8 0) := fun g => cell_of_row _ K 5 _ _ _ (Wits.is g).1
  have e6 : ∀ g : Wits (Z16 K), g.w.cell? ⟨K, 6, none⟩ = some (.int .u8 0) := fun g => cell_of_row _ K 6 _ _ _ (Wits.is g).1
  have e7 : ∀ g : Wits (Z16 K), g.w.cell? ⟨K, 7, none⟩ = some (.int .u8 0) := fun g => cell_of_row _ K 7 _ _ _ (Wits.is g).1
  have e8 : ∀ g : Wits (Z16 K), g.w.cell? ⟨K, 8, none⟩ = some (.int .u8 0) := fun g => cell_of_row _ K 8 _ _ _ (Wits.is g).1
  have e9 : ∀ g : Wits (Z16 K), g.w.cell? ⟨K, 9, none⟩ = some (.int .u8 0) := fun g => cell_of_row _ K 9 _ _ _ (Wits.is g).1
  have e10 : ∀ g : Wits (Z16 K), g.w.cell? ⟨K, 10, none⟩ = some (.int .u8 0) := fun g => cell_of_row _ K 10 _ _ _ (Wits.is g).1
  have e11 : ∀ g : Wits (Z16 K), g.w.cell? ⟨K, 11, none⟩ = some (.int .u8 0) := fun g => cell_of_row _ K 11 _ _ _ (Wits.is g).1
  have e12 : ∀ g : Wits (Z16 K), g.w.cell? ⟨K, 12, none⟩ = some (.int .u8 0) := fun g => cell_of_row _ K 12 _ _ _ (Wits.is g).1
  have e13 : ∀ g : Wits (Z16 K), g.w.cell? ⟨K, 13, none⟩ = some (.int .u8 0) := fun g => cell_of_row _ K 13 _ _ _ (Wits.is g).1
  have e14 : ∀ g : Wits (Z16 K), g.w.cell? ⟨K, 14, none⟩ = some (.int .u8 0) := fun g => cell_of_row _ K 14 _ _ _ (Wits.is g).1
  have e15 : ∀ g : Wits (Z16 K), g.w.cell? ⟨K, 15, none⟩ = some (.int .u8 0) := fun g => cell_of_row _ K 15 _ _ _ (Wits.is g).1
  (refine lead_quietB_n 2 rfl S0 ?_); (intro _); (simp only [List.take_succ_cons, List.take_zero, List.drop_succ_cons, List.drop_zero, List.map_cons, List.map_nil]); (repeat (go_big_quiet_step (fail))); (refine wpQuiet_nil ?_)
  clear e0 e1 e2 e3 e4 e5 e6 e7 e8 e9 e10 e11 e12 e13 e14 e15
  refine lead_one rfl ?_ S0
  go_wp2_with (go_at_call 55; (with_reducible refine (held_any 10 _ (by omega) (by omega)).mono ?_); rintro en w1 ⟨rfl, rfl⟩)
  refine ⟨rfl, S0, ?_⟩
  refine lead_one rfl ?_ S0
  go_wp2
  refine ⟨rfl, S0, ?_⟩
  (refine lead_quietB_n 1 rfl S0 ?_); (intro _); (simp only [List.take_succ_cons, List.take_zero, List.drop_succ_cons, List.drop_zero, List.map_cons, List.map_nil]); (repeat (go_big_quiet_step (fail))); (refine wpQuiet_nil ?_)
  refine lead_one rfl ?_ S0
  go_wp2
  have S1 : Z16 K ((W.alloc (.cells #[.int .i64 0, .int .i64 0, .int .u8 0, .int .u8 0, .int .u8 0, .int .u8 0, .int .u8 0, .int .u8 0, .int .u8 0, .int .u8 0, .int .u8 0, .int .u8 0, .int .u8 0, .int .u8 0, .int .u8 0, .int .u8 0, .int .u8 0, .int .u8 0, .int .i64 10, .bool false] 154)).drew) := Z16.below (w := W) ⟨S0.1, trivial⟩ ((Below.refl _ _).alloc (Nat.le_refl _) _).drew
  have A1 : AlmAt ((W.alloc (.cells #[.int .i64 0, .int .i64 0, .int .u8 0, .int .u8 0, .int .u8 0, .int .u8 0, .int .u8 0, .int .u8 0, .int .u8 0, .int .u8 0, .int .u8 0, .int .u8 0, .int .u8 0, .int .u8 0, .int .u8 0, .int .u8 0, .int .u8 0, .int .u8 0, .int .i64 10, .bool false] 154)).drew) W.heap.size := ⟨_, heap_alloc_new W _, rfl⟩
  have B1 : Below w.heap.size w ((W.alloc (.cells #[.int .i64 0, .int .i64 0, .int .u8 0, .int .u8 0, .int .u8 0, .int .u8 0, .int .u8 0, .int .u8 0, .int .u8 0, .int .u8 0, .int .u8 0, .int .u8 0, .int .u8 0, .int .u8 0, .int .u8 0, .int .u8 0, .int .u8 0, .int .u8 0, .int .i64 10, .bool false] 154)).drew) := (B.alloc B.size _).drew
  have L1 := B.size
  obtain ⟨X, hX⟩ : ∃ X, X = (W.alloc (.cells #[.int .i64 0, .int .i64 0, .int .u8 0, .int .u8 0, .int .u8 0, .int .u8 0, .int .u8 0, .int .u8 0, .int .u8 0, .int .u8 0, .int .u8 0, .int .u8 0, .int .u8 0, .int .u8 0, .int .u8 0, .int .u8 0, .int .u8 0, .int .u8 0, .int .i64 10, .bool false] 154)).drew := ⟨_, rfl⟩
  rw [← hX] at S1 A1 B1
  rw [← hX]
  clear hX
  obtain ⟨A, hA⟩ : ∃ A, A = W.heap.size := ⟨_, rfl⟩
  rw [← hA] at A1 L1 ⊢
  clear hA
  refine ⟨rfl, S1, ?_⟩
  (refine lead_quietB_n 1 rfl S1 ?_); (intro _); (simp only [List.take_succ_cons, List.take_zero, List.drop_succ_cons, List.drop_zero, List.map_cons, List.map_nil]); (repeat (go_big_quiet_step (fail))); (refine wpQuiet_nil ?_)
  refine lead_nil ?_
  go_wp2
  go_ret
  exact ⟨A, rfl, A1, L1, B1⟩
end Go.Proofs.YtaoagbnhomjkpaaGreat

/- A region that draws its order, by an invariant: each operation once, whatever has come up by then. -/
namespace Go.Proofs.YtaoagbnhomjkpaaGreat
set_option linter.unusedVariables false
set_option linter.unusedSimpArgs false
open Go.RowKit
section
variable {P : Program} {ops : Array Oper} {md : Region.Mode}
theorem wpOp_of_list {i : Nat} {o : Oper} {a : Act} {w : World} {K : Act → World → Prop} {Q : Exit → Act → World → Prop} (hi : ops[i]? = some o) (h : wpList P ops (onlyN fun _ a' w' => K a' w') [o] a w) : wpOp P ops (onlyN Q) i K a w := by
  unfold wpList at h
  unfold wpOp
  simp only [hi]
  split
  · rename_i hw
    simp only [hw, if_true] at h
    rcases h with h | ⟨_, h⟩
    · refine .inl ?_
      unfold Oper.wp at *
      generalize (execOp a.eval o).run P w = r at *
      cases r with
      | halt x w' =>
        cases x <;> simp only [Oper.upon] at h ⊢
        case panic v => cases h.1
      | ok n w' =>
        cases n <;> simp only [Oper.upon] at h ⊢
        case value v => exact h.2
        case skip => exact h.2
        case defer d => exact h.2
        case enter f args =>
          refine Calls.mono h fun e w'' he => ?_
          cases e with
          | returned v => exact he.2
          | panicked c => cases he.1
          | outgrown => exact (letsOut_onlyN he).elim
        case row row args => exact Rows.mono h fun u w'' he => he.2
    · exact (letsOut_onlyN h).elim
  · rename_i hw
    simp only [hw] at h
    exact h.2
theorem all_of_count {l : Array Bool} (h : l.toList.count false = 0) (i : Nat) (hi : i < l.size) : l.getD i false = true := by
  have hm : false ∉ l.toList := List.count_eq_zero.1 h
  have : l[i] ≠ false := fun e => hm (by rw [← e]; exact Array.getElem_mem_toList hi)
  simp [hi]
  simpa using this
theorem count_set {l : Array Bool} {i : Nat} (h : l.getD i true = false) : (l.setIfInBounds i true).toList.count false + 1 = l.toList.count false := by
  have hi : i < l.size := by
    rcases Nat.lt_or_ge i l.size with h' | h'
    · exact h'
    · simp [Array.getElem?_eq_none h'] at h
  have e : l[i] = false := by simpa [hi] using h
  have h1 : l.toList.count false ≠ 0 := fun h0 => List.count_eq_zero.1 h0 (by rw [← e]; exact Array.getElem_mem_toList hi)
  have hl : i < l.toList.length := by simpa using hi
  have e2 : l.toList[i] = false := by simpa using e
  rw [Array.toList_setIfInBounds, List.count_set hl, e2]
  have h3 : (if (false == false) = true then 1 else 0) = 1 := rfl
  have h4 : (if (true == false) = true then 1 else 0) = 0 := rfl
  rw [h3, h4]
  omega
theorem wpAny_inv {Q : Exit → Act → World → Prop} (Inv : Array Bool → Act → World → Prop) (hb : ∀ (i : Nat) (o : Oper), ops[i]? = some o → ∀ e ∈ o.after, e.on < i)
    (hstep : ∀ (i : Nat) (o : Oper) (listed : Array Bool) (a : Act) (w : World), ops[i]? = some o → listed.size = ops.size → listed.getD i true = false → (∀ e ∈ o.after, Region.binds md e = true → listed.getD e.on false = true) → Inv listed a w → wpList P ops (onlyN fun _ a' w' => Inv (listed.setIfInBounds i true) a' w') [o] a w)
    (hend : ∀ listed a w, (∀ i, i < ops.size → listed.getD i false = true) → Inv listed a w → Q .normal a w) :
    ∀ (fuel : Nat) (listed : Array Bool) (a : Act) (w : World), listed.size = ops.size → listed.toList.count false ≤ fuel → Inv listed a w → wpAny P md ops (onlyN Q) fuel listed a w := by
  have hlast : ∀ (listed : Array Bool), listed.size = ops.size → Region.ready md ops listed = [] → ∀ i, i < ops.size → listed.getD i false = true := by
    intro listed hs hr i
    induction i using Nat.strongRecOn with
    | ind i ih =>
      intro hi
      by_cases hu : listed.getD i false = true
      · exact hu
      · exfalso
        have hi' : i < listed.size := by omega
        have hun : listed.getD i true = false := by
          simp [hi'] at hu ⊢
          exact hu
        have : i ∈ Region.ready md ops listed := mem_ready.2 ⟨hun, ops[i], by simp [hi], fun e he hbd => ih e.on (hb i _ (by simp [hi]) e he) (by have := hb i ops[i] (by simp [hi]) e he; omega)⟩
        rw [hr] at this
        cases this
  intro fuel
  induction fuel with
  | zero =>
    intro listed a w hs hc hI
    have hall := all_of_count (l := listed) (by omega)
    have hr : Region.ready md ops listed = [] := by
      rw [List.eq_nil_iff_forall_not_mem]
      intro i hi
      obtain ⟨hun, o, ho, _⟩ := mem_ready.1 hi
      have hlt := (Array.getElem?_eq_some_iff.1 ho).1
      have h1 := hall i (by omega)
      have h2 : i < listed.size := by omega
      simp [h2] at hun h1
      rw [hun] at h1
      cases h1
    exact ⟨hr, rfl, hend listed a w (fun i hi => hall i (by omega)) hI⟩
  | succ fuel ih =>
    intro listed a w hs hc hI
    refine ⟨fun hr => ⟨rfl, hend listed a w (hlast listed hs hr) hI⟩, fun i hi => ?_⟩
    obtain ⟨hun, o, ho, hall⟩ := mem_ready.1 hi
    have h1 := hstep i o listed a w ho hs hun hall hI
    refine wpOp_mono (fun a' w' h => ih _ a' w' (by simpa using hs) (by have := count_set hun; omega) h) (wpOp_of_list (Q := Q) ho h1)
theorem wp_region_inv {id : Nat} {Q : Exit → Act → World → Prop} {a : Act} {w : World} {l : List Oper} (Inv : Array Bool → Act → World → Prop) (hm : P.follows .mixedOrders = true)
    (hb : ((List.range l.length).all fun i => match l[i]? with | some o => o.after.all fun e => decide (e.on < i) | none => true) = true)
    (h0 : Inv (Array.replicate l.length false) a w.drew)
    (hstep : ∀ (i : Nat) (o : Oper) (listed : Array Bool) (a : Act) (w : World), l[i]? = some o → listed.size = l.length → listed.getD i true = false → (∀ e ∈ o.after, Region.binds .any e = true → listed.getD e.on false = true) → Inv listed a w → wpList P l.toArray (onlyN fun _ a' w' => Inv (listed.setIfInBounds i true) a' w') [o] a w)
    (hend : ∀ listed a w, (∀ i, i < l.length → listed.getD i false = true) → Inv listed a w → Q .normal a w) : (Code.region id l.toArray true).wp P Q a w := by
  refine wp_region_any hm (wpAny_onlyN _ _ _ _ (wpAny_inv (md := .any) (Q := Q) Inv ?_ ?_ ?_ _ _ _ _ ?_ ?_ h0))
  · intro i o ho e he
    have ho : l[i]? = some o := by simpa using ho
    have hi := (List.getElem?_eq_some_iff.1 ho).1
    have := List.all_eq_true.1 hb i (List.mem_range.2 hi)
    rw [ho] at this
    have h2 := Array.all_eq_true_iff_forall_mem.1 this e he
    simpa using h2
  · intro i o listed a w ho hs hu hall hI
    exact hstep i o listed a w (by simpa using ho) (by simpa using hs) hu hall hI
  · intro listed a w hall hI
    exact hend listed a w (fun i hi => hall i (by simpa using hi)) hI
  · simp
  · simp
end
end Go.Proofs.YtaoagbnhomjkpaaGreat
