/- cell.Sealed, cell.Empty. -/
import Derived.Test.YtdlghiekcgplaaaCellW
import Derived.Test.YtdlghiekcgplaaaHeadT
import Derived.Test.YtdlghiekcgplaaaEq
namespace Go.Proofs.Ytdlghiekcgplaaa
set_option linter.unusedVariables false
set_option linter.unusedSimpArgs false
open Go.RowKit
set_option maxRecDepth 100000
set_option maxHeartbeats 4000000
theorem wpQuiet_run {P : Program} {ops : Array Oper} {C : World → Prop} {Q : Act → Prop} {a : Act} {o : Oper} {rest : List Oper} {v : Value} (hg : o.guard = none) (hr : ∀ w, C w → (execOp a.eval o).run P w = .ok (.value v) w)
    (h : wpQuiet P ops C Q rest (a.put o.dst v)) : wpQuiet P ops C Q (o :: rest) a := by
  unfold wpQuiet
  rw [if_pos (by unfold Region.wanted; rw [hg])]
  refine ⟨v, fun w hw => ?_, h⟩
  unfold Oper.quietAt
  rw [hr w hw]
  exact ⟨rfl, rfl⟩
theorem wpQuiet_load48 {ops : Array Oper} {C : World → Prop} {Q : Act → Prop} {a : Act} {o : Oper} {rest : List Oper} {x : Operand} {b off : Nat} {zs : List Int} (hg : o.guard = none) (ho : o.op = .load 44 x) (hx : a.eval x = .pointer (some ⟨b, off, none⟩))
    (hl : zs.length = 48) (hc : ∀ w, C w → w.rangeAt b off (u8s zs)) (h : wpQuiet Try.prog ops C Q rest (a.put o.dst (.agg (u8s zs).toArray))) : wpQuiet Try.prog ops C Q (o :: rest) a := by
  refine wpQuiet_run hg (fun w hw => ?_) h
  unfold execOp
  have hr := run_loadVar_mid (P := Try.prog) w b off 44 (u8s zs) _ (hc w hw) und48 rfl (by rw [siz48]; simp [hl])
  simp only [ho, hx, Instr.loadAt, Instr.sureAddr, Sem.run_bind, Sem.run_pure, Result.andThen_ok, hr]
theorem eq48 (xs ys : List Int) (hx : xs.length = 48) (hy : ys.length = 48) (bx : allB xs) (bby : allB ys) {b : Bool} (hb : decide (xs = ys) = b) (w : World) :
    (binOp .eql 44 (.agg (u8s xs).toArray) (.agg (u8s ys).toArray)).run Try.prog w = .ok (.bool b) w :=
  eq_bytes (t := 44) (e := 5) (n := 48) und48 (by kernel_rfl) (by kernel_rfl) (by kernel_rfl) (by kernel_rfl) xs ys hx hy bx bby (by rw [← hb]; simp) w
theorem sealed_any (zs : List Int) (w : World) (hl : zs.length = 48) (hb : allB zs) {b : Bool} (hd : decide (sealZ zs = zs) = b) :
    Calls Try.prog 32 #[.agg (u8s zs).toArray] w fun e w' => e = .returned (.bool b) ∧ Below w.heap.size w w' := by
  have hsz : (u8s zs).toArray.size = 48 := by simp [hl]
  go_enter Try.func32, Try.ntmps32
  go_wp2
  obtain ⟨w1, hw1⟩ : ∃ w1, w1 = w.alloc (.cells (u8s zs).toArray 44) := ⟨_, rfl⟩
  have Z0 : BytesAt w1 (some ⟨w.heap.size, 0, none⟩) 48 zs := by
    have h := bytes_lit (w := w) (E := 44) (fr := (0, 0)) zs hb (by omega)
    rw [hl] at h
    rw [hw1]; exact h
  have B0 : Below w.heap.size w w1 := by rw [hw1]; (repeat' (first | (with_reducible exact Below.refl _ _) | (with_reducible assumption) | (with_reducible refine below_drewN ?_ _) | (with_reducible refine Below.drew ?_) | ((with_reducible refine Below.alloc ?_ ?_ _); (rotate_left; focus (first | omega | (simp; done) | (simp; omega)))) | ((with_reducible refine Below.setCell ?_ ?_ _); (rotate_left; focus (first | omega | (simp; done) | (simp; omega)))) | (with_reducible refine Below.grown ?_ (by assumption) (by first | omega | (simp; omega)) (by simp [Value.ownBlock]; try omega)) | (with_reducible refine below_then ?_ (Aft.below _)) | (with_reducible apply below_then; rotate_left; assumption)))
  rw [← hw1]
  clear hw1
  refine wp_region_hold (by kernel_rfl) (by kernel_rfl) ?_
  refine wpQuiet_load48 (zs := zs) rfl rfl rfl hl ?_ ?_
  · intro w' hw'
    obtain ⟨g, rfl⟩ := hw'
    exact (Z0.below (Aft.below g)).range
  simp only [Act.put, List.setIfInBounds_toArray, List.set_cons_succ, List.set_cons_zero]
  go_big_quiet_step ((go_at_call 28; exact aft_of (cellSeal_any zs _ hl hb)))
  refine wpQuiet_load48 (zs := zs) rfl rfl rfl hl ?_ ?_
  · intro w' hw'
    obtain ⟨g, rfl⟩ := hw'
    exact (Z0.below (Aft.below g)).range
  simp only [Act.put, List.setIfInBounds_toArray, List.set_cons_succ, List.set_cons_zero]
  have hE : ∀ w, (binOp .eql 44 (.agg (u8s (sealZ zs)).toArray) (.agg (u8s zs).toArray)).run Try.prog w = .ok (.bool b) w := eq48 (sealZ zs) zs (by rw [sealZ_len]; exact hl) hl (sealZ_B hb) hb hd
  (repeat (go_big_quiet_step (fail)))
  refine wpQuiet_nil ?_; intro _ hw'; obtain ⟨g, hw''⟩ := hw'; subst hw''; have hg := g.below
  go_wp2
  go_ret
  exact ⟨rfl, by (repeat' (first | (with_reducible exact Below.refl _ _) | (with_reducible assumption) | (with_reducible refine below_drewN ?_ _) | (with_reducible refine Below.drew ?_) | ((with_reducible refine Below.alloc ?_ ?_ _); (rotate_left; focus (first | omega | (simp; done) | (simp; omega)))) | ((with_reducible refine Below.setCell ?_ ?_ _); (rotate_left; focus (first | omega | (simp; done) | (simp; omega)))) | (with_reducible refine Below.grown ?_ (by assumption) (by first | omega | (simp; omega)) (by simp [Value.ownBlock]; try omega)) | (with_reducible refine below_then ?_ (Aft.below _)) | (with_reducible apply below_then; rotate_left; assumption)))⟩
abbrev hdr5 (g p c t l : Int) : List Value := [.int .i64 g, .int .i64 p, .int .i64 c, .int .i64 t, .int .i64 l]
theorem cellEmpty_any (g p c t l : Int) (P : List Value) (w : World) (hP : P.length = 48) :
    Calls Try.prog 30 #[.agg (hdr5 g p c t l ++ P).toArray] w fun e w' => e = .returned (.bool (decide (kindZ p c t l = 2 ∨ kindZ p c t l = 3))) ∧ Below w.heap.size w w' := by
  have hsz : (hdr5 g p c t l ++ P).toArray.size = 53 := by simp [hP]
  obtain ⟨X, hX⟩ : ∃ X, X = (hdr5 g p c t l ++ P).toArray := ⟨_, rfl⟩
  rw [← hX] at hsz ⊢
  have x0 : X[0]? = some (.int .i64 g) := by rw [hX]; simp
  have y0 : X[0]'(by rw [hsz]; decide) = .int .i64 g := by simpa [Array.getElem?_eq_getElem, hsz] using x0
  have x1 : X[1]? = some (.int .i64 p) := by rw [hX]; simp
  have y1 : X[1]'(by rw [hsz]; decide) = .int .i64 p := by simpa [Array.getElem?_eq_getElem, hsz] using x1
  have x2 : X[2]? = some (.int .i64 c) := by rw [hX]; simp
  have y2 : X[2]'(by rw [hsz]; decide) = .int .i64 c := by simpa [Array.getElem?_eq_getElem, hsz] using x2
  have x3 : X[3]? = some (.int .i64 t) := by rw [hX]; simp
  have y3 : X[3]'(by rw [hsz]; decide) = .int .i64 t := by simpa [Array.getElem?_eq_getElem, hsz] using x3
  have x4 : X[4]? = some (.int .i64 l) := by rw [hX]; simp
  have y4 : X[4]'(by rw [hsz]; decide) = .int .i64 l := by simpa [Array.getElem?_eq_getElem, hsz] using x4
  clear hX
  obtain ⟨w1, hw1⟩ : ∃ w1, w1 = w.alloc (.cells X 46) := ⟨_, rfl⟩
  have c0 : w1.cell? ⟨w.heap.size, 0, none⟩ = some (.int .i64 g) := by rw [hw1]; exact cell_top rfl x0
  have c1 : w1.cell? ⟨w.heap.size, 1, none⟩ = some (.int .i64 p) := by rw [hw1]; exact cell_top rfl x1
  have c2 : w1.cell? ⟨w.heap.size, 2, none⟩ = some (.int .i64 c) := by rw [hw1]; exact cell_top rfl x2
  have c3 : w1.cell? ⟨w.heap.size, 3, none⟩ = some (.int .i64 t) := by rw [hw1]; exact cell_top rfl x3
  have c4 : w1.cell? ⟨w.heap.size, 4, none⟩ = some (.int .i64 l) := by rw [hw1]; exact cell_top rfl x4
  have hs1 : w1.heap.size = w.heap.size + 1 := by rw [hw1]; simp
  have B0 : Below w.heap.size w w1 := by rw [hw1]; (repeat' (first | (with_reducible exact Below.refl _ _) | (with_reducible assumption) | (with_reducible refine below_drewN ?_ _) | (with_reducible refine Below.drew ?_) | ((with_reducible refine Below.alloc ?_ ?_ _); (rotate_left; focus (first | omega | (simp; done) | (simp; omega)))) | ((with_reducible refine Below.setCell ?_ ?_ _); (rotate_left; focus (first | omega | (simp; done) | (simp; omega)))) | (with_reducible refine Below.grown ?_ (by assumption) (by first | omega | (simp; omega)) (by simp [Value.ownBlock]; try omega)) | (with_reducible refine below_then ?_ (Aft.below _)) | (with_reducible apply below_then; rotate_left; assumption)))
  have HW := Lib.hid hw1
  clear hw1
  go_enter Try.func30, Try.ntmps30
  have hw2 : w.heap.size < w1.heap.size := by omega
  obtain ⟨k, hk⟩ : ∃ k, kindZ p c t l = k := ⟨_, rfl⟩
  rw [hk]
  go_wp2_with (go_at_call 17; (with_reducible refine (kind_any _ _ _ _ _ _).mono ?_); rw [hk]; rintro e wk ⟨rfl, hb_wk⟩; obtain ⟨hc_wk, hf_wk⟩ := bcell hb_wk; have hs_wk := hb_wk.size; (try simp at hs_wk); (try have h1_wk : w.heap.size < wk.heap.size := by omega); (try have h3_wk : w.heap.size < wk.heap.size + 1 := by omega); (try have h4_wk : w.heap.size < wk.heap.size + 1 + 1 := by omega); (try have h5_wk : ¬ w.heap.size = wk.heap.size := by omega))
  all_goals (go_ret; exact ⟨ret_bool (by first | (simp; done) | (simp; omega) | (simp [*]; done) | (rw [Bool.eq_iff_iff]; simp)), by (repeat' (first | (with_reducible exact Below.refl _ _) | (with_reducible assumption) | (with_reducible refine below_drewN ?_ _) | (with_reducible refine Below.drew ?_) | ((with_reducible refine Below.alloc ?_ ?_ _); (rotate_left; focus (first | omega | (simp; done) | (simp; omega)))) | ((with_reducible refine Below.setCell ?_ ?_ _); (rotate_left; focus (first | omega | (simp; done) | (simp; omega)))) | (with_reducible refine Below.grown ?_ (by assumption) (by first | omega | (simp; omega)) (by simp [Value.ownBlock]; try omega)) | (with_reducible refine below_then ?_ (Aft.below _)) | (with_reducible apply below_then; rotate_left; assumption)))⟩)
end Go.Proofs.Ytdlghiekcgplaaa
