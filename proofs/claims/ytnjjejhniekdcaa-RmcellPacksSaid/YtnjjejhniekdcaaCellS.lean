/- cell.Sealed, cell.Empty. -/
import Derived.Test.YtnjjejhniekdcaaCellW
import Derived.Test.YtnjjejhniekdcaaEq
namespace Go.Proofs.Ytnjjejhniekdcaa
set_option linter.unusedVariables false
set_option linter.unusedSimpArgs false
open Go.RowKit
set_option maxRecDepth 100000
set_option maxHeartbeats 4000000
theorem wpQuiet_run {P : Program} {ops : Array Oper} {C : World → Prop} {Q : Act → Prop} {a : Act} {o : Oper} {rest : List Oper} {v : Value} (hg : o.guard = none) (hr : ∀ w, C w → (execOp a.eval o).run P w = .ok (.value v) w)
    (h : wpQuiet P ops C Q rest (a.put o.dst v)) : wpQuiet P ops C Q (o :: rest) a := by
  unfold wpQuiet
  rw [if_pos (by unfold Region.wanted; rw [hg])]
  refine ⟨v, fun w hw => ?_, h⟩
  unfold Oper.quietAt
  rw [hr w hw]
  exact ⟨rfl, rfl⟩
theorem wpQuiet_load48 {ops : Array Oper} {C : World → Prop} {Q : Act → Prop} {a : Act} {o : Oper} {rest : List Oper} {x : Operand} {b off : Nat} {zs : List Int} (hg : o.guard = none) (ho : o.op = .load 26 x) (hx : a.eval x = .pointer (some ⟨b, off, none⟩))
    (hl : zs.length = 48) (hc : ∀ w, C w → w.rangeAt b off (u8s zs)) (h : wpQuiet Try.prog ops C Q rest (a.put o.dst (.agg (u8s zs).toArray))) : wpQuiet Try.prog ops C Q (o :: rest) a := by
  refine wpQuiet_run hg (fun w hw => ?_) h
  unfold execOp
  have hr := run_loadVar_mid (P := Try.prog) w b off 26 (u8s zs) _ (hc w hw) und48 rfl (by rw [siz48]; simp [hl])
  simp only [ho, hx, Instr.loadAt, Instr.sureAddr, Sem.run_bind, Sem.run_pure, Result.andThen_ok, hr]
theorem eq48 (xs ys : List Int) (hx : xs.length = 48) (hy : ys.length = 48) (bx : allB xs) (bby : allB ys) {b : Bool} (hb : decide (xs = ys) = b) (w : World) :
    (binOp .eql 26 (.agg (u8s xs).toArray) (.agg (u8s ys).toArray)).run Try.prog w = .ok (.bool b) w :=
  eq_bytes (t := 26) (e := 5) (n := 48) und48 (by kernel_rfl) (by kernel_rfl) (by kernel_rfl) (by kernel_rfl) xs ys hx hy bx bby (by rw [← hb]; simp) w
theorem sealed_any (zs : List Int) (w : World) (hl : zs.length = 48) (hb : allB zs) {b : Bool} (hd : decide (sealZ zs = zs) = b) :
    Calls Try.prog 16 #[.agg (u8s zs).toArray] w fun e w' => e = .returned (.bool b) ∧ Below w.heap.size w w' := by
  have hsz : (u8s zs).toArray.size = 48 := by simp [hl]
  go_enter Try.func16, Try.ntmps16
  go_wp2
  obtain ⟨w1, hw1⟩ : ∃ w1, w1 = w.alloc (.cells (u8s zs).toArray 26) := ⟨_, rfl⟩
  have Z0 : BytesAt w1 (some ⟨w.heap.size, 0, none⟩) 48 zs := by
    have h := bytes_lit (w := w) (E := 26) (fr := (0, 0)) zs hb (by omega)
    rw [hl] at h
    rw [hw1]; exact h
  have B0 : Below w.heap.size w w1 := by rw [hw1]; (repeat' (first | (with_reducible exact Below.refl _ _) | (with_reducible assumption) | (with_reducible refine below_drewN ?_ _) | (with_reducible refine Below.drew ?_) | ((with_reducible refine Below.alloc ?_ ?_ _); (rotate_left; focus (first | omega | (simp; done) | (simp; omega)))) | ((with_reducible refine Below.setCell ?_ ?_ _); (rotate_left; focus (first | omega | (simp; done) | (simp; omega)))) | (with_reducible refine Below.grown ?_ (by assumption) (by first | omega | (simp; omega)) (by simp [Value.ownBlock]; try omega)) | (with_reducible refine below_then ?_ (Aft.below _)) | (with_reducible apply below_then; rotate_left; assumption)))
  rw [← hw1]
  clear hw1
  refine wp_region_hold (by kernel_rfl) (by kernel_rfl) ?_
  refine wpQuiet_load48 (zs := zs) rfl rfl rfl hl ?_ ?_
  · intro w' hw'
    obtain ⟨g, rfl⟩ := hw'
    exact (Z0.below (Aft.below g)).range
  simp only [Act.put, List.setIfInBounds_toArray, List.set_cons_succ, List.set_cons_zero]
  go_big_quiet_step ((go_at_call 27; exact aft_of (cellSeal_any zs _ hl hb)))
  refine wpQuiet_load48 (zs := zs) rfl rfl rfl hl ?_ ?_
  · intro w' hw'
    obtain ⟨g, rfl⟩ := hw'
    exact (Z0.below (Aft.below g)).range
  simp only [Act.put, List.setIfInBounds_toArray, List.set_cons_succ, List.set_cons_zero]
  have hE : ∀ w, (binOp .eql 26 (.agg (u8s (sealZ zs)).toArray) (.agg (u8s zs).toArray)).run Try.prog w = .ok (.bool b) w := eq48 (sealZ zs) zs (by rw [sealZ_len]; exact hl) hl (sealZ_B hb) hb hd
  (repeat (go_big_quiet_step (fail)))
  refine wpQuiet_nil ?_; intro _ hw'; obtain ⟨g, hw''⟩ := hw'; subst hw''; have hg := g.below
  go_wp2
  go_ret
  exact ⟨rfl, by (repeat' (first | (with_reducible exact Below.refl _ _) | (with_reducible assumption) | (with_reducible refine below_drewN ?_ _) | (with_reducible refine Below.drew ?_) | ((with_reducible refine Below.alloc ?_ ?_ _); (rotate_left; focus (first | omega | (simp; done) | (simp; omega)))) | ((with_reducible refine Below.setCell ?_ ?_ _); (rotate_left; focus (first | omega | (simp; done) | (simp; omega)))) | (with_reducible refine Below.grown ?_ (by assumption) (by first | omega | (simp; omega)) (by simp [Value.ownBlock]; try omega)) | (with_reducible refine below_then ?_ (Aft.below _)) | (with_reducible apply below_then; rotate_left; assumption)))⟩
end Go.Proofs.Ytnjjejhniekdcaa
