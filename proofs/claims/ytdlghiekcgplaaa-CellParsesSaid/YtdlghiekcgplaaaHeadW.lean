/- The walks of the layer 'header'. -/
import Derived.Test.YtdlghiekcgplaaaKit2
import Derived.KernelRfl
namespace Go.Proofs.Ytdlghiekcgplaaa
set_option linter.unusedVariables false
set_option linter.unusedSimpArgs false
open Go.RowKit
set_option maxRecDepth 100000
set_option maxHeartbeats 4000000
theorem results_cell {P : Program} {fn : Func} {p : Tmp} {ty : TypeId} (h : fn.results = #[.cell p ty]) (tmps : Array Value) (w : World) {a : Addr} {v : Value} (hp : tmps.getD p undef = .pointer (some a)) (hl : (loadVar ty a).run P w = .ok v w) :
    (results fn tmps).run P w = .ok v w := by
  have hp' : tmps[p]?.getD undef = .pointer (some a) := by simpa using hp
  simp [results, h, hp', asAddr, hl]
theorem blk_new (w : World) (o : Obj) : (w.alloc o).heap[w.heap.size]? = some o := heap_alloc_new w o
theorem sizes_any (nni : Bool) (w : World) : Calls Try.prog 40 #[.bool nni] w fun e w' => e = .returned (.agg #[.int .i64 (if nni then 0 else 4), .int .i64 (if nni then 12 else 8), .int .i64 16, .int .i64 3, .int .i64 1]) ∧ Below w.heap.size w w' := by
  cases nni
  all_goals
    go_enter Try.func40, Try.ntmps40
    go_wp2
    (try simp only [Exit.inBlock, Exit.then])
    refine bodyPost_ret (results_cell rfl _ _ rfl (v := .agg #[.int .i64 _, .int .i64 _, .int .i64 _, .int .i64 _, .int .i64 _]) ?_) rfl ⟨rfl, by (repeat' (first | exact Below.refl _ _ | assumption | (refine Below.grown ?_ (by assumption) (by first | omega | (simp; omega)) (by simp [Value.ownBlock]; try omega)) | (refine below_drewN ?_ _) | (refine Below.drew ?_) | (refine Below.alloc ?_ (by first | omega | (simp; done) | (simp; omega)) _) | (refine Below.setCell ?_ (by first | omega | (simp; done) | (simp; omega)) _) | (refine below_then ?_ (Aft.below _)) | (apply below_then; rotate_left; assumption)))⟩
    exact run_loadVar_row _ _ _ _ _ _ _ (blk_new _ _) Try.underlying77 rfl (by kernel_rfl)
def kindZ (p c t l : Int) : Int :=
  if p = 0 ∧ c = 0 ∧ t = 0 ∧ l = 1 then 2 else if p = 0 ∧ c = 0 ∧ l = 0 then 3 else if c = 0 then 10 else if c = 3 then 4 else if c = 4 then 5 else if c = 6 ∧ t = 6 then 9
  else if t = 4 then 6 else if t = 5 then 7 else if t = 6 then 8 else if t = 7 then 10 else 1
theorem kind_any (g p c t l : Int) (w : World) : Calls Try.prog 17 #[.agg #[.int .i64 g, .int .i64 p, .int .i64 c, .int .i64 t, .int .i64 l]] w fun e w' => e = .returned (.int .i64 (kindZ p c t l)) ∧ Below w.heap.size w w' := by
  go_enter Try.func17, Try.ntmps17
  go_wp2
  all_goals
    go_ret
    refine ⟨ret_int ?_, by (repeat' (first | exact Below.refl _ _ | assumption | (refine Below.grown ?_ (by assumption) (by first | omega | (simp; omega)) (by simp [Value.ownBlock]; try omega)) | (refine below_drewN ?_ _) | (refine Below.drew ?_) | (refine Below.alloc ?_ (by first | omega | (simp; done) | (simp; omega)) _) | (refine Below.setCell ?_ (by first | omega | (simp; done) | (simp; omega)) _) | (refine below_then ?_ (Aft.below _)) | (apply below_then; rotate_left; assumption)))⟩
    unfold kindZ
    simp_all
attribute [irreducible] kindZ
def rightH (nni : Bool) (g p c t l : Int) : Bool :=
  decide (0 ≤ g ∧ g < (if nni then 1 else 16) ∧ 0 ≤ p ∧ p < (if nni then 4096 else 256) ∧ 0 ≤ c ∧ c < 65536 ∧ 0 ≤ t ∧ t < 8 ∧ 0 ≤ l ∧ l < 2)
theorem right_h (g p c t l : Int) (nni : Bool) (w : World) : Calls Try.prog 24 #[.agg #[.int .i64 g, .int .i64 p, .int .i64 c, .int .i64 t, .int .i64 l], .bool nni] w fun e w' => e = .returned (.bool (rightH nni g p c t l)) ∧ Below w.heap.size w w' := by
  have i0 : ∀ w, (Instr.index 77 (.agg #[.int .i64 g, .int .i64 p, .int .i64 c, .int .i64 t, .int .i64 l]) (.int .i64 0)).run Try.prog w = .ok (.int .i64 g) w := fun _ => by kernel_rfl
  have i1 : ∀ w, (Instr.index 77 (.agg #[.int .i64 g, .int .i64 p, .int .i64 c, .int .i64 t, .int .i64 l]) (.int .i64 1)).run Try.prog w = .ok (.int .i64 p) w := fun _ => by kernel_rfl
  have i2 : ∀ w, (Instr.index 77 (.agg #[.int .i64 g, .int .i64 p, .int .i64 c, .int .i64 t, .int .i64 l]) (.int .i64 2)).run Try.prog w = .ok (.int .i64 c) w := fun _ => by kernel_rfl
  have i3 : ∀ w, (Instr.index 77 (.agg #[.int .i64 g, .int .i64 p, .int .i64 c, .int .i64 t, .int .i64 l]) (.int .i64 3)).run Try.prog w = .ok (.int .i64 t) w := fun _ => by kernel_rfl
  have i4 : ∀ w, (Instr.index 77 (.agg #[.int .i64 g, .int .i64 p, .int .i64 c, .int .i64 t, .int .i64 l]) (.int .i64 4)).run Try.prog w = .ok (.int .i64 l) w := fun _ => by kernel_rfl
  cases nni
  all_goals
    go_enter Try.func24, Try.ntmps24
    go_wp2_with (go_at_call 40; refine (sizes_any _ _).mono ?_; rintro e w' ⟨rfl, hb⟩; obtain ⟨hc, hf⟩ := bcell hb; have hz := hb.size; (try simp at hz); (try have hz1 : w.heap.size < w'.heap.size := by omega); (try have hz2 : w.heap.size + 1 < w'.heap.size := by omega))
    go_step3
    go_wp2_with (go_at_call 40; refine (sizes_any _ _).mono ?_; rintro e w' ⟨rfl, hb⟩; obtain ⟨hc, hf⟩ := bcell hb; have hz := hb.size; (try simp at hz); (try have hz1 : w.heap.size < w'.heap.size := by omega); (try have hz2 : w.heap.size + 1 < w'.heap.size := by omega))
    go_step3
    go_wp2
    refine wp_loop_rounds 6 ?_
    rw [rounds_succ]
    go_wp2
    all_goals try (((try rw [Exit.noGoto_ret]); go_ret; refine ⟨ret_bool ?_, by (repeat' (first | exact Below.refl _ _ | assumption | (refine Below.grown ?_ (by assumption) (by first | omega | (simp; omega)) (by simp [Value.ownBlock]; try omega)) | (refine below_drewN ?_ _) | (refine Below.drew ?_) | (refine Below.alloc ?_ (by first | omega | (simp; done) | (simp; omega)) _) | (refine Below.setCell ?_ (by first | omega | (simp; done) | (simp; omega)) _) | (refine below_then ?_ (Aft.below _)) | (apply below_then; rotate_left; assumption)))⟩; clear i0 i1 i2 i3 i4 hc hf hb hz; simp at *; unfold rightH; simp; omega))
    rw [rounds_succ]
    go_wp2
    all_goals try (((try rw [Exit.noGoto_ret]); go_ret; refine ⟨ret_bool ?_, by (repeat' (first | exact Below.refl _ _ | assumption | (refine Below.grown ?_ (by assumption) (by first | omega | (simp; omega)) (by simp [Value.ownBlock]; try omega)) | (refine below_drewN ?_ _) | (refine Below.drew ?_) | (refine Below.alloc ?_ (by first | omega | (simp; done) | (simp; omega)) _) | (refine Below.setCell ?_ (by first | omega | (simp; done) | (simp; omega)) _) | (refine below_then ?_ (Aft.below _)) | (apply below_then; rotate_left; assumption)))⟩; clear i0 i1 i2 i3 i4 hc hf hb hz; simp at *; unfold rightH; simp; omega))
    rw [rounds_succ]
    go_wp2
    all_goals try (((try rw [Exit.noGoto_ret]); go_ret; refine ⟨ret_bool ?_, by (repeat' (first | exact Below.refl _ _ | assumption | (refine Below.grown ?_ (by assumption) (by first | omega | (simp; omega)) (by simp [Value.ownBlock]; try omega)) | (refine below_drewN ?_ _) | (refine Below.drew ?_) | (refine Below.alloc ?_ (by first | omega | (simp; done) | (simp; omega)) _) | (refine Below.setCell ?_ (by first | omega | (simp; done) | (simp; omega)) _) | (refine below_then ?_ (Aft.below _)) | (apply below_then; rotate_left; assumption)))⟩; clear i0 i1 i2 i3 i4 hc hf hb hz; simp at *; unfold rightH; simp; omega))
    rw [rounds_succ]
    go_wp2
    all_goals try (((try rw [Exit.noGoto_ret]); go_ret; refine ⟨ret_bool ?_, by (repeat' (first | exact Below.refl _ _ | assumption | (refine Below.grown ?_ (by assumption) (by first | omega | (simp; omega)) (by simp [Value.ownBlock]; try omega)) | (refine below_drewN ?_ _) | (refine Below.drew ?_) | (refine Below.alloc ?_ (by first | omega | (simp; done) | (simp; omega)) _) | (refine Below.setCell ?_ (by first | omega | (simp; done) | (simp; omega)) _) | (refine below_then ?_ (Aft.below _)) | (apply below_then; rotate_left; assumption)))⟩; clear i0 i1 i2 i3 i4 hc hf hb hz; simp at *; unfold rightH; simp; omega))
    rw [rounds_succ]
    go_wp2
    all_goals try (((try rw [Exit.noGoto_ret]); go_ret; refine ⟨ret_bool ?_, by (repeat' (first | exact Below.refl _ _ | assumption | (refine Below.grown ?_ (by assumption) (by first | omega | (simp; omega)) (by simp [Value.ownBlock]; try omega)) | (refine below_drewN ?_ _) | (refine Below.drew ?_) | (refine Below.alloc ?_ (by first | omega | (simp; done) | (simp; omega)) _) | (refine Below.setCell ?_ (by first | omega | (simp; done) | (simp; omega)) _) | (refine below_then ?_ (Aft.below _)) | (apply below_then; rotate_left; assumption)))⟩; clear i0 i1 i2 i3 i4 hc hf hb hz; simp at *; unfold rightH; simp; omega))
    rw [rounds_succ]
    go_wp2
    all_goals try (((try rw [Exit.noGoto_ret]); go_ret; refine ⟨ret_bool ?_, by (repeat' (first | exact Below.refl _ _ | assumption | (refine Below.grown ?_ (by assumption) (by first | omega | (simp; omega)) (by simp [Value.ownBlock]; try omega)) | (refine below_drewN ?_ _) | (refine Below.drew ?_) | (refine Below.alloc ?_ (by first | omega | (simp; done) | (simp; omega)) _) | (refine Below.setCell ?_ (by first | omega | (simp; done) | (simp; omega)) _) | (refine below_then ?_ (Aft.below _)) | (apply below_then; rotate_left; assumption)))⟩; clear i0 i1 i2 i3 i4 hc hf hb hz; simp at *; unfold rightH; simp; omega))
    go_goals
end Go.Proofs.Ytdlghiekcgplaaa
