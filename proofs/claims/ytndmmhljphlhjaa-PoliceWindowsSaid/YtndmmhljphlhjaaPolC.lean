/- police: Counts; what holds for none. -/
import Derived.Test.YtndmmhljphlhjaaPolS
namespace Go.Proofs.Ytndmmhljphlhjaa
set_option linter.unusedVariables false
set_option linter.unusedSimpArgs false
open Go.RowKit
set_option maxRecDepth 100000
set_option maxHeartbeats 4000000
theorem results_cell {P : Program} {fn : Func} {p : Tmp} {ty : TypeId} (h : fn.results = #[.cell p ty]) (tmps : Array Value) (w : World) {a : Addr} {v : Value} (hp : tmps.getD p undef = .pointer (some a)) (hl : (loadVar ty a).run P w = .ok v w) :
    (results fn tmps).run P w = .ok v w := by
  have hp' : tmps[p]?.getD undef = .pointer (some a) := by simpa using hp
  simp [results, h, hp', asAddr, hl]
theorem counts_any {p ra len cap : Nat} {al : Bool} {l : List Rs} {σ : Bst} {c0 c1 c2 c3 : Int} (w : World) (hP : PolAt w p ra len cap al l σ c0 c1 c2 c3) :
    Calls Try.prog 32 #[.pointer (some ⟨p, 0, none⟩)] w fun e w' => e = .returned (.agg #[.int .i64 c0, .int .i64 c1, .int .i64 c2, .int .i64 c3]) ∧ Below w.heap.size w w' := by
  obtain ⟨k0, k1, k2, k3, k4, k5, hf⟩ := hP.cells
  have hl := hP.lt
  go_enter Try.func32, Try.ntmps32
  go_wp2
  (try simp only [Exit.inBlock, Exit.then])
  refine bodyPost_ret (results_cell rfl _ _ rfl (v := .agg #[.int .i64 _, .int .i64 _, .int .i64 _, .int .i64 _]) ?_) rfl ⟨rfl, by (repeat' (first | exact Below.refl _ _ | assumption | (refine Below.grown ?_ (by assumption) (by first | omega | (simp; omega)) (by simp [Value.ownBlock]; try omega)) | (refine below_drewN ?_ _) | (refine Below.drew ?_) | (refine Below.alloc ?_ (by first | omega | (simp; done) | (simp; omega)) _) | (refine Below.setCell ?_ (by first | omega | (simp; done) | (simp; omega)) _) | (refine below_then ?_ (Aft.below _)) | (apply below_then; rotate_left; assumption)))⟩
  exact run_loadVar_row _ _ _ _ _ _ _ (heap_alloc_new w _) Try.underlying55 rfl (by kernel_rfl)
theorem counts_S {lo hi : Nat} {c : Pz} {S : S4} {c0 c1 c2 c3 : Int} {P : Nat} (w : World) (h : PolS lo hi c S c0 c1 c2 c3 P w) :
    Calls Try.prog 32 #[.pointer (some ⟨P, 0, none⟩)] w fun e w' => e = .returned (.agg #[.int .i64 c0, .int .i64 c1, .int .i64 c2, .int .i64 c3]) ∧ Below w.heap.size w w' := by
  obtain ⟨ra, cap, d1, d2, hn, h1, h2, h3, h4, ok, hP⟩ := h
  exact counts_any w hP
theorem counts_nil (w : World) :
    Calls Try.prog 32 #[.pointer none] w fun e w' => e = .returned (.agg #[.int .i64 0, .int .i64 0, .int .i64 0, .int .i64 0]) ∧ Below w.heap.size w w' := by
  go_enter Try.func32, Try.ntmps32
  go_wp2
  (try simp only [Exit.inBlock, Exit.then])
  refine bodyPost_ret (results_cell rfl _ _ rfl (v := .agg #[.int .i64 _, .int .i64 _, .int .i64 _, .int .i64 _]) ?_) rfl ⟨rfl, by (repeat' (first | exact Below.refl _ _ | assumption | (refine Below.grown ?_ (by assumption) (by first | omega | (simp; omega)) (by simp [Value.ownBlock]; try omega)) | (refine below_drewN ?_ _) | (refine Below.drew ?_) | (refine Below.alloc ?_ (by first | omega | (simp; done) | (simp; omega)) _) | (refine Below.setCell ?_ (by first | omega | (simp; done) | (simp; omega)) _) | (refine below_then ?_ (Aft.below _)) | (apply below_then; rotate_left; assumption)))⟩
  exact run_loadVar_row _ _ _ _ _ _ _ (heap_alloc_new w _) Try.underlying55 rfl (by kernel_rfl)
theorem take_nil (t clp : Int) (w : World) :
    Calls Try.prog 29 #[.pointer none, .int .i64 t, .int .i64 clp] w fun e w' => e = .returned (.int .i64 3) ∧ Below w.heap.size w w' := by
  go_enter Try.func29, Try.ntmps29
  go_wp2
  go_ret
  exact ⟨rfl, by (repeat' (first | exact Below.refl _ _ | assumption | (refine Below.grown ?_ (by assumption) (by first | omega | (simp; omega)) (by simp [Value.ownBlock]; try omega)) | (refine below_drewN ?_ _) | (refine Below.drew ?_) | (refine Below.alloc ?_ (by first | omega | (simp; done) | (simp; omega)) _) | (refine Below.setCell ?_ (by first | omega | (simp; done) | (simp; omega)) _) | (refine below_then ?_ (Aft.below _)) | (apply below_then; rotate_left; assumption)))⟩
theorem due_nil (clp : Int) (w : World) :
    Calls Try.prog 33 #[.pointer none, .int .i64 clp] w fun e w' => e = .returned (.int .i64 0) ∧ Below w.heap.size w w' := by
  go_enter Try.func33, Try.ntmps33
  go_wp2
  go_ret
  exact ⟨rfl, by (repeat' (first | exact Below.refl _ _ | assumption | (refine Below.grown ?_ (by assumption) (by first | omega | (simp; omega)) (by simp [Value.ownBlock]; try omega)) | (refine below_drewN ?_ _) | (refine Below.drew ?_) | (refine Below.alloc ?_ (by first | omega | (simp; done) | (simp; omega)) _) | (refine Below.setCell ?_ (by first | omega | (simp; done) | (simp; omega)) _) | (refine below_then ?_ (Aft.below _)) | (apply below_then; rotate_left; assumption)))⟩
end Go.Proofs.Ytndmmhljphlhjaa
