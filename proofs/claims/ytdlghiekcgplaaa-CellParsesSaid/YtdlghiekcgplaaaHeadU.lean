/- The walk of the layer 'header': Unpack. -/
import Derived.Test.YtdlghiekcgplaaaHeadP
import Derived.OpenShut
namespace Go.Proofs.Ytdlghiekcgplaaa
set_option linter.unusedVariables false
set_option linter.unusedSimpArgs false
open Go.RowKit
set_option maxRecDepth 100000
set_option maxHeartbeats 4000000
theorem results_ct {P : Program} {fn : Func} {p u : Tmp} {ty : TypeId} (h : fn.results = #[.cell p ty, .tmp u]) (tmps : Array Value) (w : World) {a : Addr} {v : Value} (hp : tmps.getD p undef = .pointer (some a)) (hl : (loadVar ty a).run P w = .ok v w) :
    (results fn tmps).run P w = .ok (.tuple #[v, tmps.getD u undef]) w := by
  have hp' : tmps[p]?.getD undef = .pointer (some a) := by simpa using hp
  simp [results, h, hp', asAddr, hl]
/-- five cells of a header, read as a value. -/
theorem load_header {w : World} {g : Nat} {a b c d e : Int} (h0 : w.cell? ⟨g, 0, none⟩ = some (.int .i64 a)) (h1 : w.cell? ⟨g, 1, none⟩ = some (.int .i64 b)) (h2 : w.cell? ⟨g, 2, none⟩ = some (.int .i64 c)) (h3 : w.cell? ⟨g, 3, none⟩ = some (.int .i64 d)) (h4 : w.cell? ⟨g, 4, none⟩ = some (.int .i64 e)) :
    (loadVar 23 ⟨g, 0, none⟩).run Try.prog w = .ok (.agg #[.int .i64 a, .int .i64 b, .int .i64 c, .int .i64 d, .int .i64 e]) w := by
  have hl : (loadCells ⟨g, 0, none⟩ 5).run Try.prog w = .ok #[.int .i64 a, .int .i64 b, .int .i64 c, .int .i64 d, .int .i64 e] w :=
    run_loadCells_list (P := Try.prog) w ⟨g, 0, none⟩ [.int .i64 a, .int .i64 b, .int .i64 c, .int .i64 d, .int .i64 e] (fun j v hv => by
      have hadd : (⟨g, 0, none⟩ : Addr).add j = ⟨g, j, none⟩ := by unfold Addr.add; split <;> simp_all
      rw [hadd]
      match j, hv with
      | 0, hv => simp at hv; rw [h0, hv]
      | 1, hv => simp at hv; rw [h1, hv]
      | 2, hv => simp at hv; rw [h2, hv]
      | 3, hv => simp at hv; rw [h3, hv]
      | 4, hv => simp at hv; rw [h4, hv]
      | j + 5, hv => simp at hv)
  simp [loadVar, hl]
/-- what stands in five cells behind stores into them, and into a row beside them. -/
theorem hdr_cells {W : World} {g p : Nat} {o : Obj} {b0 b1 b2 b3 b4 a0 a1 a2 a3 a4 v0 v1 v2 v3 v4 : Value} (hp : p ≠ g) (hg : g < W.heap.size)
    (c0 : W.cell? ⟨g, 0, none⟩ = some v0) (c1 : W.cell? ⟨g, 1, none⟩ = some v1) (c2 : W.cell? ⟨g, 2, none⟩ = some v2) (c3 : W.cell? ⟨g, 3, none⟩ = some v3) (c4 : W.cell? ⟨g, 4, none⟩ = some v4) :
    let W' := (((((((((((W.setCell ⟨p, 0, none⟩ b0).setCell ⟨p, 1, none⟩ b1).setCell ⟨p, 2, none⟩ b2).setCell ⟨p, 3, none⟩ b3).setCell ⟨p, 4, none⟩ b4).setCell ⟨g, 0, none⟩ a0).setCell ⟨g, 1, none⟩ a1).setCell ⟨g, 2, none⟩ a2).setCell ⟨g, 3, none⟩ a3).setCell ⟨g, 4, none⟩ a4).alloc o)
    W'.cell? ⟨g, 0, none⟩ = some a0 ∧ W'.cell? ⟨g, 1, none⟩ = some a1 ∧ W'.cell? ⟨g, 2, none⟩ = some a2 ∧ W'.cell? ⟨g, 3, none⟩ = some a3 ∧ W'.cell? ⟨g, 4, none⟩ = some a4 := by
  have n (i j : Nat) : (⟨p, i, none⟩ : Addr) ≠ ⟨g, j, none⟩ := fun h => hp (by injection h)
  have m {i j : Nat} (h : i ≠ j) : (⟨g, i, none⟩ : Addr) ≠ ⟨g, j, none⟩ := fun e => h (by injection e)
  have hs : ∀ i, (⟨g, i, none⟩ : Addr).block < ((((((((((W.setCell ⟨p, 0, none⟩ b0).setCell ⟨p, 1, none⟩ b1).setCell ⟨p, 2, none⟩ b2).setCell ⟨p, 3, none⟩ b3).setCell ⟨p, 4, none⟩ b4).setCell ⟨g, 0, none⟩ a0).setCell ⟨g, 1, none⟩ a1).setCell ⟨g, 2, none⟩ a2).setCell ⟨g, 3, none⟩ a3).setCell ⟨g, 4, none⟩ a4).heap.size := fun i => by simpa using hg
  intro W'
  refine ⟨?_, ?_, ?_, ?_, ?_⟩ <;> (show World.cell? (World.alloc _ _) _ = _) <;> rw [World.cell?_alloc_lt _ _ _ (hs _)]
  · rw [World.cell?_setCell_other _ _ _ _ (m (by decide)), World.cell?_setCell_other _ _ _ _ (m (by decide)), World.cell?_setCell_other _ _ _ _ (m (by decide)), World.cell?_setCell_other _ _ _ _ (m (by decide))]
    refine World.cell?_setCell_same _ _ _ (u := v0) ?_
    simp only [World.cell?_setCell_other _ _ _ _ (n _ _), c0]
  · rw [World.cell?_setCell_other _ _ _ _ (m (by decide)), World.cell?_setCell_other _ _ _ _ (m (by decide)), World.cell?_setCell_other _ _ _ _ (m (by decide))]
    refine World.cell?_setCell_same _ _ _ (u := v1) ?_
    rw [World.cell?_setCell_other _ _ _ _ (m (by decide))]
    simp only [World.cell?_setCell_other _ _ _ _ (n _ _), c1]
  · rw [World.cell?_setCell_other _ _ _ _ (m (by decide)), World.cell?_setCell_other _ _ _ _ (m (by decide))]
    refine World.cell?_setCell_same _ _ _ (u := v2) ?_
    rw [World.cell?_setCell_other _ _ _ _ (m (by decide)), World.cell?_setCell_other _ _ _ _ (m (by decide))]
    simp only [World.cell?_setCell_other _ _ _ _ (n _ _), c2]
  · rw [World.cell?_setCell_other _ _ _ _ (m (by decide))]
    refine World.cell?_setCell_same _ _ _ (u := v3) ?_
    rw [World.cell?_setCell_other _ _ _ _ (m (by decide)), World.cell?_setCell_other _ _ _ _ (m (by decide)), World.cell?_setCell_other _ _ _ _ (m (by decide))]
    simp only [World.cell?_setCell_other _ _ _ _ (n _ _), c3]
  · refine World.cell?_setCell_same _ _ _ (u := v4) ?_
    rw [World.cell?_setCell_other _ _ _ _ (m (by decide)), World.cell?_setCell_other _ _ _ _ (m (by decide)), World.cell?_setCell_other _ _ _ _ (m (by decide)), World.cell?_setCell_other _ _ _ _ (m (by decide))]
    simp only [World.cell?_setCell_other _ _ _ _ (n _ _), c4]
theorem unpack_few (a : Option Addr) (len cap : Nat) (nni : Bool) (w : World) (h : len < 4) (hl : (len : Int) < 4) : Calls Try.prog 20 #[.slice a len cap, .bool nni] w fun e w' => e = .returned (.tuple #[.agg #[.int .i64 0, .int .i64 0, .int .i64 0, .int .i64 0, .int .i64 0], .int .i64 2]) ∧ Below w.heap.size w w' := by
  go_enter Try.func20, Try.ntmps20
  go_wp2
  (try simp only [Exit.inBlock, Exit.then])
  refine bodyPost_ret (results_ct rfl _ _ rfl (v := .agg #[.int .i64 _, .int .i64 _, .int .i64 _, .int .i64 _, .int .i64 _]) ?_) rfl ⟨rfl, by (repeat' (first | exact Below.refl _ _ | assumption | (refine Below.grown ?_ (by assumption) (by first | omega | (simp; omega)) (by simp [Value.ownBlock]; try omega)) | (refine below_drewN ?_ _) | (refine Below.drew ?_) | (refine Below.alloc ?_ (by first | omega | (simp; done) | (simp; omega)) _) | (refine Below.setCell ?_ (by first | omega | (simp; done) | (simp; omega)) _) | (refine below_then ?_ (Aft.below _)) | (apply below_then; rotate_left; assumption)))⟩
  exact run_loadVar_row _ _ _ _ _ _ _ (blk_new _ _) Try.underlying23 rfl (by kernel_rfl)
theorem unpack_false (b off cap : Nat) (x y z u m1 n1 m2 n2 m3 n3 : Int) (w : World) (hlt : b < w.heap.size) (hne : ¬ b = w.heap.size) (hne' : ¬ w.heap.size = b) (h0 : w.cell? ⟨b, off, none⟩ = some (.int .u8 x)) (h1 : w.cell? ⟨b, off + 1, none⟩ = some (.int .u8 y)) (h2 : w.cell? ⟨b, off + 2, none⟩ = some (.int .u8 z)) (h3 : w.cell? ⟨b, off + 3, none⟩ = some (.int .u8 u))
    (k0 : wrap64 x = x) (k1 : wrap64 y = y) (k2 : wrap64 z = z) (k3 : wrap64 u = u) (f0 : bits .or .i64 0 x = x) (e1 : wrap64 (x * 256) = m1) (f1 : bits .or .i64 m1 y = n1) (e2 : wrap64 (n1 * 256) = m2) (f2 : bits .or .i64 m2 z = n2) (e3 : wrap64 (n2 * 256) = m3) (f3 : bits .or .i64 m3 u = n3)
    (a0 a1 a2 a3 a4 : Int) (t0 : bits .and .i64 (n3 / 268435456) 15 = a0) (t1 : bits .and .i64 (n3 / 1048576) 255 = a1) (t2 : bits .and .i64 (n3 / 16) 65535 = a2) (t3 : bits .and .i64 (n3 / 2) 7 = a3) (t4 : bits .and .i64 n3 1 = a4) :
    Calls Try.prog 20 #[.slice (some ⟨b, off, none⟩) 4 cap, .bool false] w fun e w' => e = .returned (.tuple #[.agg #[.int .i64 a0, .int .i64 a1, .int .i64 a2, .int .i64 a3, .int .i64 a4], .int .i64 0]) ∧ Below w.heap.size w w' := by
  have j0 : ∀ (w' : World) (q : Nat), (Instr.index 81 (.agg #[.pointer (some ⟨q, 0, none⟩), .pointer (some ⟨q, 1, none⟩), .pointer (some ⟨q, 2, none⟩), .pointer (some ⟨q, 3, none⟩), .pointer (some ⟨q, 4, none⟩)]) (.int .i64 0)).run Try.prog w' = .ok (.pointer (some ⟨q, 0, none⟩)) w' := fun _ _ => by kernel_rfl
  have j1 : ∀ (w' : World) (q : Nat), (Instr.index 81 (.agg #[.pointer (some ⟨q, 0, none⟩), .pointer (some ⟨q, 1, none⟩), .pointer (some ⟨q, 2, none⟩), .pointer (some ⟨q, 3, none⟩), .pointer (some ⟨q, 4, none⟩)]) (.int .i64 1)).run Try.prog w' = .ok (.pointer (some ⟨q, 1, none⟩)) w' := fun _ _ => by kernel_rfl
  have j2 : ∀ (w' : World) (q : Nat), (Instr.index 81 (.agg #[.pointer (some ⟨q, 0, none⟩), .pointer (some ⟨q, 1, none⟩), .pointer (some ⟨q, 2, none⟩), .pointer (some ⟨q, 3, none⟩), .pointer (some ⟨q, 4, none⟩)]) (.int .i64 2)).run Try.prog w' = .ok (.pointer (some ⟨q, 2, none⟩)) w' := fun _ _ => by kernel_rfl
  have j3 : ∀ (w' : World) (q : Nat), (Instr.index 81 (.agg #[.pointer (some ⟨q, 0, none⟩), .pointer (some ⟨q, 1, none⟩), .pointer (some ⟨q, 2, none⟩), .pointer (some ⟨q, 3, none⟩), .pointer (some ⟨q, 4, none⟩)]) (.int .i64 3)).run Try.prog w' = .ok (.pointer (some ⟨q, 3, none⟩)) w' := fun _ _ => by kernel_rfl
  have j4 : ∀ (w' : World) (q : Nat), (Instr.index 81 (.agg #[.pointer (some ⟨q, 0, none⟩), .pointer (some ⟨q, 1, none⟩), .pointer (some ⟨q, 2, none⟩), .pointer (some ⟨q, 3, none⟩), .pointer (some ⟨q, 4, none⟩)]) (.int .i64 4)).run Try.prog w' = .ok (.pointer (some ⟨q, 4, none⟩)) w' := fun _ _ => by kernel_rfl
  go_enter Try.func20, Try.ntmps20
  go_wp2_with (go_at_call 40; refine (sizes_any _ _).mono ?_; rintro e w' ⟨rfl, hb⟩; obtain ⟨hc, hf⟩ := bcell hb; have hz := hb.size; (try simp at hz); (try have hz1 : w.heap.size < w'.heap.size := by omega); (try have hz2 : w.heap.size + 1 < w'.heap.size := by omega))
  refine wp_loop_rounds 5 ?_
  rw [rounds_succ]
  go_wp2
  rw [rounds_succ]
  go_wp2
  rw [rounds_succ]
  go_wp2
  rw [rounds_succ]
  go_wp2
  rw [rounds_succ]
  go_wp2_with (go_at_call 40; refine (sizes_any _ _).mono ?_; rintro e w' ⟨rfl, hb⟩; obtain ⟨hc, hf⟩ := bcell hb; have hz := hb.size; (try simp at hz); (try have hz1 : w.heap.size < w'.heap.size := by omega); (try have hz2 : w.heap.size + 1 < w'.heap.size := by omega))
  refine wp_loop_rounds 6 ?_
  rw [rounds_succ]
  go_wp2
  refine wp_loop_rounds 5 ?_
  rw [rounds_succ]
  go_wp2
  rw [rounds_succ]
  go_wp2
  rw [rounds_succ]
  go_wp2
  rw [rounds_succ]
  go_wp2
  rw [rounds_succ]
  go_wp2
  go_region
  go_wp2
  rw [rounds_succ]
  go_wp2
  refine wp_loop_rounds 4 ?_
  rw [rounds_succ]
  go_wp2
  rw [rounds_succ]
  go_wp2
  rw [rounds_succ]
  go_wp2
  rw [rounds_succ]
  go_wp2
  go_region
  go_wp2
  rw [rounds_succ]
  go_wp2
  refine wp_loop_rounds 3 ?_
  rw [rounds_succ]
  go_wp2
  rw [rounds_succ]
  go_wp2
  rw [rounds_succ]
  go_wp2
  go_region
  go_wp2
  rw [rounds_succ]
  go_wp2
  refine wp_loop_rounds 2 ?_
  rw [rounds_succ]
  go_wp2
  rw [rounds_succ]
  go_wp2
  go_region
  go_wp2
  rw [rounds_succ]
  go_wp2
  refine wp_loop_rounds 1 ?_
  rw [rounds_succ]
  go_wp2
  go_region
  go_wp2
  rw [rounds_succ]
  go_wp2
  (try simp only [Exit.inBlock, Exit.then])
  refine bodyPost_ret (results_ct rfl _ _ rfl (load_header ?_ ?_ ?_ ?_ ?_)) rfl ⟨rfl, ?_⟩
  rotate_left 5
  · refine Below.drew (Below.drew (Below.drew (Below.drew (Below.drew ?_))))
    refine Below.alloc ?_ (by simp; omega) _
    iterate 10 (refine Below.setCell ?_ (by simp) _)
    exact below_then (((Below.refl _ _).alloc (Nat.le_refl _) _).alloc (by simp) _) hb
  all_goals go_light
  all_goals simp only [World.cell?_drew]
  all_goals have hs := hb.size
  all_goals simp only [World.size_alloc] at hs
  all_goals have q0 : w'.cell? ⟨w.heap.size, 0, none⟩ = some (.int .i64 0) := by go_cell
  all_goals have q1 : w'.cell? ⟨w.heap.size, 1, none⟩ = some (.int .i64 0) := by go_cell
  all_goals have q2 : w'.cell? ⟨w.heap.size, 2, none⟩ = some (.int .i64 0) := by go_cell
  all_goals have q3 : w'.cell? ⟨w.heap.size, 3, none⟩ = some (.int .i64 0) := by go_cell
  all_goals have q4 : w'.cell? ⟨w.heap.size, 4, none⟩ = some (.int .i64 0) := by go_cell
  all_goals have key := hdr_cells (W := w') (g := w.heap.size) (p := w.heap.size + 1) (o := .cells #[.int .i64 4, .int .i64 8, .int .i64 16, .int .i64 3, .int .i64 1] 77) (b0 := .int .i64 a0) (b1 := .int .i64 a1) (b2 := .int .i64 a2) (b3 := .int .i64 a3) (b4 := .int .i64 a4) (a0 := .int .i64 a0) (a1 := .int .i64 a1) (a2 := .int .i64 a2) (a3 := .int .i64 a3) (a4 := .int .i64 a4) (by omega) (by omega) q0 q1 q2 q3 q4
  all_goals clear q0 q1 q2 q3 q4
  · exact key.1
  · exact key.2.1
  · exact key.2.2.1
  · exact key.2.2.2.1
  · exact key.2.2.2.2
theorem unpack_true (b off cap : Nat) (x y z u m1 n1 m2 n2 m3 n3 : Int) (w : World) (hlt : b < w.heap.size) (hne : ¬ b = w.heap.size) (hne' : ¬ w.heap.size = b) (h0 : w.cell? ⟨b, off, none⟩ = some (.int .u8 x)) (h1 : w.cell? ⟨b, off + 1, none⟩ = some (.int .u8 y)) (h2 : w.cell? ⟨b, off + 2, none⟩ = some (.int .u8 z)) (h3 : w.cell? ⟨b, off + 3, none⟩ = some (.int .u8 u))
    (k0 : wrap64 x = x) (k1 : wrap64 y = y) (k2 : wrap64 z = z) (k3 : wrap64 u = u) (f0 : bits .or .i64 0 x = x) (e1 : wrap64 (x * 256) = m1) (f1 : bits .or .i64 m1 y = n1) (e2 : wrap64 (n1 * 256) = m2) (f2 : bits .or .i64 m2 z = n2) (e3 : wrap64 (n2 * 256) = m3) (f3 : bits .or .i64 m3 u = n3)
    (a0 a1 a2 a3 a4 : Int) (t0 : bits .and .i64 (n3 / 4294967296) 0 = a0) (t1 : bits .and .i64 (n3 / 1048576) 4095 = a1) (t2 : bits .and .i64 (n3 / 16) 65535 = a2) (t3 : bits .and .i64 (n3 / 2) 7 = a3) (t4 : bits .and .i64 n3 1 = a4) :
    Calls Try.prog 20 #[.slice (some ⟨b, off, none⟩) 4 cap, .bool true] w fun e w' => e = .returned (.tuple #[.agg #[.int .i64 a0, .int .i64 a1, .int .i64 a2, .int .i64 a3, .int .i64 a4], .int .i64 0]) ∧ Below w.heap.size w w' := by
  have j0 : ∀ (w' : World) (q : Nat), (Instr.index 81 (.agg #[.pointer (some ⟨q, 0, none⟩), .pointer (some ⟨q, 1, none⟩), .pointer (some ⟨q, 2, none⟩), .pointer (some ⟨q, 3, none⟩), .pointer (some ⟨q, 4, none⟩)]) (.int .i64 0)).run Try.prog w' = .ok (.pointer (some ⟨q, 0, none⟩)) w' := fun _ _ => by kernel_rfl
  have j1 : ∀ (w' : World) (q : Nat), (Instr.index 81 (.agg #[.pointer (some ⟨q, 0, none⟩), .pointer (some ⟨q, 1, none⟩), .pointer (some ⟨q, 2, none⟩), .pointer (some ⟨q, 3, none⟩), .pointer (some ⟨q, 4, none⟩)]) (.int .i64 1)).run Try.prog w' = .ok (.pointer (some ⟨q, 1, none⟩)) w' := fun _ _ => by kernel_rfl
  have j2 : ∀ (w' : World) (q : Nat), (Instr.index 81 (.agg #[.pointer (some ⟨q, 0, none⟩), .pointer (some ⟨q, 1, none⟩), .pointer (some ⟨q, 2, none⟩), .pointer (some ⟨q, 3, none⟩), .pointer (some ⟨q, 4, none⟩)]) (.int .i64 2)).run Try.prog w' = .ok (.pointer (some ⟨q, 2, none⟩)) w' := fun _ _ => by kernel_rfl
  have j3 : ∀ (w' : World) (q : Nat), (Instr.index 81 (.agg #[.pointer (some ⟨q, 0, none⟩), .pointer (some ⟨q, 1, none⟩), .pointer (some ⟨q, 2, none⟩), .pointer (some ⟨q, 3, none⟩), .pointer (some ⟨q, 4, none⟩)]) (.int .i64 3)).run Try.prog w' = .ok (.pointer (some ⟨q, 3, none⟩)) w' := fun _ _ => by kernel_rfl
  have j4 : ∀ (w' : World) (q : Nat), (Instr.index 81 (.agg #[.pointer (some ⟨q, 0, none⟩), .pointer (some ⟨q, 1, none⟩), .pointer (some ⟨q, 2, none⟩), .pointer (some ⟨q, 3, none⟩), .pointer (some ⟨q, 4, none⟩)]) (.int .i64 4)).run Try.prog w' = .ok (.pointer (some ⟨q, 4, none⟩)) w' := fun _ _ => by kernel_rfl
  go_enter Try.func20, Try.ntmps20
  go_wp2_with (go_at_call 40; refine (sizes_any _ _).mono ?_; rintro e w' ⟨rfl, hb⟩; obtain ⟨hc, hf⟩ := bcell hb; have hz := hb.size; (try simp at hz); (try have hz1 : w.heap.size < w'.heap.size := by omega); (try have hz2 : w.heap.size + 1 < w'.heap.size := by omega))
  refine wp_loop_rounds 5 ?_
  rw [rounds_succ]
  go_wp2
  rw [rounds_succ]
  go_wp2
  rw [rounds_succ]
  go_wp2
  rw [rounds_succ]
  go_wp2
  rw [rounds_succ]
  go_wp2_with (go_at_call 40; refine (sizes_any _ _).mono ?_; rintro e w' ⟨rfl, hb⟩; obtain ⟨hc, hf⟩ := bcell hb; have hz := hb.size; (try simp at hz); (try have hz1 : w.heap.size < w'.heap.size := by omega); (try have hz2 : w.heap.size + 1 < w'.heap.size := by omega))
  refine wp_loop_rounds 6 ?_
  rw [rounds_succ]
  go_wp2
  refine wp_loop_rounds 5 ?_
  rw [rounds_succ]
  go_wp2
  rw [rounds_succ]
  go_wp2
  rw [rounds_succ]
  go_wp2
  rw [rounds_succ]
  go_wp2
  rw [rounds_succ]
  go_wp2
  go_region
  go_wp2
  rw [rounds_succ]
  go_wp2
  refine wp_loop_rounds 4 ?_
  rw [rounds_succ]
  go_wp2
  rw [rounds_succ]
  go_wp2
  rw [rounds_succ]
  go_wp2
  rw [rounds_succ]
  go_wp2
  go_region
  go_wp2
  rw [rounds_succ]
  go_wp2
  refine wp_loop_rounds 3 ?_
  rw [rounds_succ]
  go_wp2
  rw [rounds_succ]
  go_wp2
  rw [rounds_succ]
  go_wp2
  go_region
  go_wp2
  rw [rounds_succ]
  go_wp2
  refine wp_loop_rounds 2 ?_
  rw [rounds_succ]
  go_wp2
  rw [rounds_succ]
  go_wp2
  go_region
  go_wp2
  rw [rounds_succ]
  go_wp2
  refine wp_loop_rounds 1 ?_
  rw [rounds_succ]
  go_wp2
  go_region
  go_wp2
  rw [rounds_succ]
  go_wp2
  (try simp only [Exit.inBlock, Exit.then])
  refine bodyPost_ret (results_ct rfl _ _ rfl (load_header ?_ ?_ ?_ ?_ ?_)) rfl ⟨rfl, ?_⟩
  rotate_left 5
  · refine Below.drew (Below.drew (Below.drew (Below.drew (Below.drew ?_))))
    refine Below.alloc ?_ (by simp; omega) _
    iterate 10 (refine Below.setCell ?_ (by simp) _)
    exact below_then (((Below.refl _ _).alloc (Nat.le_refl _) _).alloc (by simp) _) hb
  all_goals go_light
  all_goals simp only [World.cell?_drew]
  all_goals have hs := hb.size
  all_goals simp only [World.size_alloc] at hs
  all_goals have q0 : w'.cell? ⟨w.heap.size, 0, none⟩ = some (.int .i64 0) := by go_cell
  all_goals have q1 : w'.cell? ⟨w.heap.size, 1, none⟩ = some (.int .i64 0) := by go_cell
  all_goals have q2 : w'.cell? ⟨w.heap.size, 2, none⟩ = some (.int .i64 0) := by go_cell
  all_goals have q3 : w'.cell? ⟨w.heap.size, 3, none⟩ = some (.int .i64 0) := by go_cell
  all_goals have q4 : w'.cell? ⟨w.heap.size, 4, none⟩ = some (.int .i64 0) := by go_cell
  all_goals have key := hdr_cells (W := w') (g := w.heap.size) (p := w.heap.size + 1) (o := .cells #[.int .i64 0, .int .i64 12, .int .i64 16, .int .i64 3, .int .i64 1] 77) (b0 := .int .i64 a0) (b1 := .int .i64 a1) (b2 := .int .i64 a2) (b3 := .int .i64 a3) (b4 := .int .i64 a4) (a0 := .int .i64 a0) (a1 := .int .i64 a1) (a2 := .int .i64 a2) (a3 := .int .i64 a3) (a4 := .int .i64 a4) (by omega) (by omega) q0 q1 q2 q3 q4
  all_goals clear q0 q1 q2 q3 q4
  · exact key.1
  · exact key.2.1
  · exact key.2.2.1
  · exact key.2.2.2.1
  · exact key.2.2.2.2
theorem and_mask (k : Nat) (hk : k ≤ 16) (v m : Int) (hm : m = 2 ^ k - 1) (h0 : 0 ≤ v) (h1 : v < 9223372036854775808) : bits .and .i64 v m = v % 2 ^ k := by
  subst hm
  obtain ⟨a, rfl⟩ := Int.eq_ofNat_of_zero_le h0
  have hp : 0 < 2 ^ k := Nat.pow_pos (by decide)
  have hp2 : 2 ^ k ≤ 2 ^ 16 := Nat.pow_le_pow_right (by decide) hk
  have e : ((2 : Int) ^ k - 1) = ((2 ^ k - 1 : Nat) : Int) := by push_cast [Int.ofNat_sub hp]; rfl
  have h2 : (BitVec.ofInt 64 (a : Int)).toNat = a := by simp; omega
  have h3 : (BitVec.ofInt 64 ((2 ^ k - 1 : Nat) : Int)).toNat = 2 ^ k - 1 := by rw [BitVec.ofInt_natCast, BitVec.toNat_ofNat]; omega
  rw [e]
  show IntKind.i64.wrap ((BitVec.ofInt 64 (a : Int) &&& BitVec.ofInt 64 ((2 ^ k - 1 : Nat) : Int)).toNat : Int) = _
  rw [BitVec.toNat_and, h2, h3, Nat.and_two_pow_sub_one_eq_mod]
  have hlt : a % 2 ^ k < 2 ^ k := Nat.mod_lt _ hp
  have e2 : ((a : Int) % 2 ^ k) = ((a % 2 ^ k : Nat) : Int) := by push_cast; rfl
  rw [e2]
  simp [IntKind.bits, IntKind.wrap, IntKind.signed]
  omega
theorem and_mask0 (v : Int) : bits .and .i64 v 0 = 0 := by
  show IntKind.i64.wrap ((BitVec.ofInt 64 v &&& BitVec.ofInt 64 0).toNat : Int) = _
  simp [IntKind.bits, IntKind.wrap, IntKind.signed]
/-- four bytes' number. -/
def word4 (x y z u : Int) : Int := x * 16777216 + y * 65536 + z * 256 + u
def gfcW (nni : Bool) (n : Int) : Int := if nni then 0 else n / 268435456
def vpiW (nni : Bool) (n : Int) : Int := if nni then n / 1048576 else n / 1048576 % 256
theorem unpack_many (a : Option Addr) (len cap : Nat) (nni : Bool) (w : World) (h : 4 < len) (hl : ¬ (len : Int) < 4) (hg : 4 < (len : Int)) : Calls Try.prog 20 #[.slice a len cap, .bool nni] w fun e w' => e = .returned (.tuple #[.agg #[.int .i64 0, .int .i64 0, .int .i64 0, .int .i64 0, .int .i64 0], .int .i64 3]) ∧ Below w.heap.size w w' := by
  go_enter Try.func20, Try.ntmps20
  go_wp2
  (try simp only [Exit.inBlock, Exit.then])
  refine bodyPost_ret (results_ct rfl _ _ rfl (v := .agg #[.int .i64 _, .int .i64 _, .int .i64 _, .int .i64 _, .int .i64 _]) ?_) rfl ⟨rfl, by (repeat' (first | exact Below.refl _ _ | assumption | (refine Below.grown ?_ (by assumption) (by first | omega | (simp; omega)) (by simp [Value.ownBlock]; try omega)) | (refine below_drewN ?_ _) | (refine Below.drew ?_) | (refine Below.alloc ?_ (by first | omega | (simp; done) | (simp; omega)) _) | (refine Below.setCell ?_ (by first | omega | (simp; done) | (simp; omega)) _) | (refine below_then ?_ (Aft.below _)) | (apply below_then; rotate_left; assumption)))⟩
  exact run_loadVar_row _ _ _ _ _ _ _ (blk_new _ _) Try.underlying23 rfl (by kernel_rfl)
theorem unpack_yes (b off cap : Nat) (x y z u : Int) (nni : Bool) (w : World) (hlt : b < w.heap.size) (h0 : w.cell? ⟨b, off, none⟩ = some (.int .u8 x)) (h1 : w.cell? ⟨b, off + 1, none⟩ = some (.int .u8 y)) (h2 : w.cell? ⟨b, off + 2, none⟩ = some (.int .u8 z)) (h3 : w.cell? ⟨b, off + 3, none⟩ = some (.int .u8 u))
    (x0 : 0 ≤ x) (x1 : x < 256) (y0 : 0 ≤ y) (y1 : y < 256) (z0 : 0 ≤ z) (z1 : z < 256) (u0 : 0 ≤ u) (u1 : u < 256) :
    Calls Try.prog 20 #[.slice (some ⟨b, off, none⟩) 4 cap, .bool nni] w fun e w' =>
      e = .returned (.tuple #[.agg #[.int .i64 (gfcW nni (word4 x y z u)), .int .i64 (vpiW nni (word4 x y z u)), .int .i64 (word4 x y z u / 16 % 65536), .int .i64 (word4 x y z u / 2 % 8), .int .i64 (word4 x y z u % 2)], .int .i64 0]) ∧ Below w.heap.size w w' := by
  have f0 : bits .or .i64 0 x = x := by have := or_plus 8 0 x (by omega) (by omega) (by omega) (by omega) (by omega); simpa using this
  have hn : word4 x y z u = ((x * 256 + y) * 256 + z) * 256 + u := by unfold word4; omega
  have hb : 0 ≤ word4 x y z u ∧ word4 x y z u < 4294967296 := by unfold word4; omega
  cases nni
  · have g0 : bits .and .i64 (word4 x y z u / 268435456) 15 = gfcW false (word4 x y z u) := by
      rw [and_mask 4 (by omega) _ 15 (by decide) (by omega) (by omega)]; unfold gfcW; simp; omega
    have g1 : bits .and .i64 (word4 x y z u / 1048576) 255 = vpiW false (word4 x y z u) := by
      rw [and_mask 8 (by omega) _ 255 (by decide) (by omega) (by omega)]; unfold vpiW; simp
    have g2 : bits .and .i64 (word4 x y z u / 16) 65535 = word4 x y z u / 16 % 65536 := by
      rw [and_mask 16 (by omega) _ 65535 (by decide) (by omega) (by omega)]; rfl
    have g3 : bits .and .i64 (word4 x y z u / 2) 7 = word4 x y z u / 2 % 8 := by
      rw [and_mask 3 (by omega) _ 7 (by decide) (by omega) (by omega)]; rfl
    have g4 : bits .and .i64 (word4 x y z u) 1 = word4 x y z u % 2 := by
      rw [and_mask 1 (by omega) _ 1 (by decide) (by omega) (by omega)]; rfl
    rw [hn] at g0 g1 g2 g3 g4 ⊢
    exact unpack_false b off cap x y z u (x * 256) (x * 256 + y) ((x * 256 + y) * 256) ((x * 256 + y) * 256 + z) (((x * 256 + y) * 256 + z) * 256) _ w hlt (by omega) (by omega) h0 h1 h2 h3 (wrap64_id _ (by omega) (by omega)) (wrap64_id _ (by omega) (by omega)) (wrap64_id _ (by omega) (by omega)) (wrap64_id _ (by omega) (by omega)) f0 (wrap64_id _ (by omega) (by omega)) (or_plus 8 _ _ (by omega) (by omega) (by omega) (by omega) (by omega)) (wrap64_id _ (by omega) (by omega)) (or_plus 8 _ _ (by omega) (by omega) (by omega) (by omega) (by omega)) (wrap64_id _ (by omega) (by omega)) (or_plus 8 _ _ (by omega) (by omega) (by omega) (by omega) (by omega)) _ _ _ _ _ g0 g1 g2 g3 g4
  · have g0 : bits .and .i64 (word4 x y z u / 4294967296) 0 = gfcW true (word4 x y z u) := and_mask0 _
    have g1 : bits .and .i64 (word4 x y z u / 1048576) 4095 = vpiW true (word4 x y z u) := by
      rw [and_mask 12 (by omega) _ 4095 (by decide) (by omega) (by omega)]; unfold vpiW; simp; omega
    have g2 : bits .and .i64 (word4 x y z u / 16) 65535 = word4 x y z u / 16 % 65536 := by
      rw [and_mask 16 (by omega) _ 65535 (by decide) (by omega) (by omega)]; rfl
    have g3 : bits .and .i64 (word4 x y z u / 2) 7 = word4 x y z u / 2 % 8 := by
      rw [and_mask 3 (by omega) _ 7 (by decide) (by omega) (by omega)]; rfl
    have g4 : bits .and .i64 (word4 x y z u) 1 = word4 x y z u % 2 := by
      rw [and_mask 1 (by omega) _ 1 (by decide) (by omega) (by omega)]; rfl
    rw [hn] at g0 g1 g2 g3 g4 ⊢
    exact unpack_true b off cap x y z u (x * 256) (x * 256 + y) ((x * 256 + y) * 256) ((x * 256 + y) * 256 + z) (((x * 256 + y) * 256 + z) * 256) _ w hlt (by omega) (by omega) h0 h1 h2 h3 (wrap64_id _ (by omega) (by omega)) (wrap64_id _ (by omega) (by omega)) (wrap64_id _ (by omega) (by omega)) (wrap64_id _ (by omega) (by omega)) f0 (wrap64_id _ (by omega) (by omega)) (or_plus 8 _ _ (by omega) (by omega) (by omega) (by omega) (by omega)) (wrap64_id _ (by omega) (by omega)) (or_plus 8 _ _ (by omega) (by omega) (by omega) (by omega) (by omega)) (wrap64_id _ (by omega) (by omega)) (or_plus 8 _ _ (by omega) (by omega) (by omega) (by omega) (by omega)) _ _ _ _ _ g0 g1 g2 g3 g4
end Go.Proofs.Ytdlghiekcgplaaa
