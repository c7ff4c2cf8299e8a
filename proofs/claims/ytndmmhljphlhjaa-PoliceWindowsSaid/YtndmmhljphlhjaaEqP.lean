/- Are two arrays of four counts alike? One equation of the walk. -/
import Derived.Test.YtndmmhljphlhjaaPolC
import Derived.DeepKeys
import Derived.Laws.StructEq
namespace Go.Proofs.Ytndmmhljphlhjaa
set_option linter.unusedVariables false
open Go.RowKit
theorem eq_run {P : Program} {t : TypeId} {w : World} {d m D D' : Nat} {xs ys : Array Value} {lx ly : List Lit} {b : Bool} (hd : d + m = 10000) (hk : P.keyTypeAt m t = true) (fx : (Value.agg xs).formed P t = true) (fy : (Value.agg ys).formed P t = true)
    (hx : P.keyLits D t xs.toList = some lx) (hy : P.keyLits D' t ys.toList = some ly) (hb : b = true ↔ lx = ly) : (binOp .eql t (.agg xs) (.agg ys)).run P w = .ok (.bool b) w := by
  obtain ⟨r, hr, hiff⟩ := run_equalIn_deep d m t hk w D D' (.agg xs) (.agg ys) lx ly fx fy hx hy
  rw [hd] at hr
  rw [run_eql_struct, hr, Result.andThen_ok]
  have : r = b := by rw [Bool.eq_iff_iff, hiff, hb]
  rw [this]
theorem neq_run {P : Program} {t : TypeId} {w : World} {d m D D' : Nat} {xs ys : Array Value} {lx ly : List Lit} {b : Bool} (hd : d + m = 10000) (hk : P.keyTypeAt m t = true) (fx : (Value.agg xs).formed P t = true) (fy : (Value.agg ys).formed P t = true)
    (hx : P.keyLits D t xs.toList = some lx) (hy : P.keyLits D' t ys.toList = some ly) (hb : b = true ↔ lx = ly) : (binOp .neq t (.agg xs) (.agg ys)).run P w = .ok (.bool (!b)) w := by
  obtain ⟨r, hr, hiff⟩ := run_equalIn_deep d m t hk w D D' (.agg xs) (.agg ys) lx ly fx fy hx hy
  rw [hd] at hr
  rw [run_neq_struct, hr, Result.andThen_ok]
  have : r = b := by rw [Bool.eq_iff_iff, hiff, hb]
  rw [this]
theorem mapM_some {α β : Type} {f : α → Option β} {g : α → β} : ∀ {l : List α}, (∀ x ∈ l, f x = some (g x)) → l.mapM f = some (l.map g)
  | [], _ => rfl
  | a :: l, h => by
    rw [List.mapM_cons, h a (by simp), mapM_some (l := l) (fun x hx => h x (by simp [hx]))]
    rfl
theorem keyLits_ints {P : Program} {t e : TypeId} {n D : Nat} {k : IntKind} (hu : P.underlying t = some (.array n e)) (he : P.underlying e = some (.int k)) (hc : P.cellsOf t = n) (hce : P.cellsOf e = 1) (zs : List Int) (hz : zs.length = n) (hw : ∀ z ∈ zs, (Lit.int k z).wf = true) :
    P.keyLits (D + 2) t (zs.map (Value.int k)) = some (zs.map (Lit.int k)) := by
  unfold Program.keyLits
  simp only [hu, hc, hce, List.length_map, hz, if_true]
  rw [mapM_some (g := fun i => [Lit.int k (zs[i]?.getD 0)])]
  · simp only [Option.map_some, Option.some.injEq]
    apply List.ext_getElem?
    intro i
    rw [show (List.map (fun i => [Lit.int k (zs[i]?.getD 0)]) (List.range n)).flatten = (List.range n).map (fun i => Lit.int k (zs[i]?.getD 0)) by
      induction (List.range n) with
      | nil => rfl
      | cons a l ih => rw [List.map_cons, List.flatten_cons, ih]; rfl]
    rw [List.getElem?_map, List.getElem?_map]
    by_cases hi : i < n
    · have hi' : i < zs.length := by omega
      rw [List.getElem?_range hi, List.getElem?_eq_getElem hi']; simp [hi']
    · rw [List.getElem?_eq_none (by simp; omega), List.getElem?_eq_none (by omega)]; rfl
  · intro i hi
    simp only [List.mem_range] at hi
    have hi' : i < zs.length := by omega
    have e1 : ((zs.map (Value.int k)).drop (i * 1)).take 1 = [Value.int k zs[i]] := by
      rw [Nat.mul_one, List.drop_eq_getElem_cons (by simpa using hi')]; simp
    rw [e1]
    unfold Program.keyLits
    simp [he, hw _ (List.getElem_mem hi'), hi']
theorem wf_of_i64 {x : Int} (h0 : -9223372036854775808 ≤ x) (h1 : x ≤ 9223372036854775807) : (Lit.int .i64 x).wf = true := by
  have a : IntKind.i64.min = -9223372036854775808 := rfl
  have b : IntKind.i64.max = 9223372036854775807 := rfl
  simp [Lit.wf]; omega
theorem eq_fourI {x y z u x' y' z' u' : Int} {b : Bool} (hb : b = true ↔ x = x' ∧ y = y' ∧ z = z' ∧ u = u') (bx : ∀ v ∈ [x, y, z, u], 0 ≤ v ∧ v ≤ 1000000) (by' : ∀ v ∈ [x', y', z', u'], 0 ≤ v ∧ v ≤ 1000000) (w : World) :
    (binOp .eql 55 (.agg #[.int .i64 x, .int .i64 y, .int .i64 z, .int .i64 u]) (.agg #[.int .i64 x', .int .i64 y', .int .i64 z', .int .i64 u'])).run Try.prog w = .ok (.bool b) w := by
  refine eq_run (d := 9996) (m := 4) (D := 6) (D' := 6) (lx := [x, y, z, u].map (Lit.int .i64)) (ly := [x', y', z', u'].map (Lit.int .i64)) rfl (by kernel_rfl) (by kernel_rfl) (by kernel_rfl) ?_ ?_ ?_
  · exact keyLits_ints (n := 4) Try.underlying55 Try.underlying3 (by kernel_rfl) (by kernel_rfl) [x, y, z, u] rfl (fun z hz => wf_of_i64 (by have := bx z hz; omega) (by have := bx z hz; omega))
  · exact keyLits_ints (n := 4) Try.underlying55 Try.underlying3 (by kernel_rfl) (by kernel_rfl) [x', y', z', u'] rfl (fun z hz => wf_of_i64 (by have := by' z hz; omega) (by have := by' z hz; omega))
  · rw [hb]; simp
end Go.Proofs.Ytndmmhljphlhjaa
