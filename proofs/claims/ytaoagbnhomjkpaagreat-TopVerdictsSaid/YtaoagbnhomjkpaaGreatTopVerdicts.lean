/- The given law TopVerdicts, proved: for every input the call returns true, and each argument reads behind it as it read before. -/
import Derived.Test.YtaoagbnhomjkpaaGreatRows
import Derived.WalkKit
import Derived.ProofKit
import Derived.OpenShut
import Derived.ShutString
import Derived.ChangeOld
import Derived.Below
import Derived.SizedLaws
import Derived.Test.YtaoagbnhomjkpaaGreatZTopVerdicts03
import Derived.Test.YtaoagbnhomjkpaaGreatZTopVerdicts04
namespace Go.Proofs.YtaoagbnhomjkpaaGreat.topVerdicts
open Go.ChangeShapes Go.WideShapes Go.ChangeAt Go.RowKit
open Go.ChangeMaps (open_string shut_string)
set_option linter.unusedVariables false
theorem own : ownKnob Tryz.prog.godebug = none := by kernel_rfl
theorem laid : laidOutB Tryz.prog = true := by kernel_rfl
theorem fitsC {cs : List Value} (h : fitsAll [some .i64, some .i64, some .i64, some .i64, some .i64, some .i64] cs) : ∃ (x0 : Int) (x1 : Int) (x2 : Int) (x3 : Int) (x4 : Int) (x5 : Int), cs = [.int .i64 x0, .int .i64 x1, .int .i64 x2, .int .i64 x3, .int .i64 x4, .int .i64 x5] ∧ (Lit.int .i64 x0).wf = true ∧ (Lit.int .i64 x1).wf = true ∧ (Lit.int .i64 x2).wf = true ∧ (Lit.int .i64 x3).wf = true ∧ (Lit.int .i64 x4).wf = true ∧ (Lit.int .i64 x5).wf = true := by
  obtain ⟨_, _, rfl, ⟨x0, rfl, w0⟩, g0⟩ := fits_cons h
  obtain ⟨_, _, rfl, ⟨x1, rfl, w1⟩, g1⟩ := fits_cons g0
  obtain ⟨_, _, rfl, ⟨x2, rfl, w2⟩, g2⟩ := fits_cons g1
  obtain ⟨_, _, rfl, ⟨x3, rfl, w3⟩, g3⟩ := fits_cons g2
  obtain ⟨_, _, rfl, ⟨x4, rfl, w4⟩, g4⟩ := fits_cons g3
  obtain ⟨_, _, rfl, ⟨x5, rfl, w5⟩, g5⟩ := fits_cons g4
  obtain rfl := fits_nil g5
  exact ⟨x0, x1, x2, x3, x4, x5, rfl, w0, w1, w2, w3, w4, w5⟩
set_option maxRecDepth 100000 in
theorem lifted (os : Os) (started : os.Started) (H : Type) (enc : TypeId × Value → H) :
    ReturnsInHanded {} Tryz.checked os 4 .any (Rows.topVerdictsSpec.pre6 enc Tryz.prog Tryz.f4 Rows.topVerdictsRow.domain false) (Rows.topVerdictsSpec.post enc Tryz.prog Tryz.f4 false true false false) := by
  refine returnsInHanded_of_change_sized (C := Tryz.checked) own started (by kernel_rfl) Tryz.func4
    (ChangeSpec.witness6 (enc := enc) (C := Tryz.checked) false ⟨#[], #[.agg #[.int .i64 0, .int .i64 0, .int .i64 0, .int .i64 0, .int .i64 0, .int .i64 0], .slice none 0 0], []⟩ 8 (by kernel_rfl) (by kernel_rfl) (by kernel_rfl) (by kernel_rfl)) ?_
  intro W base args ds gs before hval0 hW hcnd hsz0 _
  have hval : ∀ (j : Nat) t v, Tryz.f4.params[j]? = some t → args[j]? = some v → Value.okWide Tryz.prog W .any base t v := hval0
  have hW' := hW
  obtain ⟨p, q, hA0, hV, rfl, hfz, hnd⟩ := hW
  have hA : DataW.TrodAll enc Tryz.prog W 0 (fun _ => true) true Tryz.f4.params.toList args.toList ds p := hA0
  rw [Tryz.params4] at hA hval
  obtain ⟨v0, vs0, d0, ds0, p0, q0, hargs, rfl, rfl, h0, r0⟩ := trodAll_cons hA
  obtain ⟨v1, vs1, d1, ds1, p1, q1, rfl, rfl, rfl, h1, r1⟩ := trodAll_cons r0
  obtain ⟨rfl, rfl, rfl⟩ := trodAll_nil r1
  obtain rfl : args = #[v0, v1] := by cases args; simp_all
  obtain ⟨rfl, rfl⟩ := trodVars_none hV
  obtain ⟨cs0, rfl, fl0⟩ := open_flat (n := 6) (ls := [some .i64, some .i64, some .i64, some .i64, some .i64, some .i64]) (by kernel_rfl) (by kernel_rfl) (hval 0 23 v0 rfl rfl) h0
  obtain ⟨a0_0, a0_1, a0_2, a0_3, a0_4, a0_5, rfl, w0_0, w0_1, w0_2, w0_3, w0_4, w0_5⟩ := fitsC fl0
  obtain ⟨a1, len1, cap1, cs1, rfl, hlc1, hcm1, HA1⟩ := open_cls (n := 6) Tryz.underlying46 (by kernel_rfl) (by kernel_rfl) (hval 1 46 v1 rfl rfl) h1
  clear hA0 hval0 hsz0
  refine (topVerdicts_any a0_0 a0_1 a0_2 a0_3 a0_4 a0_5 a1 len1 cap1 cs1 W HA1 hlc1 hcm1).mono fun e W' ⟨he, bel⟩ => ?_
  subst he
  have bel : Below W.heap.size W W' := by first | exact bel | (subst bel; exact Below.refl _ _)
  exact ⟨_, rfl, _, _, _, [], _, [], hW', trodAll_mk1 (shut_bool Tryz.underlying4 _), (trodAll_cons_mk (keep_arg laid (by kernel_rfl) (of_decide_eq_true (by kernel_rfl)) h0 bel) (trodAll_cons_mk (keep_arg laid (by kernel_rfl) (of_decide_eq_true (by kernel_rfl)) h1 bel) trodAll_mk0)), rfl, bel.frame _, fun h => by cases h⟩
theorem over : Rows.topVerdictsRow.holds Tryz.pinned (OpenSpec.ofChange Rows.topVerdictsSpec) :=
  OpenClaim.holds_of_wide 4 Tryz.f4 rfl rfl rfl rfl rfl rfl rfl ⟨rfl, rfl, rfl, rfl, rfl⟩ rfl rfl rfl rfl rfl (by kernel_rfl) Tryz.func4 (by kernel_rfl)
    (of_decide_eq_true (by kernel_rfl)) (by unfold Func.isWrapper; first | (rw [if_pos (by decide +kernel)]; kernel_rfl) | (rw [if_neg (by decide +kernel)]; exact ⟨rfl, rfl⟩))
    (fun os started H enc _ => lifted os started H enc)
theorem proved : Rows.TopVerdictsSaid := over
end Go.Proofs.YtaoagbnhomjkpaaGreat.topVerdicts
namespace Go.Proofs.YtaoagbnhomjkpaaGreat
/-- The given statement. -/
theorem topVerdicts_holds : Rows.TopVerdictsSaid := topVerdicts.proved
#print axioms topVerdicts_holds
end Go.Proofs.YtaoagbnhomjkpaaGreat
