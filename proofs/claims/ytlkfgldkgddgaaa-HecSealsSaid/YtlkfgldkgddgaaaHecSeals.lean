/- The given law HecSeals, proved: for every input the call returns true, and each argument reads behind it as it read before. -/
import Derived.Test.YtlkfgldkgddgaaaRows
import Derived.Test.YtlkfgldkgddgaaaHecD
import Derived.Test.YtlkfgldkgddgaaaOpen
import Derived.Test.YtlkfgldkgddgaaaOpenF
import Derived.WalkKit
import Derived.ProofKit
import Derived.OpenShut
import Derived.ShutString
import Derived.ChangeOld
import Derived.Below
import Derived.SizedLaws
namespace Go.Proofs.Ytlkfgldkgddgaaa.hecSeals
open Go.ChangeShapes Go.WideShapes Go.ChangeAt Go.RowKit
open Go.ChangeMaps (open_string shut_string)
set_option linter.unusedVariables false
theorem own : ownKnob Try.prog.godebug = none := by kernel_rfl
theorem laid : laidOutB Try.prog = true := by kernel_rfl
theorem fitsa4 {cs : List Value} (h : fitsAll [some .u8, some .u8, some .u8, some .u8] cs) : ∃ (x0 : Int) (x1 : Int) (x2 : Int) (x3 : Int), cs = [.int .u8 x0, .int .u8 x1, .int .u8 x2, .int .u8 x3] ∧ (Lit.int .u8 x0).wf = true ∧ (Lit.int .u8 x1).wf = true ∧ (Lit.int .u8 x2).wf = true ∧ (Lit.int .u8 x3).wf = true := by
  obtain ⟨_, _, rfl, ⟨x0, rfl, w0⟩, g0⟩ := fits_cons h
  obtain ⟨_, _, rfl, ⟨x1, rfl, w1⟩, g1⟩ := fits_cons g0
  obtain ⟨_, _, rfl, ⟨x2, rfl, w2⟩, g2⟩ := fits_cons g1
  obtain ⟨_, _, rfl, ⟨x3, rfl, w3⟩, g3⟩ := fits_cons g2
  obtain rfl := fits_nil g3
  exact ⟨x0, x1, x2, x3, rfl, w0, w1, w2, w3⟩
set_option maxRecDepth 100000 in
theorem lifted (os : Os) (started : os.Started) (H : Type) (enc : TypeId × Value → H) :
    ReturnsInHanded {} Try.checked os 10 .any (Rows.hecSealsSpec.pre6 enc Try.prog Try.f10 Rows.hecSealsRow.domain false) (Rows.hecSealsSpec.post enc Try.prog Try.f10 false true false false) := by
  refine returnsInHanded_of_change_sized (C := Try.checked) own started (by kernel_rfl) Try.func10
    (ChangeSpec.witness6 (enc := enc) (C := Try.checked) false ⟨#[], #[.slice none 0 0, .agg #[.int .u8 0, .int .u8 0, .int .u8 0, .int .u8 0]], []⟩ 8 (by kernel_rfl) (by kernel_rfl) (by kernel_rfl) (by kernel_rfl)) ?_
  intro W base args ds gs before hval0 hW hcnd hsz0 _
  have hval : ∀ (j : Nat) t v, Try.f10.params[j]? = some t → args[j]? = some v → Value.okWide Try.prog W .any base t v := hval0
  have hW' := hW
  obtain ⟨p, q, hA0, hV, rfl, hfz, hnd⟩ := hW
  have hA : DataW.TrodAll enc Try.prog W 0 (fun _ => true) true Try.f10.params.toList args.toList ds p := hA0
  rw [Try.params10] at hA hval
  obtain ⟨v0, vs0, d0, ds0, p0, q0, hargs, rfl, rfl, h0, r0⟩ := trodAll_cons hA
  obtain ⟨v1, vs1, d1, ds1, p1, q1, rfl, rfl, rfl, h1, r1⟩ := trodAll_cons r0
  obtain ⟨rfl, rfl, rfl⟩ := trodAll_nil r1
  obtain rfl : args = #[v0, v1] := by cases args; simp_all
  obtain ⟨rfl, rfl⟩ := trodVars_none hV
  obtain ⟨a0, len0, cap0, f0, rfl, hlc0, hcm0, HA0, NA0⟩ := open_arrs (n := 4) (m := 5) Try.underlying43 (by kernel_rfl) (by decide) (by kernel_rfl) (hval 0 43 v0 rfl rfl) h0
  obtain ⟨cs1, rfl, fl1⟩ := open_flat (n := 6) (ls := [some .u8, some .u8, some .u8, some .u8]) (by kernel_rfl) (by kernel_rfl) (hval 1 22 v1 rfl rfl) h1
  obtain ⟨a1_0, a1_1, a1_2, a1_3, rfl, w1_0, w1_1, w1_2, w1_3⟩ := fitsa4 fl1
  clear hA0 hval0 hsz0
  refine (hecSeals_any a0 len0 cap0 f0 a1_0 a1_1 a1_2 a1_3 W HA0 (wf_u8 w1_0).1 (wf_u8 w1_0).2 (wf_u8 w1_1).1 (wf_u8 w1_1).2 (wf_u8 w1_2).1 (wf_u8 w1_2).2 (wf_u8 w1_3).1 (wf_u8 w1_3).2).mono fun e W' ⟨he, bel⟩ => ?_
  subst he
  have bel : Below W.heap.size W W' := by first | exact bel | (subst bel; exact Below.refl _ _)
  exact ⟨_, rfl, _, _, _, [], _, [], hW', trodAll_mk1 (shut_bool Try.underlying4 _), (trodAll_cons_mk (keep_arg laid (by kernel_rfl) (of_decide_eq_true (by kernel_rfl)) h0 bel) (trodAll_cons_mk (keep_arg laid (by kernel_rfl) (of_decide_eq_true (by kernel_rfl)) h1 bel) trodAll_mk0)), rfl, bel.frame _, fun h => by cases h⟩
theorem over : Rows.hecSealsRow.holds Try.pinned (OpenSpec.ofChange Rows.hecSealsSpec) :=
  OpenClaim.holds_of_wide 10 Try.f10 rfl rfl rfl rfl rfl rfl rfl ⟨rfl, rfl, rfl, rfl, rfl⟩ rfl rfl rfl rfl rfl (by kernel_rfl) Try.func10 (by kernel_rfl)
    (of_decide_eq_true (by kernel_rfl)) (by unfold Func.isWrapper; first | (rw [if_pos (by decide +kernel)]; kernel_rfl) | (rw [if_neg (by decide +kernel)]; exact ⟨rfl, rfl⟩))
    (fun os started H enc _ => lifted os started H enc)
theorem proved : Rows.HecSealsSaid := over
end Go.Proofs.Ytlkfgldkgddgaaa.hecSeals
namespace Go.Proofs.Ytlkfgldkgddgaaa
/-- The given statement. -/
theorem hecSeals_holds : Rows.HecSealsSaid := hecSeals.proved
#print axioms hecSeals_holds
end Go.Proofs.Ytlkfgldkgddgaaa
