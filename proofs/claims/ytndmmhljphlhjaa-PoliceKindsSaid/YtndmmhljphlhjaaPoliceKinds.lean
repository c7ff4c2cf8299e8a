/- The given law PoliceKinds, proved: for every input the call returns true, and each argument reads behind it as it read before. -/
import Derived.Test.YtndmmhljphlhjaaRows
import Derived.Test.YtndmmhljphlhjaaPolL4
import Derived.Test.YtndmmhljphlhjaaOpen
import Derived.Test.YtndmmhljphlhjaaOpenL
import Derived.WalkKit
import Derived.ProofKit
import Derived.OpenShut
import Derived.ShutString
import Derived.ChangeOld
import Derived.Below
import Derived.SizedLaws
namespace Go.Proofs.Ytndmmhljphlhjaa.policeKinds
open Go.ChangeShapes Go.WideShapes Go.ChangeAt Go.RowKit
open Go.ChangeMaps (open_string shut_string)
set_option linter.unusedVariables false
theorem own : ownKnob Try.prog.godebug = none := by kernel_rfl
theorem laid : laidOutB Try.prog = true := by kernel_rfl
set_option maxRecDepth 100000 in
theorem lifted (os : Os) (started : os.Started) (H : Type) (enc : TypeId × Value → H) :
    ReturnsInHanded {} Try.checked os 14 .any (Rows.policeKindsSpec.pre6 enc Try.prog Try.f14 Rows.policeKindsRow.domain false) (Rows.policeKindsSpec.post enc Try.prog Try.f14 false true false false) := by
  refine returnsInHanded_of_change_sized (C := Try.checked) own started (by kernel_rfl) Try.func14
    (ChangeSpec.witness6 (enc := enc) (C := Try.checked) false ⟨#[], #[.int .u16 0, .int .u16 0, .int .u16 0, .slice none 0 0], []⟩ 8 (by kernel_rfl) (by kernel_rfl) (by kernel_rfl) (by kernel_rfl)) ?_
  intro W base args ds gs before hval0 hW hcnd hsz0 _
  have hval : ∀ (j : Nat) t v, Try.f14.params[j]? = some t → args[j]? = some v → Value.okWide Try.prog W .any base t v := hval0
  have hW' := hW
  obtain ⟨p, q, hA0, hV, rfl, hfz, hnd⟩ := hW
  have hA : DataW.TrodAll enc Try.prog W 0 (fun _ => true) true Try.f14.params.toList args.toList ds p := hA0
  rw [Try.params14] at hA hval
  obtain ⟨v0, vs0, d0, ds0, p0, q0, hargs, rfl, rfl, h0, r0⟩ := trodAll_cons hA
  obtain ⟨v1, vs1, d1, ds1, p1, q1, rfl, rfl, rfl, h1, r1⟩ := trodAll_cons r0
  obtain ⟨v2, vs2, d2, ds2, p2, q2, rfl, rfl, rfl, h2, r2⟩ := trodAll_cons r1
  obtain ⟨v3, vs3, d3, ds3, p3, q3, rfl, rfl, rfl, h3, r3⟩ := trodAll_cons r2
  obtain ⟨rfl, rfl, rfl⟩ := trodAll_nil r3
  obtain rfl : args = #[v0, v1, v2, v3] := by cases args; simp_all
  obtain ⟨rfl, rfl⟩ := trodVars_none hV
  obtain ⟨a0, rfl, _, _, w0⟩ := open_int Try.underlying60 (hval 0 60 v0 rfl rfl) h0
  obtain ⟨a1, rfl, _, _, w1⟩ := open_int Try.underlying60 (hval 1 60 v1 rfl rfl) h1
  obtain ⟨a2, rfl, _, _, w2⟩ := open_int Try.underlying60 (hval 2 60 v2 rfl rfl) h2
  obtain ⟨a3, len3, cap3, cs3, rfl, hlc3, hcm3, HA3⟩ := open_u16s (n := 6) Try.underlying61 (by kernel_rfl) (by kernel_rfl) (hval 3 61 v3 rfl rfl) h3
  clear hA0 hval0 hsz0
  refine (policeKinds_any a0 a1 a2 a3 len3 cap3 cs3 W (wf_u16 w0).1 (wf_u16 w0).2 (wf_u16 w1).1 (wf_u16 w1).2 (wf_u16 w2).1 (wf_u16 w2).2 HA3 hlc3 hcm3).mono fun e W' ⟨he, bel⟩ => ?_
  subst he
  have bel : Below W.heap.size W W' := by first | exact bel | (subst bel; exact Below.refl _ _)
  exact ⟨_, rfl, _, _, _, [], _, [], hW', trodAll_mk1 (shut_bool Try.underlying4 _), (trodAll_cons_mk (keep_arg laid (by kernel_rfl) (of_decide_eq_true (by kernel_rfl)) h0 bel) (trodAll_cons_mk (keep_arg laid (by kernel_rfl) (of_decide_eq_true (by kernel_rfl)) h1 bel) (trodAll_cons_mk (keep_arg laid (by kernel_rfl) (of_decide_eq_true (by kernel_rfl)) h2 bel) (trodAll_cons_mk (keep_arg laid (by kernel_rfl) (of_decide_eq_true (by kernel_rfl)) h3 bel) trodAll_mk0)))), rfl, bel.frame _, fun h => by cases h⟩
theorem over : Rows.policeKindsRow.holds Try.pinned (OpenSpec.ofChange Rows.policeKindsSpec) :=
  OpenClaim.holds_of_wide 14 Try.f14 rfl rfl rfl rfl rfl rfl rfl ⟨rfl, rfl, rfl, rfl, rfl⟩ rfl rfl rfl rfl rfl (by kernel_rfl) Try.func14 (by kernel_rfl)
    (of_decide_eq_true (by kernel_rfl)) (by unfold Func.isWrapper; first | (rw [if_pos (by decide +kernel)]; kernel_rfl) | (rw [if_neg (by decide +kernel)]; exact ⟨rfl, rfl⟩))
    (fun os started H enc _ => lifted os started H enc)
theorem proved : Rows.PoliceKindsSaid := over
end Go.Proofs.Ytndmmhljphlhjaa.policeKinds
namespace Go.Proofs.Ytndmmhljphlhjaa
/-- The given statement. -/
theorem policeKinds_holds : Rows.PoliceKindsSaid := policeKinds.proved
#print axioms policeKinds_holds
end Go.Proofs.Ytndmmhljphlhjaa
