/- The given law RmcellPacks, proved: for every input the call returns true, and each argument reads behind it as it read before. -/
import Derived.Test.YtnjjejhniekdcaaRows
import Derived.Test.YtnjjejhniekdcaaRmL6
import Derived.Test.YtnjjejhniekdcaaOpen
import Derived.Test.YtnjjejhniekdcaaOpenR
import Derived.WalkKit
import Derived.ProofKit
import Derived.OpenShut
import Derived.ShutString
import Derived.ChangeOld
import Derived.Below
import Derived.SizedLaws
namespace Go.Proofs.Ytnjjejhniekdcaa.rmcellPacks
open Go.ChangeShapes Go.WideShapes Go.ChangeAt Go.RowKit
open Go.ChangeMaps (open_string shut_string)
set_option linter.unusedVariables false
theorem own : ownKnob Try.prog.godebug = none := by kernel_rfl
theorem laid : laidOutB Try.prog = true := by kernel_rfl
theorem fitsRm {cs : List Value} (h : fitsAll [none, none, none, none, none, some .u16, some .u16, some .u16, some .u32, some .u32] cs) : ∃ (x0 : Bool) (x1 : Bool) (x2 : Bool) (x3 : Bool) (x4 : Bool) (x5 : Int) (x6 : Int) (x7 : Int) (x8 : Int) (x9 : Int), cs = [.bool x0, .bool x1, .bool x2, .bool x3, .bool x4, .int .u16 x5, .int .u16 x6, .int .u16 x7, .int .u32 x8, .int .u32 x9] ∧ (Lit.int .u16 x5).wf = true ∧ (Lit.int .u16 x6).wf = true ∧ (Lit.int .u16 x7).wf = true ∧ (Lit.int .u32 x8).wf = true ∧ (Lit.int .u32 x9).wf = true := by
  obtain ⟨_, _, rfl, ⟨x0, rfl⟩, g0⟩ := fits_cons h
  obtain ⟨_, _, rfl, ⟨x1, rfl⟩, g1⟩ := fits_cons g0
  obtain ⟨_, _, rfl, ⟨x2, rfl⟩, g2⟩ := fits_cons g1
  obtain ⟨_, _, rfl, ⟨x3, rfl⟩, g3⟩ := fits_cons g2
  obtain ⟨_, _, rfl, ⟨x4, rfl⟩, g4⟩ := fits_cons g3
  obtain ⟨_, _, rfl, ⟨x5, rfl, w5⟩, g5⟩ := fits_cons g4
  obtain ⟨_, _, rfl, ⟨x6, rfl, w6⟩, g6⟩ := fits_cons g5
  obtain ⟨_, _, rfl, ⟨x7, rfl, w7⟩, g7⟩ := fits_cons g6
  obtain ⟨_, _, rfl, ⟨x8, rfl, w8⟩, g8⟩ := fits_cons g7
  obtain ⟨_, _, rfl, ⟨x9, rfl, w9⟩, g9⟩ := fits_cons g8
  obtain rfl := fits_nil g9
  exact ⟨x0, x1, x2, x3, x4, x5, x6, x7, x8, x9, rfl, w5, w6, w7, w8, w9⟩
set_option maxRecDepth 100000 in
theorem lifted (os : Os) (started : os.Started) (H : Type) (enc : TypeId × Value → H) :
    ReturnsInHanded {} Try.checked os 3 .any (Rows.rmcellPacksSpec.pre6 enc Try.prog Try.f3 Rows.rmcellPacksRow.domain false) (Rows.rmcellPacksSpec.post enc Try.prog Try.f3 false true false false) := by
  refine returnsInHanded_of_change_sized (C := Try.checked) own started (by kernel_rfl) Try.func3
    (ChangeSpec.witness6 (enc := enc) (C := Try.checked) false ⟨#[], #[.agg #[.bool false, .bool false, .bool false, .bool false, .bool false, .int .u16 0, .int .u16 0, .int .u16 0, .int .u32 0, .int .u32 0], .agg #[.int .u8 0, .int .u8 0, .int .u8 0, .int .u8 0, .int .u8 0, .int .u8 0, .int .u8 0, .int .u8 0, .int .u8 0, .int .u8 0, .int .u8 0, .int .u8 0, .int .u8 0, .int .u8 0, .int .u8 0, .int .u8 0, .int .u8 0, .int .u8 0, .int .u8 0, .int .u8 0, .int .u8 0, .int .u8 0, .int .u8 0, .int .u8 0, .int .u8 0, .int .u8 0, .int .u8 0, .int .u8 0, .int .u8 0, .int .u8 0, .int .u8 0, .int .u8 0, .int .u8 0, .int .u8 0, .int .u8 0, .int .u8 0, .int .u8 0, .int .u8 0, .int .u8 0, .int .u8 0, .int .u8 0, .int .u8 0, .int .u8 0, .int .u8 0, .int .u8 0, .int .u8 0, .int .u8 0, .int .u8 0]], []⟩ 8 (by kernel_rfl) (by kernel_rfl) (by kernel_rfl) (by kernel_rfl)) ?_
  intro W base args ds gs before hval0 hW hcnd hsz0 _
  have hval : ∀ (j : Nat) t v, Try.f3.params[j]? = some t → args[j]? = some v → Value.okWide Try.prog W .any base t v := hval0
  have hW' := hW
  obtain ⟨p, q, hA0, hV, rfl, hfz, hnd⟩ := hW
  have hA : DataW.TrodAll enc Try.prog W 0 (fun _ => true) true Try.f3.params.toList args.toList ds p := hA0
  rw [Try.params3] at hA hval
  obtain ⟨v0, vs0, d0, ds0, p0, q0, hargs, rfl, rfl, h0, r0⟩ := trodAll_cons hA
  obtain ⟨v1, vs1, d1, ds1, p1, q1, rfl, rfl, rfl, h1, r1⟩ := trodAll_cons r0
  obtain ⟨rfl, rfl, rfl⟩ := trodAll_nil r1
  obtain rfl : args = #[v0, v1] := by cases args; simp_all
  obtain ⟨rfl, rfl⟩ := trodVars_none hV
  obtain ⟨cs0, rfl, fl0⟩ := open_flat (n := 6) (ls := [none, none, none, none, none, some .u16, some .u16, some .u16, some .u32, some .u32]) (by kernel_rfl) (by kernel_rfl) (hval 0 25 v0 rfl rfl) h0
  obtain ⟨a0_0, a0_1, a0_2, a0_3, a0_4, a0_5, a0_6, a0_7, a0_8, a0_9, rfl, w0_5, w0_6, w0_7, w0_8, w0_9⟩ := fitsRm fl0
  obtain ⟨cs1, rfl, fl1⟩ := open_flat (n := 6) (ls := List.replicate 48 (some .u8)) (by kernel_rfl) (by kernel_rfl) (hval 1 26 v1 rfl rfl) h1
  obtain ⟨zs1, hcs1, hl1, hz1⟩ := fits_bytes fl1
  subst hcs1
  clear hA0 hval0 hsz0
  refine (rmcellPacks_any a0_0 a0_1 a0_2 a0_3 a0_4 a0_5 a0_6 a0_7 a0_8 a0_9 zs1 W (wf_u16 w0_5).1 (wf_u16 w0_5).2 (wf_u16 w0_6).1 (wf_u16 w0_6).2 (wf_u16 w0_7).1 (wf_u16 w0_7).2 (wf_u32 w0_8).1 (wf_u32 w0_8).2 (wf_u32 w0_9).1 (wf_u32 w0_9).2 hl1 hz1).mono fun e W' ⟨he, bel⟩ => ?_
  subst he
  have bel : Below W.heap.size W W' := by first | exact bel | (subst bel; exact Below.refl _ _)
  exact ⟨_, rfl, _, _, _, [], _, [], hW', trodAll_mk1 (shut_bool Try.underlying4 _), (trodAll_cons_mk (keep_arg laid (by kernel_rfl) (of_decide_eq_true (by kernel_rfl)) h0 bel) (trodAll_cons_mk (keep_arg laid (by kernel_rfl) (of_decide_eq_true (by kernel_rfl)) h1 bel) trodAll_mk0)), rfl, bel.frame _, fun h => by cases h⟩
theorem over : Rows.rmcellPacksRow.holds Try.pinned (OpenSpec.ofChange Rows.rmcellPacksSpec) :=
  OpenClaim.holds_of_wide 3 Try.f3 rfl rfl rfl rfl rfl rfl rfl ⟨rfl, rfl, rfl, rfl, rfl⟩ rfl rfl rfl rfl rfl (by kernel_rfl) Try.func3 (by kernel_rfl)
    (of_decide_eq_true (by kernel_rfl)) (by unfold Func.isWrapper; first | (rw [if_pos (by decide +kernel)]; kernel_rfl) | (rw [if_neg (by decide +kernel)]; exact ⟨rfl, rfl⟩))
    (fun os started H enc _ => lifted os started H enc)
theorem proved : Rows.RmcellPacksSaid := over
end Go.Proofs.Ytnjjejhniekdcaa.rmcellPacks
namespace Go.Proofs.Ytnjjejhniekdcaa
/-- The given statement. -/
theorem rmcellPacks_holds : Rows.RmcellPacksSaid := rmcellPacks.proved
#print axioms rmcellPacks_holds
end Go.Proofs.Ytnjjejhniekdcaa
