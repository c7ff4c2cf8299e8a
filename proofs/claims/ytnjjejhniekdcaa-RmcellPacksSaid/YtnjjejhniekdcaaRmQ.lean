/- Are two of what cells tell alike? Pack, as one. -/
import Derived.Test.YtnjjejhniekdcaaRmA2
namespace Go.Proofs.Ytnjjejhniekdcaa
set_option linter.unusedVariables false
set_option linter.unusedSimpArgs false
open Go.RowKit
set_option maxRecDepth 100000
set_option maxHeartbeats 4000000
theorem wf_16 {x : Int} (h0 : 0 ≤ x) (h1 : x < 65536) : (Lit.int .u16 x).wf = true := by
  have a : IntKind.u16.min = 0 := rfl
  have b : IntKind.u16.max = 65535 := rfl
  simp [Lit.wf]; omega
theorem wf_32 {x : Int} (h0 : 0 ≤ x) (h1 : x < 4294967296) : (Lit.int .u32 x).wf = true := by
  have a : IntKind.u32.min = 0 := rfl
  have b : IntKind.u32.max = 4294967295 := rfl
  simp [Lit.wf]; omega
abbrev rmL (bk nr ci ni ra : Bool) (er cc mc ql sn : Int) : List Lit := [.bool bk, .bool nr, .bool ci, .bool ni, .bool ra, .int .u16 er, .int .u16 cc, .int .u16 mc, .int .u32 ql, .int .u32 sn]
section
variable {bk nr ci ni ra : Bool} {er cc mc ql sn : Int}
theorem lits_leaf {D : Nat} : (∀ b : Bool, Try.prog.keyLits (D + 1) 4 [.bool b] = some [.bool b]) ∧ (∀ x : Int, (Lit.int .u16 x).wf = true → Try.prog.keyLits (D + 1) 22 [.int .u16 x] = some [.int .u16 x]) ∧ (∀ x : Int, (Lit.int .u32 x).wf = true → Try.prog.keyLits (D + 1) 23 [.int .u32 x] = some [.int .u32 x]) := by
  refine ⟨fun b => ?_, fun x hx => ?_, fun x hx => ?_⟩
  · unfold Program.keyLits; simp [Try.underlying4]
  · unfold Program.keyLits; simp [Try.underlying22, hx]
  · unfold Program.keyLits; simp [Try.underlying23, hx]
theorem lits_31 {D : Nat} (h5 : (Lit.int .u16 er).wf = true) (h6 : (Lit.int .u16 cc).wf = true) (h7 : (Lit.int .u16 mc).wf = true) (h8 : (Lit.int .u32 ql).wf = true) (h9 : (Lit.int .u32 sn).wf = true) :
    Try.prog.keyLits (D + 2) 31 (rmV bk nr ci ni ra er cc mc ql sn) = some (rmL bk nr ci ni ra er cc mc ql sn) := by
  obtain ⟨l1, l2, l3⟩ := lits_leaf (D := D)
  have b1 : Try.prog.cellsOf 4 = 1 := by kernel_rfl
  have b2 : Try.prog.cellsOf 22 = 1 := by kernel_rfl
  have b3 : Try.prog.cellsOf 23 = 1 := by kernel_rfl
  have hh : Try.prog.cellsOf 31 = 10 := by kernel_rfl
  unfold Program.keyLits
  simp [Try.underlying31, b1, b2, b3, hh, l1, l2, l3, h5, h6, h7, h8, h9]
theorem lits_25 {D : Nat} (h5 : (Lit.int .u16 er).wf = true) (h6 : (Lit.int .u16 cc).wf = true) (h7 : (Lit.int .u16 mc).wf = true) (h8 : (Lit.int .u32 ql).wf = true) (h9 : (Lit.int .u32 sn).wf = true) :
    Try.prog.keyLits (D + 2) 25 (rmV bk nr ci ni ra er cc mc ql sn) = some (rmL bk nr ci ni ra er cc mc ql sn) := by
  obtain ⟨l1, l2, l3⟩ := lits_leaf (D := D)
  have b1 : Try.prog.cellsOf 4 = 1 := by kernel_rfl
  have b2 : Try.prog.cellsOf 22 = 1 := by kernel_rfl
  have b3 : Try.prog.cellsOf 23 = 1 := by kernel_rfl
  have hh : Try.prog.cellsOf 25 = 10 := by kernel_rfl
  unfold Program.keyLits
  simp [Try.underlying25, b1, b2, b3, hh, l1, l2, l3, h5, h6, h7, h8, h9]
end
/-- the numbers of what a cell tells are numbers of their kinds. -/
structure RmOk (er cc mc ql sn : Int) : Prop where
  e0 : 0 ≤ er
  e1 : er < 65536
  c0 : 0 ≤ cc
  c1 : cc < 65536
  m0 : 0 ≤ mc
  m1 : mc < 65536
  q0 : 0 ≤ ql
  q1 : ql < 4294967296
  s0 : 0 ≤ sn
  s1 : sn < 4294967296
theorem eq_rm {t : TypeId} (ht : t = 31 ∨ t = 25) {bk nr ci ni ra bk' nr' ci' ni' ra' : Bool} {er cc mc ql sn er' cc' mc' ql' sn' : Int} (h : RmOk er cc mc ql sn) (h' : RmOk er' cc' mc' ql' sn') {b : Bool} (hb : b = true ↔ rmL bk nr ci ni ra er cc mc ql sn = rmL bk' nr' ci' ni' ra' er' cc' mc' ql' sn') (w : World) :
    (binOp .eql t (.agg (rmV bk nr ci ni ra er cc mc ql sn).toArray) (.agg (rmV bk' nr' ci' ni' ra' er' cc' mc' ql' sn').toArray)).run Try.prog w = .ok (.bool b) w := by
  have c31 : Try.prog.cellsOf 31 = 10 := by kernel_rfl
  have c25 : Try.prog.cellsOf 25 = 10 := by kernel_rfl
  rcases ht with rfl | rfl
  · exact eq_run (d := 9996) (m := 4) (D := 6) (D' := 6) rfl (by kernel_rfl) (by simp [Value.formed, Try.underlying31, c31]) (by simp [Value.formed, Try.underlying31, c31])
      (lits_31 (wf_16 h.e0 h.e1) (wf_16 h.c0 h.c1) (wf_16 h.m0 h.m1) (wf_32 h.q0 h.q1) (wf_32 h.s0 h.s1)) (lits_31 (wf_16 h'.e0 h'.e1) (wf_16 h'.c0 h'.c1) (wf_16 h'.m0 h'.m1) (wf_32 h'.q0 h'.q1) (wf_32 h'.s0 h'.s1)) hb
  · exact eq_run (d := 9996) (m := 4) (D := 6) (D' := 6) rfl (by kernel_rfl) (by simp [Value.formed, Try.underlying25, c25]) (by simp [Value.formed, Try.underlying25, c25])
      (lits_25 (wf_16 h.e0 h.e1) (wf_16 h.c0 h.c1) (wf_16 h.m0 h.m1) (wf_32 h.q0 h.q1) (wf_32 h.s0 h.s1)) (lits_25 (wf_16 h'.e0 h'.e1) (wf_16 h'.c0 h'.c1) (wf_16 h'.m0 h'.m1) (wf_32 h'.q0 h'.q1) (wf_32 h'.s0 h'.s1)) hb
def pkZ (bk nr ci ni ra : Bool) (er cc mc ql sn : Int) : List Int := if rights er cc mc = true then sealZ (packZ bk nr ci ni ra er cc mc ql sn) else z48
theorem pkZ_len (bk nr ci ni ra : Bool) (er cc mc ql sn : Int) : (pkZ bk nr ci ni ra er cc mc ql sn).length = 48 := by
  unfold pkZ; split
  · exact (sealZ_len _).trans (packZ_len ..)
  · rfl
theorem pkZ_B (bk nr ci ni ra : Bool) (er cc mc ql sn : Int) : allB (pkZ bk nr ci ni ra er cc mc ql sn) := by
  unfold pkZ; split
  · exact sealZ_B (packZ_B _ _ _ _ _ _ _ _ _ _)
  · exact z48_B
theorem pack_all (bk nr ci ni ra : Bool) (er cc mc ql sn : Int) (w : World) (h : RmOk er cc mc ql sn) {E : Int} (hE : Hid (E = if rights er cc mc = true then 0 else 1)) :
    Calls Try.prog 10 #[.agg (rmV bk nr ci ni ra er cc mc ql sn).toArray] w fun e w' => ∃ X, e = .returned (.tuple #[.agg X, .int .i64 E]) ∧ Hid (X = (u8s (pkZ bk nr ci ni ra er cc mc ql sn)).toArray) ∧ Below w.heap.size w w' := by
  rw [hE.out]
  unfold pkZ
  cases hr : rights er cc mc with
  | true =>
    refine (pack_yes bk nr ci ni ra er cc mc ql sn w h.e0 h.e1 h.c0 h.c1 h.m0 h.m1 h.q0 h.q1 h.s0 h.s1 hr).mono ?_
    rintro e w' ⟨⟨X, he, hX⟩, hb⟩
    exact ⟨X, he, hX, hb⟩
  | false =>
    refine (pack_no bk nr ci ni ra er cc mc ql sn w h.e0 h.e1 h.c0 h.c1 h.m0 h.m1 hr).mono ?_
    rintro e w' ⟨⟨X, he, hX⟩, hb⟩
    exact ⟨X, he, hX, hb⟩
/-- unlike ones have unlike payloads. -/
theorem pack_inj {bk nr ci ni ra bk' nr' ci' ni' ra' : Bool} {er cc mc ql sn er' cc' mc' ql' sn' : Int} (h : RmOk er cc mc ql sn) (h' : RmOk er' cc' mc' ql' sn') (hr : rights er cc mc = true) (hr' : rights er' cc' mc' = true) :
    pkZ bk nr ci ni ra er cc mc ql sn = pkZ bk' nr' ci' ni' ra' er' cc' mc' ql' sn' ↔ rmL bk nr ci ni ra er cc mc ql sn = rmL bk' nr' ci' ni' ra' er' cc' mc' ql' sn' := by
  unfold pkZ
  rw [if_pos hr, if_pos hr']
  constructor
  · intro he
    obtain ⟨_, k⟩ := pack_back bk nr ci ni ra er cc mc ql sn h.e0 h.e1 h.c0 h.c1 h.m0 h.m1 h.q0 h.q1 h.s0 h.s1 hr
    obtain ⟨_, k'⟩ := pack_back bk' nr' ci' ni' ra' er' cc' mc' ql' sn' h'.e0 h'.e1 h'.c0 h'.c1 h'.m0 h'.m1 h'.q0 h'.q1 h'.s0 h'.s1 hr'
    rw [he, k'] at k
    simp only [rmV, List.cons.injEq, Value.bool.injEq, Value.int.injEq, true_and, and_true] at k
    obtain ⟨rfl, rfl, rfl, rfl, rfl, rfl, rfl, rfl, rfl, rfl⟩ := k
    rfl
  · intro he
    simp only [rmL, List.cons.injEq, Lit.bool.injEq, Lit.int.injEq, true_and, and_true] at he
    obtain ⟨rfl, rfl, rfl, rfl, rfl, rfl, rfl, rfl, rfl, rfl⟩ := he
    rfl
end Go.Proofs.Ytnjjejhniekdcaa
