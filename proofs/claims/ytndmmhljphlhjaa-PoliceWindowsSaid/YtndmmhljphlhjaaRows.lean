/-
  No cell of these rows narrows 'for every input' (looked for: loops, veiled, ifaces, maps, wideKeys, modest, calm, conditions, laid).
  DERIVED. THE GIVEN ROWS OF THIS SEAT. 12 by the template 'for every input the law returns true; each argument reads behind the call as it read before'; 0 by the template 'total and deterministic' (their statements: YtndmmhljphlhjaaTotals.lean).
  GIVEN WITH THE SEED: the statements are not yours to turn. If you find one false, say at which input.
  Laid BY PROGRAM, IN A SANDBOX (cutbox-rows.mjs): the forced cells as the released guide's own fill.sh prints them over the translation 261a2569db96ccb4… (all of the seat's roots in one cut). By AI agents, Wed Nov 11 2026. No macro, syntax, notation, axiom, sorry.
-/
import Derived.Test.YtndmmhljphlhjaaChecked
import GoSem.Claim
import GoSem.ClaimJoined
import GoSem.ClaimMapViews
import Derived.JoinedTies
import Derived.KernelRfl
namespace Go.Proofs.Ytndmmhljphlhjaa
/- THE CELL 'sum', in the pinned program and in every row, IS THE sha256 OF THE DUMP (.gsa) THAT YtndmmhljphlhjaaProg.lean LOADS. Nothing in Lean hashes anything: it is a label: what it is worth is what the hold of that sum in a sandbox is worth. -/
noncomputable def Try.pinned : Pinned := { name := "ytndmmhljphlhjaa", sum := "261a2569db96ccb4943faf020dc1c6bea128a1329ae9947cd36113095673b3cc", checked := Try.checked }
namespace Rows
def none {H : Type} : Left H := { results := [], args := [] }

/-- 'trunklinelaw06.ContractFewer': WHATEVER THE INPUT: true; the input reads as it did. -/
def contractFewerSpec : ChangeSpec := { name := "contractFewer", fn := fun _ => fun
  | [d1, d2, d3] => { results := [.lit (.bool true)], args := [d1, d2, d3] }
  | _ => none }
def contractFewerRow : OpenClaim := { program := "ytndmmhljphlhjaa", sum := "261a2569db96ccb4943faf020dc1c6bea128a1329ae9947cd36113095673b3cc", func := "trunkline/trunklinelaw06.ContractFewer", spec := "contractFewer", apart := false }
def ContractFewerSaid : Prop := contractFewerRow.holds Try.pinned (OpenSpec.ofChange contractFewerSpec)

/-- ITS FALSE NEIGHBOUR: 'it returns false'. Refute it at one input. -/
def contractFewerWrong : ChangeSpec := { name := "contractFewer", fn := fun _ => fun
  | [d1, d2, d3] => { results := [.lit (.bool false)], args := [d1, d2, d3] }
  | _ => none }
def ContractFewerWrongFalsely : Prop := contractFewerRow.holds Try.pinned (OpenSpec.ofChange contractFewerWrong)

/-- 'trunklinelaw06.ContractSpans': WHATEVER THE INPUT: true; the input reads as it did. -/
def contractSpansSpec : ChangeSpec := { name := "contractSpans", fn := fun _ => fun
  | [d1, d2] => { results := [.lit (.bool true)], args := [d1, d2] }
  | _ => none }
def contractSpansRow : OpenClaim := { program := "ytndmmhljphlhjaa", sum := "261a2569db96ccb4943faf020dc1c6bea128a1329ae9947cd36113095673b3cc", func := "trunkline/trunklinelaw06.ContractSpans", spec := "contractSpans", apart := false }
def ContractSpansSaid : Prop := contractSpansRow.holds Try.pinned (OpenSpec.ofChange contractSpansSpec)

/-- ITS FALSE NEIGHBOUR: 'it returns false'. Refute it at one input. -/
def contractSpansWrong : ChangeSpec := { name := "contractSpans", fn := fun _ => fun
  | [d1, d2] => { results := [.lit (.bool false)], args := [d1, d2] }
  | _ => none }
def ContractSpansWrongFalsely : Prop := contractSpansRow.holds Try.pinned (OpenSpec.ofChange contractSpansWrong)

/-- 'trunklinelaw06.ContractKinds': WHATEVER THE INPUT: true; the input reads as it did. -/
def contractKindsSpec : ChangeSpec := { name := "contractKinds", fn := fun _ => fun
  | [d1, d2] => { results := [.lit (.bool true)], args := [d1, d2] }
  | _ => none }
def contractKindsRow : OpenClaim := { program := "ytndmmhljphlhjaa", sum := "261a2569db96ccb4943faf020dc1c6bea128a1329ae9947cd36113095673b3cc", func := "trunkline/trunklinelaw06.ContractKinds", spec := "contractKinds", apart := false }
def ContractKindsSaid : Prop := contractKindsRow.holds Try.pinned (OpenSpec.ofChange contractKindsSpec)

/-- ITS FALSE NEIGHBOUR: 'it returns false'. Refute it at one input. -/
def contractKindsWrong : ChangeSpec := { name := "contractKinds", fn := fun _ => fun
  | [d1, d2] => { results := [.lit (.bool false)], args := [d1, d2] }
  | _ => none }
def ContractKindsWrongFalsely : Prop := contractKindsRow.holds Try.pinned (OpenSpec.ofChange contractKindsWrong)

/-- 'trunklinelaw06.ContractTells': WHATEVER THE INPUT: true; the input reads as it did. -/
def contractTellsSpec : ChangeSpec := { name := "contractTells", fn := fun _ => fun
  | [d] => { results := [.lit (.bool true)], args := [d] }
  | _ => none }
def contractTellsRow : OpenClaim := { program := "ytndmmhljphlhjaa", sum := "261a2569db96ccb4943faf020dc1c6bea128a1329ae9947cd36113095673b3cc", func := "trunkline/trunklinelaw06.ContractTells", spec := "contractTells", apart := false }
def ContractTellsSaid : Prop := contractTellsRow.holds Try.pinned (OpenSpec.ofChange contractTellsSpec)

/-- ITS FALSE NEIGHBOUR: 'it returns false'. Refute it at one input. -/
def contractTellsWrong : ChangeSpec := { name := "contractTells", fn := fun _ => fun
  | [d] => { results := [.lit (.bool false)], args := [d] }
  | _ => none }
def ContractTellsWrongFalsely : Prop := contractTellsRow.holds Try.pinned (OpenSpec.ofChange contractTellsWrong)

/-- 'trunklinelaw06.ContractRules': WHATEVER THE INPUT: true; the input reads as it did. -/
def contractRulesSpec : ChangeSpec := { name := "contractRules", fn := fun _ => fun
  | [d] => { results := [.lit (.bool true)], args := [d] }
  | _ => none }
def contractRulesRow : OpenClaim := { program := "ytndmmhljphlhjaa", sum := "261a2569db96ccb4943faf020dc1c6bea128a1329ae9947cd36113095673b3cc", func := "trunkline/trunklinelaw06.ContractRules", spec := "contractRules", apart := false }
def ContractRulesSaid : Prop := contractRulesRow.holds Try.pinned (OpenSpec.ofChange contractRulesSpec)

/-- ITS FALSE NEIGHBOUR: 'it returns false'. Refute it at one input. -/
def contractRulesWrong : ChangeSpec := { name := "contractRules", fn := fun _ => fun
  | [d] => { results := [.lit (.bool false)], args := [d] }
  | _ => none }
def ContractRulesWrongFalsely : Prop := contractRulesRow.holds Try.pinned (OpenSpec.ofChange contractRulesWrong)

/-- 'trunklinelaw06.ContractMost': WHATEVER THE INPUT: true; the input reads as it did. -/
def contractMostSpec : ChangeSpec := { name := "contractMost", fn := fun _ => fun
  | [d] => { results := [.lit (.bool true)], args := [d] }
  | _ => none }
def contractMostRow : OpenClaim := { program := "ytndmmhljphlhjaa", sum := "261a2569db96ccb4943faf020dc1c6bea128a1329ae9947cd36113095673b3cc", func := "trunkline/trunklinelaw06.ContractMost", spec := "contractMost", apart := false }
def ContractMostSaid : Prop := contractMostRow.holds Try.pinned (OpenSpec.ofChange contractMostSpec)

/-- ITS FALSE NEIGHBOUR: 'it returns false'. Refute it at one input. -/
def contractMostWrong : ChangeSpec := { name := "contractMost", fn := fun _ => fun
  | [d] => { results := [.lit (.bool false)], args := [d] }
  | _ => none }
def ContractMostWrongFalsely : Prop := contractMostRow.holds Try.pinned (OpenSpec.ofChange contractMostWrong)

/-- 'trunklinelaw07.PoliceWindows': WHATEVER THE INPUT: true; the input reads as it did. -/
def policeWindowsSpec : ChangeSpec := { name := "policeWindows", fn := fun _ => fun
  | [d1, d2] => { results := [.lit (.bool true)], args := [d1, d2] }
  | _ => none }
def policeWindowsRow : OpenClaim := { program := "ytndmmhljphlhjaa", sum := "261a2569db96ccb4943faf020dc1c6bea128a1329ae9947cd36113095673b3cc", func := "trunkline/trunklinelaw07.PoliceWindows", spec := "policeWindows", unfollowed := true, recurses := true, apart := false }
def PoliceWindowsSaid : Prop := policeWindowsRow.holds Try.pinned (OpenSpec.ofChange policeWindowsSpec)

/-- ITS FALSE NEIGHBOUR: 'it returns false'. Refute it at one input. -/
def policeWindowsWrong : ChangeSpec := { name := "policeWindows", fn := fun _ => fun
  | [d1, d2] => { results := [.lit (.bool false)], args := [d1, d2] }
  | _ => none }
def PoliceWindowsWrongFalsely : Prop := policeWindowsRow.holds Try.pinned (OpenSpec.ofChange policeWindowsWrong)

/-- 'trunklinelaw07.PoliceSpaced': WHATEVER THE INPUT: true; the input reads as it did. -/
def policeSpacedSpec : ChangeSpec := { name := "policeSpaced", fn := fun _ => fun
  | [d1, d2] => { results := [.lit (.bool true)], args := [d1, d2] }
  | _ => none }
def policeSpacedRow : OpenClaim := { program := "ytndmmhljphlhjaa", sum := "261a2569db96ccb4943faf020dc1c6bea128a1329ae9947cd36113095673b3cc", func := "trunkline/trunklinelaw07.PoliceSpaced", spec := "policeSpaced", unfollowed := true, recurses := true, apart := false }
def PoliceSpacedSaid : Prop := policeSpacedRow.holds Try.pinned (OpenSpec.ofChange policeSpacedSpec)

/-- ITS FALSE NEIGHBOUR: 'it returns false'. Refute it at one input. -/
def policeSpacedWrong : ChangeSpec := { name := "policeSpaced", fn := fun _ => fun
  | [d1, d2] => { results := [.lit (.bool false)], args := [d1, d2] }
  | _ => none }
def PoliceSpacedWrongFalsely : Prop := policeSpacedRow.holds Try.pinned (OpenSpec.ofChange policeSpacedWrong)

/-- 'trunklinelaw07.PoliceDropped': WHATEVER THE INPUT: true; the input reads as it did. -/
def policeDroppedSpec : ChangeSpec := { name := "policeDropped", fn := fun _ => fun
  | [d1, d2] => { results := [.lit (.bool true)], args := [d1, d2] }
  | _ => none }
def policeDroppedRow : OpenClaim := { program := "ytndmmhljphlhjaa", sum := "261a2569db96ccb4943faf020dc1c6bea128a1329ae9947cd36113095673b3cc", func := "trunkline/trunklinelaw07.PoliceDropped", spec := "policeDropped", unfollowed := true, recurses := true, apart := false }
def PoliceDroppedSaid : Prop := policeDroppedRow.holds Try.pinned (OpenSpec.ofChange policeDroppedSpec)

/-- ITS FALSE NEIGHBOUR: 'it returns false'. Refute it at one input. -/
def policeDroppedWrong : ChangeSpec := { name := "policeDropped", fn := fun _ => fun
  | [d1, d2] => { results := [.lit (.bool false)], args := [d1, d2] }
  | _ => none }
def PoliceDroppedWrongFalsely : Prop := policeDroppedRow.holds Try.pinned (OpenSpec.ofChange policeDroppedWrong)

/-- 'trunklinelaw07.PoliceShift': WHATEVER THE INPUT: true; the input reads as it did. -/
def policeShiftSpec : ChangeSpec := { name := "policeShift", fn := fun _ => fun
  | [d1, d2, d3] => { results := [.lit (.bool true)], args := [d1, d2, d3] }
  | _ => none }
def policeShiftRow : OpenClaim := { program := "ytndmmhljphlhjaa", sum := "261a2569db96ccb4943faf020dc1c6bea128a1329ae9947cd36113095673b3cc", func := "trunkline/trunklinelaw07.PoliceShift", spec := "policeShift", unfollowed := true, recurses := true, apart := false }
def PoliceShiftSaid : Prop := policeShiftRow.holds Try.pinned (OpenSpec.ofChange policeShiftSpec)

/-- ITS FALSE NEIGHBOUR: 'it returns false'. Refute it at one input. -/
def policeShiftWrong : ChangeSpec := { name := "policeShift", fn := fun _ => fun
  | [d1, d2, d3] => { results := [.lit (.bool false)], args := [d1, d2, d3] }
  | _ => none }
def PoliceShiftWrongFalsely : Prop := policeShiftRow.holds Try.pinned (OpenSpec.ofChange policeShiftWrong)

/-- 'trunklinelaw07.PoliceDue': WHATEVER THE INPUT: true; the input reads as it did. -/
def policeDueSpec : ChangeSpec := { name := "policeDue", fn := fun _ => fun
  | [d1, d2, d3] => { results := [.lit (.bool true)], args := [d1, d2, d3] }
  | _ => none }
def policeDueRow : OpenClaim := { program := "ytndmmhljphlhjaa", sum := "261a2569db96ccb4943faf020dc1c6bea128a1329ae9947cd36113095673b3cc", func := "trunkline/trunklinelaw07.PoliceDue", spec := "policeDue", unfollowed := true, recurses := true, apart := false }
def PoliceDueSaid : Prop := policeDueRow.holds Try.pinned (OpenSpec.ofChange policeDueSpec)

/-- ITS FALSE NEIGHBOUR: 'it returns false'. Refute it at one input. -/
def policeDueWrong : ChangeSpec := { name := "policeDue", fn := fun _ => fun
  | [d1, d2, d3] => { results := [.lit (.bool false)], args := [d1, d2, d3] }
  | _ => none }
def PoliceDueWrongFalsely : Prop := policeDueRow.holds Try.pinned (OpenSpec.ofChange policeDueWrong)

/-- 'trunklinelaw07.PoliceKinds': WHATEVER THE INPUT: true; the input reads as it did. -/
def policeKindsSpec : ChangeSpec := { name := "policeKinds", fn := fun _ => fun
  | [d1, d2, d3, d4] => { results := [.lit (.bool true)], args := [d1, d2, d3, d4] }
  | _ => none }
def policeKindsRow : OpenClaim := { program := "ytndmmhljphlhjaa", sum := "261a2569db96ccb4943faf020dc1c6bea128a1329ae9947cd36113095673b3cc", func := "trunkline/trunklinelaw07.PoliceKinds", spec := "policeKinds", unfollowed := true, recurses := true, apart := false }
def PoliceKindsSaid : Prop := policeKindsRow.holds Try.pinned (OpenSpec.ofChange policeKindsSpec)

/-- ITS FALSE NEIGHBOUR: 'it returns false'. Refute it at one input. -/
def policeKindsWrong : ChangeSpec := { name := "policeKinds", fn := fun _ => fun
  | [d1, d2, d3, d4] => { results := [.lit (.bool false)], args := [d1, d2, d3, d4] }
  | _ => none }
def PoliceKindsWrongFalsely : Prop := policeKindsRow.holds Try.pinned (OpenSpec.ofChange policeKindsWrong)

/- THE SECOND FORM. 'bulk': how many values and letters a reading holds, each counted each time it is reached (what is shared counts as often as it is met; a slice's spare places count too). A statement '..UptoSaid' is the law's where the arguments, and the package variables that the reading takes, are together of bulk at most 1048576: NARROWER than '..Said'. Prove '..Said' where nothing that the law and all that it calls make is longer than what came in: it says more and counts as full. Else prove '..UptoSaid'. A law counts once. -/
mutual
def uptoBulk {H : Type} : DataW H → Nat
  | .lit (.string bytes) => bytes.length + 1
  | .lit _ => 1
  | .nil => 1
  | .ptr d => uptoBulk d + 1
  | .slice elems spare => uptoBulkAll elems + uptoBulkAll spare + 1
  | .agg parts => uptoBulkAll parts + 1
  | .iface _ d => uptoBulk d + 1
  | .map entries => uptoBulkEntries entries + 1
  | .held _ => 1
def uptoBulkAll {H : Type} : List (DataW H) → Nat
  | [] => 0
  | d :: r => uptoBulk d + uptoBulkAll r
def uptoBulkEntries {H : Type} : List (Lit × DataW H) → Nat
  | [] => 0
  | x :: r => uptoBulkEntry x + uptoBulkEntries r
def uptoBulkEntry {H : Type} : Lit × DataW H → Nat
  | (.string bytes, d) => bytes.length + uptoBulk d + 1
  | (_, d) => uptoBulk d + 1
 end
def uptoSmall : (H : Type) → List (DataW H) → Bool := fun _ ds => decide (uptoBulkAll ds ≤ 1048576)
def OpenSpec.upto (s : _root_.Go.ChangeSpec) : _root_.Go.OpenSpec := { _root_.Go.OpenSpec.ofChange s with cond := some uptoSmall }

/-- 'trunklinelaw06.ContractFewer', WHERE WHAT IT READS IS OF BULK AT MOST 1048576: true; the input reads as it did. -/
def contractFewerUptoRow : OpenClaim := { program := "ytndmmhljphlhjaa", sum := "261a2569db96ccb4943faf020dc1c6bea128a1329ae9947cd36113095673b3cc", func := "trunkline/trunklinelaw06.ContractFewer", spec := "contractFewer", apart := false, narrowed := true }
def ContractFewerUptoSaid : Prop := contractFewerUptoRow.holds Try.pinned (OpenSpec.upto contractFewerSpec)

/-- 'trunklinelaw06.ContractSpans', WHERE WHAT IT READS IS OF BULK AT MOST 1048576: true; the input reads as it did. -/
def contractSpansUptoRow : OpenClaim := { program := "ytndmmhljphlhjaa", sum := "261a2569db96ccb4943faf020dc1c6bea128a1329ae9947cd36113095673b3cc", func := "trunkline/trunklinelaw06.ContractSpans", spec := "contractSpans", apart := false, narrowed := true }
def ContractSpansUptoSaid : Prop := contractSpansUptoRow.holds Try.pinned (OpenSpec.upto contractSpansSpec)

/-- 'trunklinelaw06.ContractKinds', WHERE WHAT IT READS IS OF BULK AT MOST 1048576: true; the input reads as it did. -/
def contractKindsUptoRow : OpenClaim := { program := "ytndmmhljphlhjaa", sum := "261a2569db96ccb4943faf020dc1c6bea128a1329ae9947cd36113095673b3cc", func := "trunkline/trunklinelaw06.ContractKinds", spec := "contractKinds", apart := false, narrowed := true }
def ContractKindsUptoSaid : Prop := contractKindsUptoRow.holds Try.pinned (OpenSpec.upto contractKindsSpec)

/-- 'trunklinelaw06.ContractTells', WHERE WHAT IT READS IS OF BULK AT MOST 1048576: true; the input reads as it did. -/
def contractTellsUptoRow : OpenClaim := { program := "ytndmmhljphlhjaa", sum := "261a2569db96ccb4943faf020dc1c6bea128a1329ae9947cd36113095673b3cc", func := "trunkline/trunklinelaw06.ContractTells", spec := "contractTells", apart := false, narrowed := true }
def ContractTellsUptoSaid : Prop := contractTellsUptoRow.holds Try.pinned (OpenSpec.upto contractTellsSpec)

/-- 'trunklinelaw06.ContractRules', WHERE WHAT IT READS IS OF BULK AT MOST 1048576: true; the input reads as it did. -/
def contractRulesUptoRow : OpenClaim := { program := "ytndmmhljphlhjaa", sum := "261a2569db96ccb4943faf020dc1c6bea128a1329ae9947cd36113095673b3cc", func := "trunkline/trunklinelaw06.ContractRules", spec := "contractRules", apart := false, narrowed := true }
def ContractRulesUptoSaid : Prop := contractRulesUptoRow.holds Try.pinned (OpenSpec.upto contractRulesSpec)

/-- 'trunklinelaw06.ContractMost', WHERE WHAT IT READS IS OF BULK AT MOST 1048576: true; the input reads as it did. -/
def contractMostUptoRow : OpenClaim := { program := "ytndmmhljphlhjaa", sum := "261a2569db96ccb4943faf020dc1c6bea128a1329ae9947cd36113095673b3cc", func := "trunkline/trunklinelaw06.ContractMost", spec := "contractMost", apart := false, narrowed := true }
def ContractMostUptoSaid : Prop := contractMostUptoRow.holds Try.pinned (OpenSpec.upto contractMostSpec)

/-- 'trunklinelaw07.PoliceWindows', WHERE WHAT IT READS IS OF BULK AT MOST 1048576: true; the input reads as it did. -/
def policeWindowsUptoRow : OpenClaim := { program := "ytndmmhljphlhjaa", sum := "261a2569db96ccb4943faf020dc1c6bea128a1329ae9947cd36113095673b3cc", func := "trunkline/trunklinelaw07.PoliceWindows", spec := "policeWindows", unfollowed := true, recurses := true, apart := false, narrowed := true }
def PoliceWindowsUptoSaid : Prop := policeWindowsUptoRow.holds Try.pinned (OpenSpec.upto policeWindowsSpec)

/-- 'trunklinelaw07.PoliceSpaced', WHERE WHAT IT READS IS OF BULK AT MOST 1048576: true; the input reads as it did. -/
def policeSpacedUptoRow : OpenClaim := { program := "ytndmmhljphlhjaa", sum := "261a2569db96ccb4943faf020dc1c6bea128a1329ae9947cd36113095673b3cc", func := "trunkline/trunklinelaw07.PoliceSpaced", spec := "policeSpaced", unfollowed := true, recurses := true, apart := false, narrowed := true }
def PoliceSpacedUptoSaid : Prop := policeSpacedUptoRow.holds Try.pinned (OpenSpec.upto policeSpacedSpec)

/-- 'trunklinelaw07.PoliceDropped', WHERE WHAT IT READS IS OF BULK AT MOST 1048576: true; the input reads as it did. -/
def policeDroppedUptoRow : OpenClaim := { program := "ytndmmhljphlhjaa", sum := "261a2569db96ccb4943faf020dc1c6bea128a1329ae9947cd36113095673b3cc", func := "trunkline/trunklinelaw07.PoliceDropped", spec := "policeDropped", unfollowed := true, recurses := true, apart := false, narrowed := true }
def PoliceDroppedUptoSaid : Prop := policeDroppedUptoRow.holds Try.pinned (OpenSpec.upto policeDroppedSpec)

/-- 'trunklinelaw07.PoliceShift', WHERE WHAT IT READS IS OF BULK AT MOST 1048576: true; the input reads as it did. -/
def policeShiftUptoRow : OpenClaim := { program := "ytndmmhljphlhjaa", sum := "261a2569db96ccb4943faf020dc1c6bea128a1329ae9947cd36113095673b3cc", func := "trunkline/trunklinelaw07.PoliceShift", spec := "policeShift", unfollowed := true, recurses := true, apart := false, narrowed := true }
def PoliceShiftUptoSaid : Prop := policeShiftUptoRow.holds Try.pinned (OpenSpec.upto policeShiftSpec)

/-- 'trunklinelaw07.PoliceDue', WHERE WHAT IT READS IS OF BULK AT MOST 1048576: true; the input reads as it did. -/
def policeDueUptoRow : OpenClaim := { program := "ytndmmhljphlhjaa", sum := "261a2569db96ccb4943faf020dc1c6bea128a1329ae9947cd36113095673b3cc", func := "trunkline/trunklinelaw07.PoliceDue", spec := "policeDue", unfollowed := true, recurses := true, apart := false, narrowed := true }
def PoliceDueUptoSaid : Prop := policeDueUptoRow.holds Try.pinned (OpenSpec.upto policeDueSpec)

/-- 'trunklinelaw07.PoliceKinds', WHERE WHAT IT READS IS OF BULK AT MOST 1048576: true; the input reads as it did. -/
def policeKindsUptoRow : OpenClaim := { program := "ytndmmhljphlhjaa", sum := "261a2569db96ccb4943faf020dc1c6bea128a1329ae9947cd36113095673b3cc", func := "trunkline/trunklinelaw07.PoliceKinds", spec := "policeKinds", unfollowed := true, recurses := true, apart := false, narrowed := true }
def PoliceKindsUptoSaid : Prop := policeKindsUptoRow.holds Try.pinned (OpenSpec.upto policeKindsSpec)

end Rows
end Go.Proofs.Ytndmmhljphlhjaa
