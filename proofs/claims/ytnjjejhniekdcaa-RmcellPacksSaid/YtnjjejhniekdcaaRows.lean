/-
  No cell of these rows narrows 'for every input' (looked for: loops, veiled, ifaces, maps, wideKeys, modest, calm, conditions, laid).
  DERIVED. THE GIVEN ROWS OF THIS SEAT. 6 by the template 'for every input the law returns true; each argument reads behind the call as it read before'; 0 by the template 'total and deterministic' (their statements: YtnjjejhniekdcaaTotals.lean).
  GIVEN WITH THE SEED: the statements are not yours to turn. If you find one false, say at which input.
  Laid BY PROGRAM, IN A SANDBOX (cutbox-rows.mjs): the forced cells as the released guide's own fill.sh prints them over the translation ccf15680f6b92fe0… (all of the seat's roots in one cut). By AI agents, Wed Nov 11 2026. No macro, syntax, notation, axiom, sorry.
-/
import Derived.Test.YtnjjejhniekdcaaChecked
import GoSem.Claim
import GoSem.ClaimJoined
import GoSem.ClaimMapViews
import Derived.JoinedTies
import Derived.KernelRfl
namespace Go.Proofs.Ytnjjejhniekdcaa
/- THE CELL 'sum', in the pinned program and in every row, IS THE sha256 OF THE DUMP (.gsa) THAT YtnjjejhniekdcaaProg.lean LOADS. Nothing in Lean hashes anything: it is a label: what it is worth is what the hold of that sum in a sandbox is worth. -/
noncomputable def Try.pinned : Pinned := { name := "ytnjjejhniekdcaa", sum := "ccf15680f6b92fe0e22871dff65165179790ef54c353a34ca370f5422ab69e74", checked := Try.checked }
namespace Rows
def none {H : Type} : Left H := { results := [], args := [] }

/-- 'trunklinelaw13.RmcellPacks': WHATEVER THE INPUT: true; the input reads as it did. -/
def rmcellPacksSpec : ChangeSpec := { name := "rmcellPacks", fn := fun _ => fun
  | [d1, d2] => { results := [.lit (.bool true)], args := [d1, d2] }
  | _ => none }
def rmcellPacksRow : OpenClaim := { program := "ytnjjejhniekdcaa", sum := "ccf15680f6b92fe0e22871dff65165179790ef54c353a34ca370f5422ab69e74", func := "trunkline/trunklinelaw13.RmcellPacks", spec := "rmcellPacks", unfollowed := true, recurses := true, apart := false }
def RmcellPacksSaid : Prop := rmcellPacksRow.holds Try.pinned (OpenSpec.ofChange rmcellPacksSpec)

/-- ITS FALSE NEIGHBOUR: 'it returns false'. Refute it at one input. -/
def rmcellPacksWrong : ChangeSpec := { name := "rmcellPacks", fn := fun _ => fun
  | [d1, d2] => { results := [.lit (.bool false)], args := [d1, d2] }
  | _ => none }
def RmcellPacksWrongFalsely : Prop := rmcellPacksRow.holds Try.pinned (OpenSpec.ofChange rmcellPacksWrong)

/-- 'trunklinelaw13.RmcellBack': WHATEVER THE INPUT: true; the input reads as it did. -/
def rmcellBackSpec : ChangeSpec := { name := "rmcellBack", fn := fun _ => fun
  | [d1, d2, d3] => { results := [.lit (.bool true)], args := [d1, d2, d3] }
  | _ => none }
def rmcellBackRow : OpenClaim := { program := "ytnjjejhniekdcaa", sum := "ccf15680f6b92fe0e22871dff65165179790ef54c353a34ca370f5422ab69e74", func := "trunkline/trunklinelaw13.RmcellBack", spec := "rmcellBack", unfollowed := true, recurses := true, apart := false }
def RmcellBackSaid : Prop := rmcellBackRow.holds Try.pinned (OpenSpec.ofChange rmcellBackSpec)

/-- ITS FALSE NEIGHBOUR: 'it returns false'. Refute it at one input. -/
def rmcellBackWrong : ChangeSpec := { name := "rmcellBack", fn := fun _ => fun
  | [d1, d2, d3] => { results := [.lit (.bool false)], args := [d1, d2, d3] }
  | _ => none }
def RmcellBackWrongFalsely : Prop := rmcellBackRow.holds Try.pinned (OpenSpec.ofChange rmcellBackWrong)

/-- 'trunklinelaw13.RmcellApart': WHATEVER THE INPUT: true; the input reads as it did. -/
def rmcellApartSpec : ChangeSpec := { name := "rmcellApart", fn := fun _ => fun
  | [d1, d2] => { results := [.lit (.bool true)], args := [d1, d2] }
  | _ => none }
def rmcellApartRow : OpenClaim := { program := "ytnjjejhniekdcaa", sum := "ccf15680f6b92fe0e22871dff65165179790ef54c353a34ca370f5422ab69e74", func := "trunkline/trunklinelaw13.RmcellApart", spec := "rmcellApart", unfollowed := true, recurses := true, apart := false }
def RmcellApartSaid : Prop := rmcellApartRow.holds Try.pinned (OpenSpec.ofChange rmcellApartSpec)

/-- ITS FALSE NEIGHBOUR: 'it returns false'. Refute it at one input. -/
def rmcellApartWrong : ChangeSpec := { name := "rmcellApart", fn := fun _ => fun
  | [d1, d2] => { results := [.lit (.bool false)], args := [d1, d2] }
  | _ => none }
def RmcellApartWrongFalsely : Prop := rmcellApartRow.holds Try.pinned (OpenSpec.ofChange rmcellApartWrong)

/-- 'trunklinelaw13.RmcellOrder': WHATEVER THE INPUT: true; the input reads as it did. -/
def rmcellOrderSpec : ChangeSpec := { name := "rmcellOrder", fn := fun _ => fun
  | [d1, d2, d3, d4] => { results := [.lit (.bool true)], args := [d1, d2, d3, d4] }
  | _ => none }
def rmcellOrderRow : OpenClaim := { program := "ytnjjejhniekdcaa", sum := "ccf15680f6b92fe0e22871dff65165179790ef54c353a34ca370f5422ab69e74", func := "trunkline/trunklinelaw13.RmcellOrder", spec := "rmcellOrder", unfollowed := true, recurses := true, apart := false }
def RmcellOrderSaid : Prop := rmcellOrderRow.holds Try.pinned (OpenSpec.ofChange rmcellOrderSpec)

/-- ITS FALSE NEIGHBOUR: 'it returns false'. Refute it at one input. -/
def rmcellOrderWrong : ChangeSpec := { name := "rmcellOrder", fn := fun _ => fun
  | [d1, d2, d3, d4] => { results := [.lit (.bool false)], args := [d1, d2, d3, d4] }
  | _ => none }
def RmcellOrderWrongFalsely : Prop := rmcellOrderRow.holds Try.pinned (OpenSpec.ofChange rmcellOrderWrong)

/-- 'trunklinelaw13.RmcellRates': WHATEVER THE INPUT: true; the input reads as it did. -/
def rmcellRatesSpec : ChangeSpec := { name := "rmcellRates", fn := fun _ => fun
  | [d1, d2, d3, d4] => { results := [.lit (.bool true)], args := [d1, d2, d3, d4] }
  | _ => none }
def rmcellRatesRow : OpenClaim := { program := "ytnjjejhniekdcaa", sum := "ccf15680f6b92fe0e22871dff65165179790ef54c353a34ca370f5422ab69e74", func := "trunkline/trunklinelaw13.RmcellRates", spec := "rmcellRates", unfollowed := true, recurses := true, apart := false }
def RmcellRatesSaid : Prop := rmcellRatesRow.holds Try.pinned (OpenSpec.ofChange rmcellRatesSpec)

/-- ITS FALSE NEIGHBOUR: 'it returns false'. Refute it at one input. -/
def rmcellRatesWrong : ChangeSpec := { name := "rmcellRates", fn := fun _ => fun
  | [d1, d2, d3, d4] => { results := [.lit (.bool false)], args := [d1, d2, d3, d4] }
  | _ => none }
def RmcellRatesWrongFalsely : Prop := rmcellRatesRow.holds Try.pinned (OpenSpec.ofChange rmcellRatesWrong)

/-- 'trunklinelaw13.RmcellMarks': WHATEVER THE INPUT: true; the input reads as it did. -/
def rmcellMarksSpec : ChangeSpec := { name := "rmcellMarks", fn := fun _ => fun
  | [d1, d2, d3, d4, d5, d6, d7] => { results := [.lit (.bool true)], args := [d1, d2, d3, d4, d5, d6, d7] }
  | _ => none }
def rmcellMarksRow : OpenClaim := { program := "ytnjjejhniekdcaa", sum := "ccf15680f6b92fe0e22871dff65165179790ef54c353a34ca370f5422ab69e74", func := "trunkline/trunklinelaw13.RmcellMarks", spec := "rmcellMarks", unfollowed := true, recurses := true, apart := false }
def RmcellMarksSaid : Prop := rmcellMarksRow.holds Try.pinned (OpenSpec.ofChange rmcellMarksSpec)

/-- ITS FALSE NEIGHBOUR: 'it returns false'. Refute it at one input. -/
def rmcellMarksWrong : ChangeSpec := { name := "rmcellMarks", fn := fun _ => fun
  | [d1, d2, d3, d4, d5, d6, d7] => { results := [.lit (.bool false)], args := [d1, d2, d3, d4, d5, d6, d7] }
  | _ => none }
def RmcellMarksWrongFalsely : Prop := rmcellMarksRow.holds Try.pinned (OpenSpec.ofChange rmcellMarksWrong)

/- THE SECOND FORM. 'bulk': how many values and letters a reading holds, each counted each time it is reached (what is shared counts as often as it is met; a slice's spare places count too). A statement '..UptoSaid' is the law's where the arguments, and the package variables that the reading takes, are together of bulk at most 1048576: NARROWER than '..Said'. Prove '..Said' where nothing that the law and all that it calls make is longer than what came in: it says more and counts as full. Else prove '..UptoSaid'. A law counts once. -/
mutual
def uptoBulk {H : Type} : DataW H → Nat
  | .lit (.string bytes) => bytes.length + 1
  | .lit _ => 1
  | .nil => 1
  | .ptr d => uptoBulk d + 1
  | .slice elems spare => uptoBulkAll elems + uptoBulkAll spare + 1
  | .agg parts => uptoBulkAll parts + 1
  | .iface _ d => uptoBulk d + 1
  | .map entries => uptoBulkEntries entries + 1
  | .held _ => 1
def uptoBulkAll {H : Type} : List (DataW H) → Nat
  | [] => 0
  | d :: r => uptoBulk d + uptoBulkAll r
def uptoBulkEntries {H : Type} : List (Lit × DataW H) → Nat
  | [] => 0
  | x :: r => uptoBulkEntry x + uptoBulkEntries r
def uptoBulkEntry {H : Type} : Lit × DataW H → Nat
  | (.string bytes, d) => bytes.length + uptoBulk d + 1
  | (_, d) => uptoBulk d + 1
 end
def uptoSmall : (H : Type) → List (DataW H) → Bool := fun _ ds => decide (uptoBulkAll ds ≤ 1048576)
def OpenSpec.upto (s : _root_.Go.ChangeSpec) : _root_.Go.OpenSpec := { _root_.Go.OpenSpec.ofChange s with cond := some uptoSmall }

/-- 'trunklinelaw13.RmcellPacks', WHERE WHAT IT READS IS OF BULK AT MOST 1048576: true; the input reads as it did. -/
def rmcellPacksUptoRow : OpenClaim := { program := "ytnjjejhniekdcaa", sum := "ccf15680f6b92fe0e22871dff65165179790ef54c353a34ca370f5422ab69e74", func := "trunkline/trunklinelaw13.RmcellPacks", spec := "rmcellPacks", unfollowed := true, recurses := true, apart := false, narrowed := true }
def RmcellPacksUptoSaid : Prop := rmcellPacksUptoRow.holds Try.pinned (OpenSpec.upto rmcellPacksSpec)

/-- 'trunklinelaw13.RmcellBack', WHERE WHAT IT READS IS OF BULK AT MOST 1048576: true; the input reads as it did. -/
def rmcellBackUptoRow : OpenClaim := { program := "ytnjjejhniekdcaa", sum := "ccf15680f6b92fe0e22871dff65165179790ef54c353a34ca370f5422ab69e74", func := "trunkline/trunklinelaw13.RmcellBack", spec := "rmcellBack", unfollowed := true, recurses := true, apart := false, narrowed := true }
def RmcellBackUptoSaid : Prop := rmcellBackUptoRow.holds Try.pinned (OpenSpec.upto rmcellBackSpec)

/-- 'trunklinelaw13.RmcellApart', WHERE WHAT IT READS IS OF BULK AT MOST 1048576: true; the input reads as it did. -/
def rmcellApartUptoRow : OpenClaim := { program := "ytnjjejhniekdcaa", sum := "ccf15680f6b92fe0e22871dff65165179790ef54c353a34ca370f5422ab69e74", func := "trunkline/trunklinelaw13.RmcellApart", spec := "rmcellApart", unfollowed := true, recurses := true, apart := false, narrowed := true }
def RmcellApartUptoSaid : Prop := rmcellApartUptoRow.holds Try.pinned (OpenSpec.upto rmcellApartSpec)

/-- 'trunklinelaw13.RmcellOrder', WHERE WHAT IT READS IS OF BULK AT MOST 1048576: true; the input reads as it did. -/
def rmcellOrderUptoRow : OpenClaim := { program := "ytnjjejhniekdcaa", sum := "ccf15680f6b92fe0e22871dff65165179790ef54c353a34ca370f5422ab69e74", func := "trunkline/trunklinelaw13.RmcellOrder", spec := "rmcellOrder", unfollowed := true, recurses := true, apart := false, narrowed := true }
def RmcellOrderUptoSaid : Prop := rmcellOrderUptoRow.holds Try.pinned (OpenSpec.upto rmcellOrderSpec)

/-- 'trunklinelaw13.RmcellRates', WHERE WHAT IT READS IS OF BULK AT MOST 1048576: true; the input reads as it did. -/
def rmcellRatesUptoRow : OpenClaim := { program := "ytnjjejhniekdcaa", sum := "ccf15680f6b92fe0e22871dff65165179790ef54c353a34ca370f5422ab69e74", func := "trunkline/trunklinelaw13.RmcellRates", spec := "rmcellRates", unfollowed := true, recurses := true, apart := false, narrowed := true }
def RmcellRatesUptoSaid : Prop := rmcellRatesUptoRow.holds Try.pinned (OpenSpec.upto rmcellRatesSpec)

/-- 'trunklinelaw13.RmcellMarks', WHERE WHAT IT READS IS OF BULK AT MOST 1048576: true; the input reads as it did. -/
def rmcellMarksUptoRow : OpenClaim := { program := "ytnjjejhniekdcaa", sum := "ccf15680f6b92fe0e22871dff65165179790ef54c353a34ca370f5422ab69e74", func := "trunkline/trunklinelaw13.RmcellMarks", spec := "rmcellMarks", unfollowed := true, recurses := true, apart := false, narrowed := true }
def RmcellMarksUptoSaid : Prop := rmcellMarksUptoRow.holds Try.pinned (OpenSpec.upto rmcellMarksSpec)

end Rows
end Go.Proofs.Ytnjjejhniekdcaa
