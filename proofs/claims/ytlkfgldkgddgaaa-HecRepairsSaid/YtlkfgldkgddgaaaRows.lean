/-
  No cell of these rows narrows 'for every input' (looked for: loops, veiled, ifaces, maps, wideKeys, modest, calm, conditions, laid).
  DERIVED. THE GIVEN ROWS OF THIS SEAT. 12 by the template 'for every input the law returns true; each argument reads behind the call as it read before'; 0 by the template 'total and deterministic' (their statements: YtlkfgldkgddgaaaTotals.lean).
  GIVEN WITH THE SEED: the statements are not yours to turn. If you find one false, say at which input.
  Laid BY PROGRAM, IN A SANDBOX (cutbox-rows.mjs): the forced cells as the released guide's own fill.sh prints them over the translation 68786a5628a8f40a… (all of the seat's roots in one cut). By AI agents, Wed Nov 11 2026. No macro, syntax, notation, axiom, sorry.
-/
import Derived.Test.YtlkfgldkgddgaaaChecked
import GoSem.Claim
import GoSem.ClaimJoined
import GoSem.ClaimMapViews
import Derived.JoinedTies
import Derived.KernelRfl
namespace Go.Proofs.Ytlkfgldkgddgaaa
/- THE CELL 'sum', in the pinned program and in every row, IS THE sha256 OF THE DUMP (.gsa) THAT YtlkfgldkgddgaaaProg.lean LOADS. Nothing in Lean hashes anything: it is a label: what it is worth is what the hold of that sum in a sandbox is worth. -/
noncomputable def Try.pinned : Pinned := { name := "ytlkfgldkgddgaaa", sum := "68786a5628a8f40a7f9bf786865d3945a9f99bb8cc14f038ab85692d336e9c58", checked := Try.checked }
namespace Rows
def none {H : Type} : Left H := { results := [], args := [] }

/-- 'trunklinelaw01.SumsBits': WHATEVER THE INPUT: true; the input reads as it did. -/
def sumsBitsSpec : ChangeSpec := { name := "sumsBits", fn := fun _ => fun
  | [d1, d2, d3] => { results := [.lit (.bool true)], args := [d1, d2, d3] }
  | _ => none }
def sumsBitsRow : OpenClaim := { program := "ytlkfgldkgddgaaa", sum := "68786a5628a8f40a7f9bf786865d3945a9f99bb8cc14f038ab85692d336e9c58", func := "trunkline/trunklinelaw01.SumsBits", spec := "sumsBits", unfollowed := true, recurses := true, apart := false }
def SumsBitsSaid : Prop := sumsBitsRow.holds Try.pinned (OpenSpec.ofChange sumsBitsSpec)

/-- ITS FALSE NEIGHBOUR: 'it returns false'. Refute it at one input. -/
def sumsBitsWrong : ChangeSpec := { name := "sumsBits", fn := fun _ => fun
  | [d1, d2, d3] => { results := [.lit (.bool false)], args := [d1, d2, d3] }
  | _ => none }
def SumsBitsWrongFalsely : Prop := sumsBitsRow.holds Try.pinned (OpenSpec.ofChange sumsBitsWrong)

/-- 'trunklinelaw01.SumsTell': WHATEVER THE INPUT: true; the input reads as it did. -/
def sumsTellSpec : ChangeSpec := { name := "sumsTell", fn := fun _ => fun
  | [d1, d2] => { results := [.lit (.bool true)], args := [d1, d2] }
  | _ => none }
def sumsTellRow : OpenClaim := { program := "ytlkfgldkgddgaaa", sum := "68786a5628a8f40a7f9bf786865d3945a9f99bb8cc14f038ab85692d336e9c58", func := "trunkline/trunklinelaw01.SumsTell", spec := "sumsTell", unfollowed := true, recurses := true, apart := false }
def SumsTellSaid : Prop := sumsTellRow.holds Try.pinned (OpenSpec.ofChange sumsTellSpec)

/-- ITS FALSE NEIGHBOUR: 'it returns false'. Refute it at one input. -/
def sumsTellWrong : ChangeSpec := { name := "sumsTell", fn := fun _ => fun
  | [d1, d2] => { results := [.lit (.bool false)], args := [d1, d2] }
  | _ => none }
def SumsTellWrongFalsely : Prop := sumsTellRow.holds Try.pinned (OpenSpec.ofChange sumsTellWrong)

/-- 'trunklinelaw01.SumsBursts': WHATEVER THE INPUT: true; the input reads as it did. -/
def sumsBurstsSpec : ChangeSpec := { name := "sumsBursts", fn := fun _ => fun
  | [d1, d2, d3] => { results := [.lit (.bool true)], args := [d1, d2, d3] }
  | _ => none }
def sumsBurstsRow : OpenClaim := { program := "ytlkfgldkgddgaaa", sum := "68786a5628a8f40a7f9bf786865d3945a9f99bb8cc14f038ab85692d336e9c58", func := "trunkline/trunklinelaw01.SumsBursts", spec := "sumsBursts", unfollowed := true, recurses := true, apart := false }
def SumsBurstsSaid : Prop := sumsBurstsRow.holds Try.pinned (OpenSpec.ofChange sumsBurstsSpec)

/-- ITS FALSE NEIGHBOUR: 'it returns false'. Refute it at one input. -/
def sumsBurstsWrong : ChangeSpec := { name := "sumsBursts", fn := fun _ => fun
  | [d1, d2, d3] => { results := [.lit (.bool false)], args := [d1, d2, d3] }
  | _ => none }
def SumsBurstsWrongFalsely : Prop := sumsBurstsRow.holds Try.pinned (OpenSpec.ofChange sumsBurstsWrong)

/-- 'trunklinelaw01.SumsJoin': WHATEVER THE INPUT: true; the input reads as it did. -/
def sumsJoinSpec : ChangeSpec := { name := "sumsJoin", fn := fun _ => fun
  | [d1, d2, d3] => { results := [.lit (.bool true)], args := [d1, d2, d3] }
  | _ => none }
def sumsJoinRow : OpenClaim := { program := "ytlkfgldkgddgaaa", sum := "68786a5628a8f40a7f9bf786865d3945a9f99bb8cc14f038ab85692d336e9c58", func := "trunkline/trunklinelaw01.SumsJoin", spec := "sumsJoin", unfollowed := true, recurses := true, apart := false }
def SumsJoinSaid : Prop := sumsJoinRow.holds Try.pinned (OpenSpec.ofChange sumsJoinSpec)

/-- ITS FALSE NEIGHBOUR: 'it returns false'. Refute it at one input. -/
def sumsJoinWrong : ChangeSpec := { name := "sumsJoin", fn := fun _ => fun
  | [d1, d2, d3] => { results := [.lit (.bool false)], args := [d1, d2, d3] }
  | _ => none }
def SumsJoinWrongFalsely : Prop := sumsJoinRow.holds Try.pinned (OpenSpec.ofChange sumsJoinWrong)

/-- 'trunklinelaw01.SumsSides': WHATEVER THE INPUT: true; the input reads as it did. -/
def sumsSidesSpec : ChangeSpec := { name := "sumsSides", fn := fun _ => fun
  | [d1, d2] => { results := [.lit (.bool true)], args := [d1, d2] }
  | _ => none }
def sumsSidesRow : OpenClaim := { program := "ytlkfgldkgddgaaa", sum := "68786a5628a8f40a7f9bf786865d3945a9f99bb8cc14f038ab85692d336e9c58", func := "trunkline/trunklinelaw01.SumsSides", spec := "sumsSides", unfollowed := true, recurses := true, apart := false }
def SumsSidesSaid : Prop := sumsSidesRow.holds Try.pinned (OpenSpec.ofChange sumsSidesSpec)

/-- ITS FALSE NEIGHBOUR: 'it returns false'. Refute it at one input. -/
def sumsSidesWrong : ChangeSpec := { name := "sumsSides", fn := fun _ => fun
  | [d1, d2] => { results := [.lit (.bool false)], args := [d1, d2] }
  | _ => none }
def SumsSidesWrongFalsely : Prop := sumsSidesRow.holds Try.pinned (OpenSpec.ofChange sumsSidesWrong)

/-- 'trunklinelaw01.SumsBegin': WHATEVER THE INPUT: true; the input reads as it did. -/
def sumsBeginSpec : ChangeSpec := { name := "sumsBegin", fn := fun _ => fun
  | [d1, d2, d3] => { results := [.lit (.bool true)], args := [d1, d2, d3] }
  | _ => none }
def sumsBeginRow : OpenClaim := { program := "ytlkfgldkgddgaaa", sum := "68786a5628a8f40a7f9bf786865d3945a9f99bb8cc14f038ab85692d336e9c58", func := "trunkline/trunklinelaw01.SumsBegin", spec := "sumsBegin", unfollowed := true, recurses := true, apart := false }
def SumsBeginSaid : Prop := sumsBeginRow.holds Try.pinned (OpenSpec.ofChange sumsBeginSpec)

/-- ITS FALSE NEIGHBOUR: 'it returns false'. Refute it at one input. -/
def sumsBeginWrong : ChangeSpec := { name := "sumsBegin", fn := fun _ => fun
  | [d1, d2, d3] => { results := [.lit (.bool false)], args := [d1, d2, d3] }
  | _ => none }
def SumsBeginWrongFalsely : Prop := sumsBeginRow.holds Try.pinned (OpenSpec.ofChange sumsBeginWrong)

/-- 'trunklinelaw03.HecTakes': WHATEVER THE INPUT: true; the input reads as it did. -/
def hecTakesSpec : ChangeSpec := { name := "hecTakes", fn := fun _ => fun
  | [d] => { results := [.lit (.bool true)], args := [d] }
  | _ => none }
def hecTakesRow : OpenClaim := { program := "ytlkfgldkgddgaaa", sum := "68786a5628a8f40a7f9bf786865d3945a9f99bb8cc14f038ab85692d336e9c58", func := "trunkline/trunklinelaw03.HecTakes", spec := "hecTakes", unfollowed := true, recurses := true, apart := false }
def HecTakesSaid : Prop := hecTakesRow.holds Try.pinned (OpenSpec.ofChange hecTakesSpec)

/-- ITS FALSE NEIGHBOUR: 'it returns false'. Refute it at one input. -/
def hecTakesWrong : ChangeSpec := { name := "hecTakes", fn := fun _ => fun
  | [d] => { results := [.lit (.bool false)], args := [d] }
  | _ => none }
def HecTakesWrongFalsely : Prop := hecTakesRow.holds Try.pinned (OpenSpec.ofChange hecTakesWrong)

/-- 'trunklinelaw03.HecSeals': WHATEVER THE INPUT: true; the input reads as it did. -/
def hecSealsSpec : ChangeSpec := { name := "hecSeals", fn := fun _ => fun
  | [d1, d2] => { results := [.lit (.bool true)], args := [d1, d2] }
  | _ => none }
def hecSealsRow : OpenClaim := { program := "ytlkfgldkgddgaaa", sum := "68786a5628a8f40a7f9bf786865d3945a9f99bb8cc14f038ab85692d336e9c58", func := "trunkline/trunklinelaw03.HecSeals", spec := "hecSeals", unfollowed := true, recurses := true, apart := false }
def HecSealsSaid : Prop := hecSealsRow.holds Try.pinned (OpenSpec.ofChange hecSealsSpec)

/-- ITS FALSE NEIGHBOUR: 'it returns false'. Refute it at one input. -/
def hecSealsWrong : ChangeSpec := { name := "hecSeals", fn := fun _ => fun
  | [d1, d2] => { results := [.lit (.bool false)], args := [d1, d2] }
  | _ => none }
def HecSealsWrongFalsely : Prop := hecSealsRow.holds Try.pinned (OpenSpec.ofChange hecSealsWrong)

/-- 'trunklinelaw03.HecRepairs': WHATEVER THE INPUT: true; the input reads as it did. -/
def hecRepairsSpec : ChangeSpec := { name := "hecRepairs", fn := fun _ => fun
  | [d1, d2, d3, d4] => { results := [.lit (.bool true)], args := [d1, d2, d3, d4] }
  | _ => none }
def hecRepairsRow : OpenClaim := { program := "ytlkfgldkgddgaaa", sum := "68786a5628a8f40a7f9bf786865d3945a9f99bb8cc14f038ab85692d336e9c58", func := "trunkline/trunklinelaw03.HecRepairs", spec := "hecRepairs", unfollowed := true, recurses := true, apart := false }
def HecRepairsSaid : Prop := hecRepairsRow.holds Try.pinned (OpenSpec.ofChange hecRepairsSpec)

/-- ITS FALSE NEIGHBOUR: 'it returns false'. Refute it at one input. -/
def hecRepairsWrong : ChangeSpec := { name := "hecRepairs", fn := fun _ => fun
  | [d1, d2, d3, d4] => { results := [.lit (.bool false)], args := [d1, d2, d3, d4] }
  | _ => none }
def HecRepairsWrongFalsely : Prop := hecRepairsRow.holds Try.pinned (OpenSpec.ofChange hecRepairsWrong)

/-- 'trunklinelaw03.HecCounts': WHATEVER THE INPUT: true; the input reads as it did. -/
def hecCountsSpec : ChangeSpec := { name := "hecCounts", fn := fun _ => fun
  | [d] => { results := [.lit (.bool true)], args := [d] }
  | _ => none }
def hecCountsRow : OpenClaim := { program := "ytlkfgldkgddgaaa", sum := "68786a5628a8f40a7f9bf786865d3945a9f99bb8cc14f038ab85692d336e9c58", func := "trunkline/trunklinelaw03.HecCounts", spec := "hecCounts", unfollowed := true, recurses := true, apart := false }
def HecCountsSaid : Prop := hecCountsRow.holds Try.pinned (OpenSpec.ofChange hecCountsSpec)

/-- ITS FALSE NEIGHBOUR: 'it returns false'. Refute it at one input. -/
def hecCountsWrong : ChangeSpec := { name := "hecCounts", fn := fun _ => fun
  | [d] => { results := [.lit (.bool false)], args := [d] }
  | _ => none }
def HecCountsWrongFalsely : Prop := hecCountsRow.holds Try.pinned (OpenSpec.ofChange hecCountsWrong)

/-- 'trunklinelaw03.HecNil': WHATEVER THE INPUT: true; the input reads as it did. -/
def hecNilSpec : ChangeSpec := { name := "hecNil", fn := fun _ => fun
  | [d] => { results := [.lit (.bool true)], args := [d] }
  | _ => none }
def hecNilRow : OpenClaim := { program := "ytlkfgldkgddgaaa", sum := "68786a5628a8f40a7f9bf786865d3945a9f99bb8cc14f038ab85692d336e9c58", func := "trunkline/trunklinelaw03.HecNil", spec := "hecNil", unfollowed := true, recurses := true, apart := false }
def HecNilSaid : Prop := hecNilRow.holds Try.pinned (OpenSpec.ofChange hecNilSpec)

/-- ITS FALSE NEIGHBOUR: 'it returns false'. Refute it at one input. -/
def hecNilWrong : ChangeSpec := { name := "hecNil", fn := fun _ => fun
  | [d] => { results := [.lit (.bool false)], args := [d] }
  | _ => none }
def HecNilWrongFalsely : Prop := hecNilRow.holds Try.pinned (OpenSpec.ofChange hecNilWrong)

/-- 'trunklinelaw03.HecApart': WHATEVER THE INPUT: true; the input reads as it did. -/
def hecApartSpec : ChangeSpec := { name := "hecApart", fn := fun _ => fun
  | [d1, d2, d3] => { results := [.lit (.bool true)], args := [d1, d2, d3] }
  | _ => none }
def hecApartRow : OpenClaim := { program := "ytlkfgldkgddgaaa", sum := "68786a5628a8f40a7f9bf786865d3945a9f99bb8cc14f038ab85692d336e9c58", func := "trunkline/trunklinelaw03.HecApart", spec := "hecApart", unfollowed := true, recurses := true, apart := false }
def HecApartSaid : Prop := hecApartRow.holds Try.pinned (OpenSpec.ofChange hecApartSpec)

/-- ITS FALSE NEIGHBOUR: 'it returns false'. Refute it at one input. -/
def hecApartWrong : ChangeSpec := { name := "hecApart", fn := fun _ => fun
  | [d1, d2, d3] => { results := [.lit (.bool false)], args := [d1, d2, d3] }
  | _ => none }
def HecApartWrongFalsely : Prop := hecApartRow.holds Try.pinned (OpenSpec.ofChange hecApartWrong)

/- THE SECOND FORM. 'bulk': how many values and letters a reading holds, each counted each time it is reached (what is shared counts as often as it is met; a slice's spare places count too). A statement '..UptoSaid' is the law's where the arguments, and the package variables that the reading takes, are together of bulk at most 1048576: NARROWER than '..Said'. Prove '..Said' where nothing that the law and all that it calls make is longer than what came in: it says more and counts as full. Else prove '..UptoSaid'. A law counts once. -/
mutual
def uptoBulk {H : Type} : DataW H → Nat
  | .lit (.string bytes) => bytes.length + 1
  | .lit _ => 1
  | .nil => 1
  | .ptr d => uptoBulk d + 1
  | .slice elems spare => uptoBulkAll elems + uptoBulkAll spare + 1
  | .agg parts => uptoBulkAll parts + 1
  | .iface _ d => uptoBulk d + 1
  | .map entries => uptoBulkEntries entries + 1
  | .held _ => 1
def uptoBulkAll {H : Type} : List (DataW H) → Nat
  | [] => 0
  | d :: r => uptoBulk d + uptoBulkAll r
def uptoBulkEntries {H : Type} : List (Lit × DataW H) → Nat
  | [] => 0
  | x :: r => uptoBulkEntry x + uptoBulkEntries r
def uptoBulkEntry {H : Type} : Lit × DataW H → Nat
  | (.string bytes, d) => bytes.length + uptoBulk d + 1
  | (_, d) => uptoBulk d + 1
 end
def uptoSmall : (H : Type) → List (DataW H) → Bool := fun _ ds => decide (uptoBulkAll ds ≤ 1048576)
def OpenSpec.upto (s : _root_.Go.ChangeSpec) : _root_.Go.OpenSpec := { _root_.Go.OpenSpec.ofChange s with cond := some uptoSmall }

/-- 'trunklinelaw01.SumsBits', WHERE WHAT IT READS IS OF BULK AT MOST 1048576: true; the input reads as it did. -/
def sumsBitsUptoRow : OpenClaim := { program := "ytlkfgldkgddgaaa", sum := "68786a5628a8f40a7f9bf786865d3945a9f99bb8cc14f038ab85692d336e9c58", func := "trunkline/trunklinelaw01.SumsBits", spec := "sumsBits", unfollowed := true, recurses := true, apart := false, narrowed := true }
def SumsBitsUptoSaid : Prop := sumsBitsUptoRow.holds Try.pinned (OpenSpec.upto sumsBitsSpec)

/-- 'trunklinelaw01.SumsTell', WHERE WHAT IT READS IS OF BULK AT MOST 1048576: true; the input reads as it did. -/
def sumsTellUptoRow : OpenClaim := { program := "ytlkfgldkgddgaaa", sum := "68786a5628a8f40a7f9bf786865d3945a9f99bb8cc14f038ab85692d336e9c58", func := "trunkline/trunklinelaw01.SumsTell", spec := "sumsTell", unfollowed := true, recurses := true, apart := false, narrowed := true }
def SumsTellUptoSaid : Prop := sumsTellUptoRow.holds Try.pinned (OpenSpec.upto sumsTellSpec)

/-- 'trunklinelaw01.SumsBursts', WHERE WHAT IT READS IS OF BULK AT MOST 1048576: true; the input reads as it did. -/
def sumsBurstsUptoRow : OpenClaim := { program := "ytlkfgldkgddgaaa", sum := "68786a5628a8f40a7f9bf786865d3945a9f99bb8cc14f038ab85692d336e9c58", func := "trunkline/trunklinelaw01.SumsBursts", spec := "sumsBursts", unfollowed := true, recurses := true, apart := false, narrowed := true }
def SumsBurstsUptoSaid : Prop := sumsBurstsUptoRow.holds Try.pinned (OpenSpec.upto sumsBurstsSpec)

/-- 'trunklinelaw01.SumsJoin', WHERE WHAT IT READS IS OF BULK AT MOST 1048576: true; the input reads as it did. -/
def sumsJoinUptoRow : OpenClaim := { program := "ytlkfgldkgddgaaa", sum := "68786a5628a8f40a7f9bf786865d3945a9f99bb8cc14f038ab85692d336e9c58", func := "trunkline/trunklinelaw01.SumsJoin", spec := "sumsJoin", unfollowed := true, recurses := true, apart := false, narrowed := true }
def SumsJoinUptoSaid : Prop := sumsJoinUptoRow.holds Try.pinned (OpenSpec.upto sumsJoinSpec)

/-- 'trunklinelaw01.SumsSides', WHERE WHAT IT READS IS OF BULK AT MOST 1048576: true; the input reads as it did. -/
def sumsSidesUptoRow : OpenClaim := { program := "ytlkfgldkgddgaaa", sum := "68786a5628a8f40a7f9bf786865d3945a9f99bb8cc14f038ab85692d336e9c58", func := "trunkline/trunklinelaw01.SumsSides", spec := "sumsSides", unfollowed := true, recurses := true, apart := false, narrowed := true }
def SumsSidesUptoSaid : Prop := sumsSidesUptoRow.holds Try.pinned (OpenSpec.upto sumsSidesSpec)

/-- 'trunklinelaw01.SumsBegin', WHERE WHAT IT READS IS OF BULK AT MOST 1048576: true; the input reads as it did. -/
def sumsBeginUptoRow : OpenClaim := { program := "ytlkfgldkgddgaaa", sum := "68786a5628a8f40a7f9bf786865d3945a9f99bb8cc14f038ab85692d336e9c58", func := "trunkline/trunklinelaw01.SumsBegin", spec := "sumsBegin", unfollowed := true, recurses := true, apart := false, narrowed := true }
def SumsBeginUptoSaid : Prop := sumsBeginUptoRow.holds Try.pinned (OpenSpec.upto sumsBeginSpec)

/-- 'trunklinelaw03.HecTakes', WHERE WHAT IT READS IS OF BULK AT MOST 1048576: true; the input reads as it did. -/
def hecTakesUptoRow : OpenClaim := { program := "ytlkfgldkgddgaaa", sum := "68786a5628a8f40a7f9bf786865d3945a9f99bb8cc14f038ab85692d336e9c58", func := "trunkline/trunklinelaw03.HecTakes", spec := "hecTakes", unfollowed := true, recurses := true, apart := false, narrowed := true }
def HecTakesUptoSaid : Prop := hecTakesUptoRow.holds Try.pinned (OpenSpec.upto hecTakesSpec)

/-- 'trunklinelaw03.HecSeals', WHERE WHAT IT READS IS OF BULK AT MOST 1048576: true; the input reads as it did. -/
def hecSealsUptoRow : OpenClaim := { program := "ytlkfgldkgddgaaa", sum := "68786a5628a8f40a7f9bf786865d3945a9f99bb8cc14f038ab85692d336e9c58", func := "trunkline/trunklinelaw03.HecSeals", spec := "hecSeals", unfollowed := true, recurses := true, apart := false, narrowed := true }
def HecSealsUptoSaid : Prop := hecSealsUptoRow.holds Try.pinned (OpenSpec.upto hecSealsSpec)

/-- 'trunklinelaw03.HecRepairs', WHERE WHAT IT READS IS OF BULK AT MOST 1048576: true; the input reads as it did. -/
def hecRepairsUptoRow : OpenClaim := { program := "ytlkfgldkgddgaaa", sum := "68786a5628a8f40a7f9bf786865d3945a9f99bb8cc14f038ab85692d336e9c58", func := "trunkline/trunklinelaw03.HecRepairs", spec := "hecRepairs", unfollowed := true, recurses := true, apart := false, narrowed := true }
def HecRepairsUptoSaid : Prop := hecRepairsUptoRow.holds Try.pinned (OpenSpec.upto hecRepairsSpec)

/-- 'trunklinelaw03.HecCounts', WHERE WHAT IT READS IS OF BULK AT MOST 1048576: true; the input reads as it did. -/
def hecCountsUptoRow : OpenClaim := { program := "ytlkfgldkgddgaaa", sum := "68786a5628a8f40a7f9bf786865d3945a9f99bb8cc14f038ab85692d336e9c58", func := "trunkline/trunklinelaw03.HecCounts", spec := "hecCounts", unfollowed := true, recurses := true, apart := false, narrowed := true }
def HecCountsUptoSaid : Prop := hecCountsUptoRow.holds Try.pinned (OpenSpec.upto hecCountsSpec)

/-- 'trunklinelaw03.HecNil', WHERE WHAT IT READS IS OF BULK AT MOST 1048576: true; the input reads as it did. -/
def hecNilUptoRow : OpenClaim := { program := "ytlkfgldkgddgaaa", sum := "68786a5628a8f40a7f9bf786865d3945a9f99bb8cc14f038ab85692d336e9c58", func := "trunkline/trunklinelaw03.HecNil", spec := "hecNil", unfollowed := true, recurses := true, apart := false, narrowed := true }
def HecNilUptoSaid : Prop := hecNilUptoRow.holds Try.pinned (OpenSpec.upto hecNilSpec)

/-- 'trunklinelaw03.HecApart', WHERE WHAT IT READS IS OF BULK AT MOST 1048576: true; the input reads as it did. -/
def hecApartUptoRow : OpenClaim := { program := "ytlkfgldkgddgaaa", sum := "68786a5628a8f40a7f9bf786865d3945a9f99bb8cc14f038ab85692d336e9c58", func := "trunkline/trunklinelaw03.HecApart", spec := "hecApart", unfollowed := true, recurses := true, apart := false, narrowed := true }
def HecApartUptoSaid : Prop := hecApartUptoRow.holds Try.pinned (OpenSpec.upto hecApartSpec)

end Rows
end Go.Proofs.Ytlkfgldkgddgaaa
