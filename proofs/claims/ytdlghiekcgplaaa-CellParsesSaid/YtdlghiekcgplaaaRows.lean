/-
  No cell of these rows narrows 'for every input' (looked for: loops, veiled, ifaces, maps, wideKeys, modest, calm, conditions, laid).
  DERIVED. THE GIVEN ROWS OF THIS SEAT. 13 by the template 'for every input the law returns true; each argument reads behind the call as it read before'; 0 by the template 'total and deterministic' (their statements: YtdlghiekcgplaaaTotals.lean).
  GIVEN WITH THE SEED: the statements are not yours to turn. If you find one false, say at which input.
  Laid BY PROGRAM, IN A SANDBOX (cutbox-rows.mjs): the forced cells as the released guide's own fill.sh prints them over the translation 5b8bf577d87550ad… (all of the seat's roots in one cut). By AI agents, Wed Nov 11 2026. No macro, syntax, notation, axiom, sorry.
-/
import Derived.Test.YtdlghiekcgplaaaChecked
import GoSem.Claim
import GoSem.ClaimJoined
import GoSem.ClaimMapViews
import Derived.JoinedTies
import Derived.KernelRfl
namespace Go.Proofs.Ytdlghiekcgplaaa
/- THE CELL 'sum', in the pinned program and in every row, IS THE sha256 OF THE DUMP (.gsa) THAT YtdlghiekcgplaaaProg.lean LOADS. Nothing in Lean hashes anything: it is a label: what it is worth is what the hold of that sum in a sandbox is worth. -/
noncomputable def Try.pinned : Pinned := { name := "ytdlghiekcgplaaa", sum := "5b8bf577d87550ad3ee5f6b2770543eba96a68cf1d95b5d3a2626d292800be8f", checked := Try.checked }
namespace Rows
def none {H : Type} : Left H := { results := [], args := [] }

/-- 'trunklinelaw02.HeaderKinds': WHATEVER THE INPUT: true; the input reads as it did. -/
def headerKindsSpec : ChangeSpec := { name := "headerKinds", fn := fun _ => fun
  | [d1, d2, d3] => { results := [.lit (.bool true)], args := [d1, d2, d3] }
  | _ => none }
def headerKindsRow : OpenClaim := { program := "ytdlghiekcgplaaa", sum := "5b8bf577d87550ad3ee5f6b2770543eba96a68cf1d95b5d3a2626d292800be8f", func := "trunkline/trunklinelaw02.HeaderKinds", spec := "headerKinds", apart := false }
def HeaderKindsSaid : Prop := headerKindsRow.holds Try.pinned (OpenSpec.ofChange headerKindsSpec)

/-- ITS FALSE NEIGHBOUR: 'it returns false'. Refute it at one input. -/
def headerKindsWrong : ChangeSpec := { name := "headerKinds", fn := fun _ => fun
  | [d1, d2, d3] => { results := [.lit (.bool false)], args := [d1, d2, d3] }
  | _ => none }
def HeaderKindsWrongFalsely : Prop := headerKindsRow.holds Try.pinned (OpenSpec.ofChange headerKindsWrong)

/-- 'trunklinelaw02.HeaderSides': WHATEVER THE INPUT: true; the input reads as it did. -/
def headerSidesSpec : ChangeSpec := { name := "headerSides", fn := fun _ => fun
  | [d] => { results := [.lit (.bool true)], args := [d] }
  | _ => none }
def headerSidesRow : OpenClaim := { program := "ytdlghiekcgplaaa", sum := "5b8bf577d87550ad3ee5f6b2770543eba96a68cf1d95b5d3a2626d292800be8f", func := "trunkline/trunklinelaw02.HeaderSides", spec := "headerSides", apart := false }
def HeaderSidesSaid : Prop := headerSidesRow.holds Try.pinned (OpenSpec.ofChange headerSidesSpec)

/-- ITS FALSE NEIGHBOUR: 'it returns false'. Refute it at one input. -/
def headerSidesWrong : ChangeSpec := { name := "headerSides", fn := fun _ => fun
  | [d] => { results := [.lit (.bool false)], args := [d] }
  | _ => none }
def HeaderSidesWrongFalsely : Prop := headerSidesRow.holds Try.pinned (OpenSpec.ofChange headerSidesWrong)

/-- 'trunklinelaw02.HeaderTells': WHATEVER THE INPUT: true; the input reads as it did. -/
def headerTellsSpec : ChangeSpec := { name := "headerTells", fn := fun _ => fun
  | [d1, d2, d3] => { results := [.lit (.bool true)], args := [d1, d2, d3] }
  | _ => none }
def headerTellsRow : OpenClaim := { program := "ytdlghiekcgplaaa", sum := "5b8bf577d87550ad3ee5f6b2770543eba96a68cf1d95b5d3a2626d292800be8f", func := "trunkline/trunklinelaw02.HeaderTells", spec := "headerTells", apart := false }
def HeaderTellsSaid : Prop := headerTellsRow.holds Try.pinned (OpenSpec.ofChange headerTellsSpec)

/-- ITS FALSE NEIGHBOUR: 'it returns false'. Refute it at one input. -/
def headerTellsWrong : ChangeSpec := { name := "headerTells", fn := fun _ => fun
  | [d1, d2, d3] => { results := [.lit (.bool false)], args := [d1, d2, d3] }
  | _ => none }
def HeaderTellsWrongFalsely : Prop := headerTellsRow.holds Try.pinned (OpenSpec.ofChange headerTellsWrong)

/-- 'trunklinelaw02.HeaderBack': WHATEVER THE INPUT: true; the input reads as it did. -/
def headerBackSpec : ChangeSpec := { name := "headerBack", fn := fun _ => fun
  | [d1, d2, d3] => { results := [.lit (.bool true)], args := [d1, d2, d3] }
  | _ => none }
def headerBackRow : OpenClaim := { program := "ytdlghiekcgplaaa", sum := "5b8bf577d87550ad3ee5f6b2770543eba96a68cf1d95b5d3a2626d292800be8f", func := "trunkline/trunklinelaw02.HeaderBack", spec := "headerBack", apart := false }
def HeaderBackSaid : Prop := headerBackRow.holds Try.pinned (OpenSpec.ofChange headerBackSpec)

/-- ITS FALSE NEIGHBOUR: 'it returns false'. Refute it at one input. -/
def headerBackWrong : ChangeSpec := { name := "headerBack", fn := fun _ => fun
  | [d1, d2, d3] => { results := [.lit (.bool false)], args := [d1, d2, d3] }
  | _ => none }
def HeaderBackWrongFalsely : Prop := headerBackRow.holds Try.pinned (OpenSpec.ofChange headerBackWrong)

/-- 'trunklinelaw02.HeaderShort': WHATEVER THE INPUT: true; the input reads as it did. -/
def headerShortSpec : ChangeSpec := { name := "headerShort", fn := fun _ => fun
  | [d1, d2] => { results := [.lit (.bool true)], args := [d1, d2] }
  | _ => none }
def headerShortRow : OpenClaim := { program := "ytdlghiekcgplaaa", sum := "5b8bf577d87550ad3ee5f6b2770543eba96a68cf1d95b5d3a2626d292800be8f", func := "trunkline/trunklinelaw02.HeaderShort", spec := "headerShort", apart := false }
def HeaderShortSaid : Prop := headerShortRow.holds Try.pinned (OpenSpec.ofChange headerShortSpec)

/-- ITS FALSE NEIGHBOUR: 'it returns false'. Refute it at one input. -/
def headerShortWrong : ChangeSpec := { name := "headerShort", fn := fun _ => fun
  | [d1, d2] => { results := [.lit (.bool false)], args := [d1, d2] }
  | _ => none }
def HeaderShortWrongFalsely : Prop := headerShortRow.holds Try.pinned (OpenSpec.ofChange headerShortWrong)

/-- 'trunklinelaw02.HeaderUnlike': WHATEVER THE INPUT: true; the input reads as it did. -/
def headerUnlikeSpec : ChangeSpec := { name := "headerUnlike", fn := fun _ => fun
  | [d1, d2, d3, d4, d5] => { results := [.lit (.bool true)], args := [d1, d2, d3, d4, d5] }
  | _ => none }
def headerUnlikeRow : OpenClaim := { program := "ytdlghiekcgplaaa", sum := "5b8bf577d87550ad3ee5f6b2770543eba96a68cf1d95b5d3a2626d292800be8f", func := "trunkline/trunklinelaw02.HeaderUnlike", spec := "headerUnlike", apart := false }
def HeaderUnlikeSaid : Prop := headerUnlikeRow.holds Try.pinned (OpenSpec.ofChange headerUnlikeSpec)

/-- ITS FALSE NEIGHBOUR: 'it returns false'. Refute it at one input. -/
def headerUnlikeWrong : ChangeSpec := { name := "headerUnlike", fn := fun _ => fun
  | [d1, d2, d3, d4, d5] => { results := [.lit (.bool false)], args := [d1, d2, d3, d4, d5] }
  | _ => none }
def HeaderUnlikeWrongFalsely : Prop := headerUnlikeRow.holds Try.pinned (OpenSpec.ofChange headerUnlikeWrong)

/-- 'trunklinelaw04.CellBuilds': WHATEVER THE INPUT: true; the input reads as it did. -/
def cellBuildsSpec : ChangeSpec := { name := "cellBuilds", fn := fun _ => fun
  | [d1, d2, d3] => { results := [.lit (.bool true)], args := [d1, d2, d3] }
  | _ => none }
def cellBuildsRow : OpenClaim := { program := "ytdlghiekcgplaaa", sum := "5b8bf577d87550ad3ee5f6b2770543eba96a68cf1d95b5d3a2626d292800be8f", func := "trunkline/trunklinelaw04.CellBuilds", spec := "cellBuilds", unfollowed := true, recurses := true, apart := false }
def CellBuildsSaid : Prop := cellBuildsRow.holds Try.pinned (OpenSpec.ofChange cellBuildsSpec)

/-- ITS FALSE NEIGHBOUR: 'it returns false'. Refute it at one input. -/
def cellBuildsWrong : ChangeSpec := { name := "cellBuilds", fn := fun _ => fun
  | [d1, d2, d3] => { results := [.lit (.bool false)], args := [d1, d2, d3] }
  | _ => none }
def CellBuildsWrongFalsely : Prop := cellBuildsRow.holds Try.pinned (OpenSpec.ofChange cellBuildsWrong)

/-- 'trunklinelaw04.CellSeals': WHATEVER THE INPUT: true; the input reads as it did. -/
def cellSealsSpec : ChangeSpec := { name := "cellSeals", fn := fun _ => fun
  | [d1, d2, d3] => { results := [.lit (.bool true)], args := [d1, d2, d3] }
  | _ => none }
def cellSealsRow : OpenClaim := { program := "ytdlghiekcgplaaa", sum := "5b8bf577d87550ad3ee5f6b2770543eba96a68cf1d95b5d3a2626d292800be8f", func := "trunkline/trunklinelaw04.CellSeals", spec := "cellSeals", unfollowed := true, recurses := true, apart := false }
def CellSealsSaid : Prop := cellSealsRow.holds Try.pinned (OpenSpec.ofChange cellSealsSpec)

/-- ITS FALSE NEIGHBOUR: 'it returns false'. Refute it at one input. -/
def cellSealsWrong : ChangeSpec := { name := "cellSeals", fn := fun _ => fun
  | [d1, d2, d3] => { results := [.lit (.bool false)], args := [d1, d2, d3] }
  | _ => none }
def CellSealsWrongFalsely : Prop := cellSealsRow.holds Try.pinned (OpenSpec.ofChange cellSealsWrong)

/-- 'trunklinelaw04.CellEmpty': WHATEVER THE INPUT: true; the input reads as it did. -/
def cellEmptySpec : ChangeSpec := { name := "cellEmpty", fn := fun _ => fun
  | [d1, d2, d3] => { results := [.lit (.bool true)], args := [d1, d2, d3] }
  | _ => none }
def cellEmptyRow : OpenClaim := { program := "ytdlghiekcgplaaa", sum := "5b8bf577d87550ad3ee5f6b2770543eba96a68cf1d95b5d3a2626d292800be8f", func := "trunkline/trunklinelaw04.CellEmpty", spec := "cellEmpty", unfollowed := true, recurses := true, apart := false }
def CellEmptySaid : Prop := cellEmptyRow.holds Try.pinned (OpenSpec.ofChange cellEmptySpec)

/-- ITS FALSE NEIGHBOUR: 'it returns false'. Refute it at one input. -/
def cellEmptyWrong : ChangeSpec := { name := "cellEmpty", fn := fun _ => fun
  | [d1, d2, d3] => { results := [.lit (.bool false)], args := [d1, d2, d3] }
  | _ => none }
def CellEmptyWrongFalsely : Prop := cellEmptyRow.holds Try.pinned (OpenSpec.ofChange cellEmptyWrong)

/-- 'trunklinelaw04.CellSides': WHATEVER THE INPUT: true; the input reads as it did. -/
def cellSidesSpec : ChangeSpec := { name := "cellSides", fn := fun _ => fun
  | [d1, d2] => { results := [.lit (.bool true)], args := [d1, d2] }
  | _ => none }
def cellSidesRow : OpenClaim := { program := "ytdlghiekcgplaaa", sum := "5b8bf577d87550ad3ee5f6b2770543eba96a68cf1d95b5d3a2626d292800be8f", func := "trunkline/trunklinelaw04.CellSides", spec := "cellSides", unfollowed := true, recurses := true, apart := false }
def CellSidesSaid : Prop := cellSidesRow.holds Try.pinned (OpenSpec.ofChange cellSidesSpec)

/-- ITS FALSE NEIGHBOUR: 'it returns false'. Refute it at one input. -/
def cellSidesWrong : ChangeSpec := { name := "cellSides", fn := fun _ => fun
  | [d1, d2] => { results := [.lit (.bool false)], args := [d1, d2] }
  | _ => none }
def CellSidesWrongFalsely : Prop := cellSidesRow.holds Try.pinned (OpenSpec.ofChange cellSidesWrong)

/-- 'trunklinelaw04.CellUnlike': WHATEVER THE INPUT: true; the input reads as it did. -/
def cellUnlikeSpec : ChangeSpec := { name := "cellUnlike", fn := fun _ => fun
  | [d1, d2, d3, d4, d5] => { results := [.lit (.bool true)], args := [d1, d2, d3, d4, d5] }
  | _ => none }
def cellUnlikeRow : OpenClaim := { program := "ytdlghiekcgplaaa", sum := "5b8bf577d87550ad3ee5f6b2770543eba96a68cf1d95b5d3a2626d292800be8f", func := "trunkline/trunklinelaw04.CellUnlike", spec := "cellUnlike", unfollowed := true, recurses := true, apart := false }
def CellUnlikeSaid : Prop := cellUnlikeRow.holds Try.pinned (OpenSpec.ofChange cellUnlikeSpec)

/-- ITS FALSE NEIGHBOUR: 'it returns false'. Refute it at one input. -/
def cellUnlikeWrong : ChangeSpec := { name := "cellUnlike", fn := fun _ => fun
  | [d1, d2, d3, d4, d5] => { results := [.lit (.bool false)], args := [d1, d2, d3, d4, d5] }
  | _ => none }
def CellUnlikeWrongFalsely : Prop := cellUnlikeRow.holds Try.pinned (OpenSpec.ofChange cellUnlikeWrong)

/-- 'trunklinelaw04.CellBack': WHATEVER THE INPUT: true; the input reads as it did. -/
def cellBackSpec : ChangeSpec := { name := "cellBack", fn := fun _ => fun
  | [d1, d2, d3, d4] => { results := [.lit (.bool true)], args := [d1, d2, d3, d4] }
  | _ => none }
def cellBackRow : OpenClaim := { program := "ytdlghiekcgplaaa", sum := "5b8bf577d87550ad3ee5f6b2770543eba96a68cf1d95b5d3a2626d292800be8f", func := "trunkline/trunklinelaw04.CellBack", spec := "cellBack", unfollowed := true, recurses := true, apart := false }
def CellBackSaid : Prop := cellBackRow.holds Try.pinned (OpenSpec.ofChange cellBackSpec)

/-- ITS FALSE NEIGHBOUR: 'it returns false'. Refute it at one input. -/
def cellBackWrong : ChangeSpec := { name := "cellBack", fn := fun _ => fun
  | [d1, d2, d3, d4] => { results := [.lit (.bool false)], args := [d1, d2, d3, d4] }
  | _ => none }
def CellBackWrongFalsely : Prop := cellBackRow.holds Try.pinned (OpenSpec.ofChange cellBackWrong)

/-- 'trunklinelaw04.CellParses': WHATEVER THE INPUT: true; the input reads as it did. -/
def cellParsesSpec : ChangeSpec := { name := "cellParses", fn := fun _ => fun
  | [d1, d2] => { results := [.lit (.bool true)], args := [d1, d2] }
  | _ => none }
def cellParsesRow : OpenClaim := { program := "ytdlghiekcgplaaa", sum := "5b8bf577d87550ad3ee5f6b2770543eba96a68cf1d95b5d3a2626d292800be8f", func := "trunkline/trunklinelaw04.CellParses", spec := "cellParses", unfollowed := true, recurses := true, apart := false }
def CellParsesSaid : Prop := cellParsesRow.holds Try.pinned (OpenSpec.ofChange cellParsesSpec)

/-- ITS FALSE NEIGHBOUR: 'it returns false'. Refute it at one input. -/
def cellParsesWrong : ChangeSpec := { name := "cellParses", fn := fun _ => fun
  | [d1, d2] => { results := [.lit (.bool false)], args := [d1, d2] }
  | _ => none }
def CellParsesWrongFalsely : Prop := cellParsesRow.holds Try.pinned (OpenSpec.ofChange cellParsesWrong)

/- THE SECOND FORM. 'bulk': how many values and letters a reading holds, each counted each time it is reached (what is shared counts as often as it is met; a slice's spare places count too). A statement '..UptoSaid' is the law's where the arguments, and the package variables that the reading takes, are together of bulk at most 1048576: NARROWER than '..Said'. Prove '..Said' where nothing that the law and all that it calls make is longer than what came in: it says more and counts as full. Else prove '..UptoSaid'. A law counts once. -/
mutual
def uptoBulk {H : Type} : DataW H → Nat
  | .lit (.string bytes) => bytes.length + 1
  | .lit _ => 1
  | .nil => 1
  | .ptr d => uptoBulk d + 1
  | .slice elems spare => uptoBulkAll elems + uptoBulkAll spare + 1
  | .agg parts => uptoBulkAll parts + 1
  | .iface _ d => uptoBulk d + 1
  | .map entries => uptoBulkEntries entries + 1
  | .held _ => 1
def uptoBulkAll {H : Type} : List (DataW H) → Nat
  | [] => 0
  | d :: r => uptoBulk d + uptoBulkAll r
def uptoBulkEntries {H : Type} : List (Lit × DataW H) → Nat
  | [] => 0
  | x :: r => uptoBulkEntry x + uptoBulkEntries r
def uptoBulkEntry {H : Type} : Lit × DataW H → Nat
  | (.string bytes, d) => bytes.length + uptoBulk d + 1
  | (_, d) => uptoBulk d + 1
 end
def uptoSmall : (H : Type) → List (DataW H) → Bool := fun _ ds => decide (uptoBulkAll ds ≤ 1048576)
def OpenSpec.upto (s : _root_.Go.ChangeSpec) : _root_.Go.OpenSpec := { _root_.Go.OpenSpec.ofChange s with cond := some uptoSmall }

/-- 'trunklinelaw02.HeaderKinds', WHERE WHAT IT READS IS OF BULK AT MOST 1048576: true; the input reads as it did. -/
def headerKindsUptoRow : OpenClaim := { program := "ytdlghiekcgplaaa", sum := "5b8bf577d87550ad3ee5f6b2770543eba96a68cf1d95b5d3a2626d292800be8f", func := "trunkline/trunklinelaw02.HeaderKinds", spec := "headerKinds", apart := false, narrowed := true }
def HeaderKindsUptoSaid : Prop := headerKindsUptoRow.holds Try.pinned (OpenSpec.upto headerKindsSpec)

/-- 'trunklinelaw02.HeaderSides', WHERE WHAT IT READS IS OF BULK AT MOST 1048576: true; the input reads as it did. -/
def headerSidesUptoRow : OpenClaim := { program := "ytdlghiekcgplaaa", sum := "5b8bf577d87550ad3ee5f6b2770543eba96a68cf1d95b5d3a2626d292800be8f", func := "trunkline/trunklinelaw02.HeaderSides", spec := "headerSides", apart := false, narrowed := true }
def HeaderSidesUptoSaid : Prop := headerSidesUptoRow.holds Try.pinned (OpenSpec.upto headerSidesSpec)

/-- 'trunklinelaw02.HeaderTells', WHERE WHAT IT READS IS OF BULK AT MOST 1048576: true; the input reads as it did. -/
def headerTellsUptoRow : OpenClaim := { program := "ytdlghiekcgplaaa", sum := "5b8bf577d87550ad3ee5f6b2770543eba96a68cf1d95b5d3a2626d292800be8f", func := "trunkline/trunklinelaw02.HeaderTells", spec := "headerTells", apart := false, narrowed := true }
def HeaderTellsUptoSaid : Prop := headerTellsUptoRow.holds Try.pinned (OpenSpec.upto headerTellsSpec)

/-- 'trunklinelaw02.HeaderBack', WHERE WHAT IT READS IS OF BULK AT MOST 1048576: true; the input reads as it did. -/
def headerBackUptoRow : OpenClaim := { program := "ytdlghiekcgplaaa", sum := "5b8bf577d87550ad3ee5f6b2770543eba96a68cf1d95b5d3a2626d292800be8f", func := "trunkline/trunklinelaw02.HeaderBack", spec := "headerBack", apart := false, narrowed := true }
def HeaderBackUptoSaid : Prop := headerBackUptoRow.holds Try.pinned (OpenSpec.upto headerBackSpec)

/-- 'trunklinelaw02.HeaderShort', WHERE WHAT IT READS IS OF BULK AT MOST 1048576: true; the input reads as it did. -/
def headerShortUptoRow : OpenClaim := { program := "ytdlghiekcgplaaa", sum := "5b8bf577d87550ad3ee5f6b2770543eba96a68cf1d95b5d3a2626d292800be8f", func := "trunkline/trunklinelaw02.HeaderShort", spec := "headerShort", apart := false, narrowed := true }
def HeaderShortUptoSaid : Prop := headerShortUptoRow.holds Try.pinned (OpenSpec.upto headerShortSpec)

/-- 'trunklinelaw02.HeaderUnlike', WHERE WHAT IT READS IS OF BULK AT MOST 1048576: true; the input reads as it did. -/
def headerUnlikeUptoRow : OpenClaim := { program := "ytdlghiekcgplaaa", sum := "5b8bf577d87550ad3ee5f6b2770543eba96a68cf1d95b5d3a2626d292800be8f", func := "trunkline/trunklinelaw02.HeaderUnlike", spec := "headerUnlike", apart := false, narrowed := true }
def HeaderUnlikeUptoSaid : Prop := headerUnlikeUptoRow.holds Try.pinned (OpenSpec.upto headerUnlikeSpec)

/-- 'trunklinelaw04.CellBuilds', WHERE WHAT IT READS IS OF BULK AT MOST 1048576: true; the input reads as it did. -/
def cellBuildsUptoRow : OpenClaim := { program := "ytdlghiekcgplaaa", sum := "5b8bf577d87550ad3ee5f6b2770543eba96a68cf1d95b5d3a2626d292800be8f", func := "trunkline/trunklinelaw04.CellBuilds", spec := "cellBuilds", unfollowed := true, recurses := true, apart := false, narrowed := true }
def CellBuildsUptoSaid : Prop := cellBuildsUptoRow.holds Try.pinned (OpenSpec.upto cellBuildsSpec)

/-- 'trunklinelaw04.CellSeals', WHERE WHAT IT READS IS OF BULK AT MOST 1048576: true; the input reads as it did. -/
def cellSealsUptoRow : OpenClaim := { program := "ytdlghiekcgplaaa", sum := "5b8bf577d87550ad3ee5f6b2770543eba96a68cf1d95b5d3a2626d292800be8f", func := "trunkline/trunklinelaw04.CellSeals", spec := "cellSeals", unfollowed := true, recurses := true, apart := false, narrowed := true }
def CellSealsUptoSaid : Prop := cellSealsUptoRow.holds Try.pinned (OpenSpec.upto cellSealsSpec)

/-- 'trunklinelaw04.CellEmpty', WHERE WHAT IT READS IS OF BULK AT MOST 1048576: true; the input reads as it did. -/
def cellEmptyUptoRow : OpenClaim := { program := "ytdlghiekcgplaaa", sum := "5b8bf577d87550ad3ee5f6b2770543eba96a68cf1d95b5d3a2626d292800be8f", func := "trunkline/trunklinelaw04.CellEmpty", spec := "cellEmpty", unfollowed := true, recurses := true, apart := false, narrowed := true }
def CellEmptyUptoSaid : Prop := cellEmptyUptoRow.holds Try.pinned (OpenSpec.upto cellEmptySpec)

/-- 'trunklinelaw04.CellSides', WHERE WHAT IT READS IS OF BULK AT MOST 1048576: true; the input reads as it did. -/
def cellSidesUptoRow : OpenClaim := { program := "ytdlghiekcgplaaa", sum := "5b8bf577d87550ad3ee5f6b2770543eba96a68cf1d95b5d3a2626d292800be8f", func := "trunkline/trunklinelaw04.CellSides", spec := "cellSides", unfollowed := true, recurses := true, apart := false, narrowed := true }
def CellSidesUptoSaid : Prop := cellSidesUptoRow.holds Try.pinned (OpenSpec.upto cellSidesSpec)

/-- 'trunklinelaw04.CellUnlike', WHERE WHAT IT READS IS OF BULK AT MOST 1048576: true; the input reads as it did. -/
def cellUnlikeUptoRow : OpenClaim := { program := "ytdlghiekcgplaaa", sum := "5b8bf577d87550ad3ee5f6b2770543eba96a68cf1d95b5d3a2626d292800be8f", func := "trunkline/trunklinelaw04.CellUnlike", spec := "cellUnlike", unfollowed := true, recurses := true, apart := false, narrowed := true }
def CellUnlikeUptoSaid : Prop := cellUnlikeUptoRow.holds Try.pinned (OpenSpec.upto cellUnlikeSpec)

/-- 'trunklinelaw04.CellBack', WHERE WHAT IT READS IS OF BULK AT MOST 1048576: true; the input reads as it did. -/
def cellBackUptoRow : OpenClaim := { program := "ytdlghiekcgplaaa", sum := "5b8bf577d87550ad3ee5f6b2770543eba96a68cf1d95b5d3a2626d292800be8f", func := "trunkline/trunklinelaw04.CellBack", spec := "cellBack", unfollowed := true, recurses := true, apart := false, narrowed := true }
def CellBackUptoSaid : Prop := cellBackUptoRow.holds Try.pinned (OpenSpec.upto cellBackSpec)

/-- 'trunklinelaw04.CellParses', WHERE WHAT IT READS IS OF BULK AT MOST 1048576: true; the input reads as it did. -/
def cellParsesUptoRow : OpenClaim := { program := "ytdlghiekcgplaaa", sum := "5b8bf577d87550ad3ee5f6b2770543eba96a68cf1d95b5d3a2626d292800be8f", func := "trunkline/trunklinelaw04.CellParses", spec := "cellParses", unfollowed := true, recurses := true, apart := false, narrowed := true }
def CellParsesUptoSaid : Prop := cellParsesUptoRow.holds Try.pinned (OpenSpec.upto cellParsesSpec)

end Rows
end Go.Proofs.Ytdlghiekcgplaaa
