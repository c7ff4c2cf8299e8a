/-
  No cell of these rows narrows 'for every input' (looked for: loops, veiled, ifaces, maps, wideKeys, modest, calm, conditions, laid).
  DERIVED. THE GIVEN ROWS OF THIS SEAT. 13 by the template 'for every input the law returns true; each argument reads behind the call as it read before'; 0 by the template 'total and deterministic' (their statements: YtpkfaempgibfaaaTotals.lean).
  GIVEN WITH THE SEED: the statements are not yours to turn. If you find one false, say at which input.
  Laid BY PROGRAM, IN A SANDBOX (cutbox-rows.mjs): the forced cells as the released guide's own fill.sh prints them over the translation cc7cab205d208642… (all of the seat's roots in one cut). By AI agents, Wed Nov 11 2026. No macro, syntax, notation, axiom, sorry.
-/
import Derived.Test.YtpkfaempgibfaaaChecked
import GoSem.Claim
import GoSem.ClaimJoined
import GoSem.ClaimMapViews
import Derived.JoinedTies
import Derived.KernelRfl
namespace Go.Proofs.Ytpkfaempgibfaaa
/- THE CELL 'sum', in the pinned program and in every row, IS THE sha256 OF THE DUMP (.gsa) THAT YtpkfaempgibfaaaProg.lean LOADS. Nothing in Lean hashes anything: it is a label: what it is worth is what the hold of that sum in a sandbox is worth. -/
noncomputable def Try.pinned : Pinned := { name := "ytpkfaempgibfaaa", sum := "cc7cab205d2086424637da9e854fb95a86aa53b74eb60d2b1b5aa2be319df6ad", checked := Try.checked }
namespace Rows
def none {H : Type} : Left H := { results := [], args := [] }

/-- 'trunklinelaw12.RateTells': WHATEVER THE INPUT: true; the input reads as it did. -/
def rateTellsSpec : ChangeSpec := { name := "rateTells", fn := fun _ => fun
  | [d1, d2] => { results := [.lit (.bool true)], args := [d1, d2] }
  | _ => none }
def rateTellsRow : OpenClaim := { program := "ytpkfaempgibfaaa", sum := "cc7cab205d2086424637da9e854fb95a86aa53b74eb60d2b1b5aa2be319df6ad", func := "trunkline/trunklinelaw12.RateTells", spec := "rateTells", apart := false }
def RateTellsSaid : Prop := rateTellsRow.holds Try.pinned (OpenSpec.ofChange rateTellsSpec)

/-- ITS FALSE NEIGHBOUR: 'it returns false'. Refute it at one input. -/
def rateTellsWrong : ChangeSpec := { name := "rateTells", fn := fun _ => fun
  | [d1, d2] => { results := [.lit (.bool false)], args := [d1, d2] }
  | _ => none }
def RateTellsWrongFalsely : Prop := rateTellsRow.holds Try.pinned (OpenSpec.ofChange rateTellsWrong)

/-- 'trunklinelaw12.RateOrder': WHATEVER THE INPUT: true; the input reads as it did. -/
def rateOrderSpec : ChangeSpec := { name := "rateOrder", fn := fun _ => fun
  | [d1, d2, d3, d4] => { results := [.lit (.bool true)], args := [d1, d2, d3, d4] }
  | _ => none }
def rateOrderRow : OpenClaim := { program := "ytpkfaempgibfaaa", sum := "cc7cab205d2086424637da9e854fb95a86aa53b74eb60d2b1b5aa2be319df6ad", func := "trunkline/trunklinelaw12.RateOrder", spec := "rateOrder", apart := false }
def RateOrderSaid : Prop := rateOrderRow.holds Try.pinned (OpenSpec.ofChange rateOrderSpec)

/-- ITS FALSE NEIGHBOUR: 'it returns false'. Refute it at one input. -/
def rateOrderWrong : ChangeSpec := { name := "rateOrder", fn := fun _ => fun
  | [d1, d2, d3, d4] => { results := [.lit (.bool false)], args := [d1, d2, d3, d4] }
  | _ => none }
def RateOrderWrongFalsely : Prop := rateOrderRow.holds Try.pinned (OpenSpec.ofChange rateOrderWrong)

/-- 'trunklinelaw12.RateNear': WHATEVER THE INPUT: true; the input reads as it did. -/
def rateNearSpec : ChangeSpec := { name := "rateNear", fn := fun _ => fun
  | [d] => { results := [.lit (.bool true)], args := [d] }
  | _ => none }
def rateNearRow : OpenClaim := { program := "ytpkfaempgibfaaa", sum := "cc7cab205d2086424637da9e854fb95a86aa53b74eb60d2b1b5aa2be319df6ad", func := "trunkline/trunklinelaw12.RateNear", spec := "rateNear", apart := false }
def RateNearSaid : Prop := rateNearRow.holds Try.pinned (OpenSpec.ofChange rateNearSpec)

/-- ITS FALSE NEIGHBOUR: 'it returns false'. Refute it at one input. -/
def rateNearWrong : ChangeSpec := { name := "rateNear", fn := fun _ => fun
  | [d] => { results := [.lit (.bool false)], args := [d] }
  | _ => none }
def RateNearWrongFalsely : Prop := rateNearRow.holds Try.pinned (OpenSpec.ofChange rateNearWrong)

/-- 'trunklinelaw12.RateBack': WHATEVER THE INPUT: true; the input reads as it did. -/
def rateBackSpec : ChangeSpec := { name := "rateBack", fn := fun _ => fun
  | [d] => { results := [.lit (.bool true)], args := [d] }
  | _ => none }
def rateBackRow : OpenClaim := { program := "ytpkfaempgibfaaa", sum := "cc7cab205d2086424637da9e854fb95a86aa53b74eb60d2b1b5aa2be319df6ad", func := "trunkline/trunklinelaw12.RateBack", spec := "rateBack", apart := false }
def RateBackSaid : Prop := rateBackRow.holds Try.pinned (OpenSpec.ofChange rateBackSpec)

/-- ITS FALSE NEIGHBOUR: 'it returns false'. Refute it at one input. -/
def rateBackWrong : ChangeSpec := { name := "rateBack", fn := fun _ => fun
  | [d] => { results := [.lit (.bool false)], args := [d] }
  | _ => none }
def RateBackWrongFalsely : Prop := rateBackRow.holds Try.pinned (OpenSpec.ofChange rateBackWrong)

/-- 'trunklinelaw12.RateSteps': WHATEVER THE INPUT: true; the input reads as it did. -/
def rateStepsSpec : ChangeSpec := { name := "rateSteps", fn := fun _ => fun
  | [d] => { results := [.lit (.bool true)], args := [d] }
  | _ => none }
def rateStepsRow : OpenClaim := { program := "ytpkfaempgibfaaa", sum := "cc7cab205d2086424637da9e854fb95a86aa53b74eb60d2b1b5aa2be319df6ad", func := "trunkline/trunklinelaw12.RateSteps", spec := "rateSteps", apart := false }
def RateStepsSaid : Prop := rateStepsRow.holds Try.pinned (OpenSpec.ofChange rateStepsSpec)

/-- ITS FALSE NEIGHBOUR: 'it returns false'. Refute it at one input. -/
def rateStepsWrong : ChangeSpec := { name := "rateSteps", fn := fun _ => fun
  | [d] => { results := [.lit (.bool false)], args := [d] }
  | _ => none }
def RateStepsWrongFalsely : Prop := rateStepsRow.holds Try.pinned (OpenSpec.ofChange rateStepsWrong)

/-- 'trunklinelaw12.RateTwice': WHATEVER THE INPUT: true; the input reads as it did. -/
def rateTwiceSpec : ChangeSpec := { name := "rateTwice", fn := fun _ => fun
  | [d] => { results := [.lit (.bool true)], args := [d] }
  | _ => none }
def rateTwiceRow : OpenClaim := { program := "ytpkfaempgibfaaa", sum := "cc7cab205d2086424637da9e854fb95a86aa53b74eb60d2b1b5aa2be319df6ad", func := "trunkline/trunklinelaw12.RateTwice", spec := "rateTwice", apart := false }
def RateTwiceSaid : Prop := rateTwiceRow.holds Try.pinned (OpenSpec.ofChange rateTwiceSpec)

/-- ITS FALSE NEIGHBOUR: 'it returns false'. Refute it at one input. -/
def rateTwiceWrong : ChangeSpec := { name := "rateTwice", fn := fun _ => fun
  | [d] => { results := [.lit (.bool false)], args := [d] }
  | _ => none }
def RateTwiceWrongFalsely : Prop := rateTwiceRow.holds Try.pinned (OpenSpec.ofChange rateTwiceWrong)

/-- 'trunklinelaw17.CostTells': WHATEVER THE INPUT: true; the input reads as it did. -/
def costTellsSpec : ChangeSpec := { name := "costTells", fn := fun _ => fun
  | [d1, d2] => { results := [.lit (.bool true)], args := [d1, d2] }
  | _ => none }
def costTellsRow : OpenClaim := { program := "ytpkfaempgibfaaa", sum := "cc7cab205d2086424637da9e854fb95a86aa53b74eb60d2b1b5aa2be319df6ad", func := "trunkline/trunklinelaw17.CostTells", spec := "costTells", apart := false }
def CostTellsSaid : Prop := costTellsRow.holds Try.pinned (OpenSpec.ofChange costTellsSpec)

/-- ITS FALSE NEIGHBOUR: 'it returns false'. Refute it at one input. -/
def costTellsWrong : ChangeSpec := { name := "costTells", fn := fun _ => fun
  | [d1, d2] => { results := [.lit (.bool false)], args := [d1, d2] }
  | _ => none }
def CostTellsWrongFalsely : Prop := costTellsRow.holds Try.pinned (OpenSpec.ofChange costTellsWrong)

/-- 'trunklinelaw17.CostBetween': WHATEVER THE INPUT: true; the input reads as it did. -/
def costBetweenSpec : ChangeSpec := { name := "costBetween", fn := fun _ => fun
  | [d] => { results := [.lit (.bool true)], args := [d] }
  | _ => none }
def costBetweenRow : OpenClaim := { program := "ytpkfaempgibfaaa", sum := "cc7cab205d2086424637da9e854fb95a86aa53b74eb60d2b1b5aa2be319df6ad", func := "trunkline/trunklinelaw17.CostBetween", spec := "costBetween", apart := false }
def CostBetweenSaid : Prop := costBetweenRow.holds Try.pinned (OpenSpec.ofChange costBetweenSpec)

/-- ITS FALSE NEIGHBOUR: 'it returns false'. Refute it at one input. -/
def costBetweenWrong : ChangeSpec := { name := "costBetween", fn := fun _ => fun
  | [d] => { results := [.lit (.bool false)], args := [d] }
  | _ => none }
def CostBetweenWrongFalsely : Prop := costBetweenRow.holds Try.pinned (OpenSpec.ofChange costBetweenWrong)

/-- 'trunklinelaw17.CostPers': WHATEVER THE INPUT: true; the input reads as it did. -/
def costPersSpec : ChangeSpec := { name := "costPers", fn := fun _ => fun
  | [d1, d2] => { results := [.lit (.bool true)], args := [d1, d2] }
  | _ => none }
def costPersRow : OpenClaim := { program := "ytpkfaempgibfaaa", sum := "cc7cab205d2086424637da9e854fb95a86aa53b74eb60d2b1b5aa2be319df6ad", func := "trunkline/trunklinelaw17.CostPers", spec := "costPers", apart := false }
def CostPersSaid : Prop := costPersRow.holds Try.pinned (OpenSpec.ofChange costPersSpec)

/-- ITS FALSE NEIGHBOUR: 'it returns false'. Refute it at one input. -/
def costPersWrong : ChangeSpec := { name := "costPers", fn := fun _ => fun
  | [d1, d2] => { results := [.lit (.bool false)], args := [d1, d2] }
  | _ => none }
def CostPersWrongFalsely : Prop := costPersRow.holds Try.pinned (OpenSpec.ofChange costPersWrong)

/-- 'trunklinelaw17.CostHalf': WHATEVER THE INPUT: true; the input reads as it did. -/
def costHalfSpec : ChangeSpec := { name := "costHalf", fn := fun _ => fun
  | [d1, d2, d3, d4] => { results := [.lit (.bool true)], args := [d1, d2, d3, d4] }
  | _ => none }
def costHalfRow : OpenClaim := { program := "ytpkfaempgibfaaa", sum := "cc7cab205d2086424637da9e854fb95a86aa53b74eb60d2b1b5aa2be319df6ad", func := "trunkline/trunklinelaw17.CostHalf", spec := "costHalf", apart := false }
def CostHalfSaid : Prop := costHalfRow.holds Try.pinned (OpenSpec.ofChange costHalfSpec)

/-- ITS FALSE NEIGHBOUR: 'it returns false'. Refute it at one input. -/
def costHalfWrong : ChangeSpec := { name := "costHalf", fn := fun _ => fun
  | [d1, d2, d3, d4] => { results := [.lit (.bool false)], args := [d1, d2, d3, d4] }
  | _ => none }
def CostHalfWrongFalsely : Prop := costHalfRow.holds Try.pinned (OpenSpec.ofChange costHalfWrong)

/-- 'trunklinelaw17.CostLess': WHATEVER THE INPUT: true; the input reads as it did. -/
def costLessSpec : ChangeSpec := { name := "costLess", fn := fun _ => fun
  | [d1, d2] => { results := [.lit (.bool true)], args := [d1, d2] }
  | _ => none }
def costLessRow : OpenClaim := { program := "ytpkfaempgibfaaa", sum := "cc7cab205d2086424637da9e854fb95a86aa53b74eb60d2b1b5aa2be319df6ad", func := "trunkline/trunklinelaw17.CostLess", spec := "costLess", apart := false }
def CostLessSaid : Prop := costLessRow.holds Try.pinned (OpenSpec.ofChange costLessSpec)

/-- ITS FALSE NEIGHBOUR: 'it returns false'. Refute it at one input. -/
def costLessWrong : ChangeSpec := { name := "costLess", fn := fun _ => fun
  | [d1, d2] => { results := [.lit (.bool false)], args := [d1, d2] }
  | _ => none }
def CostLessWrongFalsely : Prop := costLessRow.holds Try.pinned (OpenSpec.ofChange costLessWrong)

/-- 'trunklinelaw17.CostSums': WHATEVER THE INPUT: true; the input reads as it did. -/
def costSumsSpec : ChangeSpec := { name := "costSums", fn := fun _ => fun
  | [d1, d2] => { results := [.lit (.bool true)], args := [d1, d2] }
  | _ => none }
def costSumsRow : OpenClaim := { program := "ytpkfaempgibfaaa", sum := "cc7cab205d2086424637da9e854fb95a86aa53b74eb60d2b1b5aa2be319df6ad", func := "trunkline/trunklinelaw17.CostSums", spec := "costSums", unfollowed := true, recurses := true, apart := false }
def CostSumsSaid : Prop := costSumsRow.holds Try.pinned (OpenSpec.ofChange costSumsSpec)

/-- ITS FALSE NEIGHBOUR: 'it returns false'. Refute it at one input. -/
def costSumsWrong : ChangeSpec := { name := "costSums", fn := fun _ => fun
  | [d1, d2] => { results := [.lit (.bool false)], args := [d1, d2] }
  | _ => none }
def CostSumsWrongFalsely : Prop := costSumsRow.holds Try.pinned (OpenSpec.ofChange costSumsWrong)

/-- 'trunklinelaw17.CostFits': WHATEVER THE INPUT: true; the input reads as it did. -/
def costFitsSpec : ChangeSpec := { name := "costFits", fn := fun _ => fun
  | [d1, d2] => { results := [.lit (.bool true)], args := [d1, d2] }
  | _ => none }
def costFitsRow : OpenClaim := { program := "ytpkfaempgibfaaa", sum := "cc7cab205d2086424637da9e854fb95a86aa53b74eb60d2b1b5aa2be319df6ad", func := "trunkline/trunklinelaw17.CostFits", spec := "costFits", unfollowed := true, recurses := true, apart := false }
def CostFitsSaid : Prop := costFitsRow.holds Try.pinned (OpenSpec.ofChange costFitsSpec)

/-- ITS FALSE NEIGHBOUR: 'it returns false'. Refute it at one input. -/
def costFitsWrong : ChangeSpec := { name := "costFits", fn := fun _ => fun
  | [d1, d2] => { results := [.lit (.bool false)], args := [d1, d2] }
  | _ => none }
def CostFitsWrongFalsely : Prop := costFitsRow.holds Try.pinned (OpenSpec.ofChange costFitsWrong)

/- THE SECOND FORM. 'bulk': how many values and letters a reading holds, each counted each time it is reached (what is shared counts as often as it is met; a slice's spare places count too). A statement '..UptoSaid' is the law's where the arguments, and the package variables that the reading takes, are together of bulk at most 1048576: NARROWER than '..Said'. Prove '..Said' where nothing that the law and all that it calls make is longer than what came in: it says more and counts as full. Else prove '..UptoSaid'. A law counts once. -/
mutual
def uptoBulk {H : Type} : DataW H → Nat
  | .lit (.string bytes) => bytes.length + 1
  | .lit _ => 1
  | .nil => 1
  | .ptr d => uptoBulk d + 1
  | .slice elems spare => uptoBulkAll elems + uptoBulkAll spare + 1
  | .agg parts => uptoBulkAll parts + 1
  | .iface _ d => uptoBulk d + 1
  | .map entries => uptoBulkEntries entries + 1
  | .held _ => 1
def uptoBulkAll {H : Type} : List (DataW H) → Nat
  | [] => 0
  | d :: r => uptoBulk d + uptoBulkAll r
def uptoBulkEntries {H : Type} : List (Lit × DataW H) → Nat
  | [] => 0
  | x :: r => uptoBulkEntry x + uptoBulkEntries r
def uptoBulkEntry {H : Type} : Lit × DataW H → Nat
  | (.string bytes, d) => bytes.length + uptoBulk d + 1
  | (_, d) => uptoBulk d + 1
 end
def uptoSmall : (H : Type) → List (DataW H) → Bool := fun _ ds => decide (uptoBulkAll ds ≤ 1048576)
def OpenSpec.upto (s : _root_.Go.ChangeSpec) : _root_.Go.OpenSpec := { _root_.Go.OpenSpec.ofChange s with cond := some uptoSmall }

/-- 'trunklinelaw12.RateTells', WHERE WHAT IT READS IS OF BULK AT MOST 1048576: true; the input reads as it did. -/
def rateTellsUptoRow : OpenClaim := { program := "ytpkfaempgibfaaa", sum := "cc7cab205d2086424637da9e854fb95a86aa53b74eb60d2b1b5aa2be319df6ad", func := "trunkline/trunklinelaw12.RateTells", spec := "rateTells", apart := false, narrowed := true }
def RateTellsUptoSaid : Prop := rateTellsUptoRow.holds Try.pinned (OpenSpec.upto rateTellsSpec)

/-- 'trunklinelaw12.RateOrder', WHERE WHAT IT READS IS OF BULK AT MOST 1048576: true; the input reads as it did. -/
def rateOrderUptoRow : OpenClaim := { program := "ytpkfaempgibfaaa", sum := "cc7cab205d2086424637da9e854fb95a86aa53b74eb60d2b1b5aa2be319df6ad", func := "trunkline/trunklinelaw12.RateOrder", spec := "rateOrder", apart := false, narrowed := true }
def RateOrderUptoSaid : Prop := rateOrderUptoRow.holds Try.pinned (OpenSpec.upto rateOrderSpec)

/-- 'trunklinelaw12.RateNear', WHERE WHAT IT READS IS OF BULK AT MOST 1048576: true; the input reads as it did. -/
def rateNearUptoRow : OpenClaim := { program := "ytpkfaempgibfaaa", sum := "cc7cab205d2086424637da9e854fb95a86aa53b74eb60d2b1b5aa2be319df6ad", func := "trunkline/trunklinelaw12.RateNear", spec := "rateNear", apart := false, narrowed := true }
def RateNearUptoSaid : Prop := rateNearUptoRow.holds Try.pinned (OpenSpec.upto rateNearSpec)

/-- 'trunklinelaw12.RateBack', WHERE WHAT IT READS IS OF BULK AT MOST 1048576: true; the input reads as it did. -/
def rateBackUptoRow : OpenClaim := { program := "ytpkfaempgibfaaa", sum := "cc7cab205d2086424637da9e854fb95a86aa53b74eb60d2b1b5aa2be319df6ad", func := "trunkline/trunklinelaw12.RateBack", spec := "rateBack", apart := false, narrowed := true }
def RateBackUptoSaid : Prop := rateBackUptoRow.holds Try.pinned (OpenSpec.upto rateBackSpec)

/-- 'trunklinelaw12.RateSteps', WHERE WHAT IT READS IS OF BULK AT MOST 1048576: true; the input reads as it did. -/
def rateStepsUptoRow : OpenClaim := { program := "ytpkfaempgibfaaa", sum := "cc7cab205d2086424637da9e854fb95a86aa53b74eb60d2b1b5aa2be319df6ad", func := "trunkline/trunklinelaw12.RateSteps", spec := "rateSteps", apart := false, narrowed := true }
def RateStepsUptoSaid : Prop := rateStepsUptoRow.holds Try.pinned (OpenSpec.upto rateStepsSpec)

/-- 'trunklinelaw12.RateTwice', WHERE WHAT IT READS IS OF BULK AT MOST 1048576: true; the input reads as it did. -/
def rateTwiceUptoRow : OpenClaim := { program := "ytpkfaempgibfaaa", sum := "cc7cab205d2086424637da9e854fb95a86aa53b74eb60d2b1b5aa2be319df6ad", func := "trunkline/trunklinelaw12.RateTwice", spec := "rateTwice", apart := false, narrowed := true }
def RateTwiceUptoSaid : Prop := rateTwiceUptoRow.holds Try.pinned (OpenSpec.upto rateTwiceSpec)

/-- 'trunklinelaw17.CostTells', WHERE WHAT IT READS IS OF BULK AT MOST 1048576: true; the input reads as it did. -/
def costTellsUptoRow : OpenClaim := { program := "ytpkfaempgibfaaa", sum := "cc7cab205d2086424637da9e854fb95a86aa53b74eb60d2b1b5aa2be319df6ad", func := "trunkline/trunklinelaw17.CostTells", spec := "costTells", apart := false, narrowed := true }
def CostTellsUptoSaid : Prop := costTellsUptoRow.holds Try.pinned (OpenSpec.upto costTellsSpec)

/-- 'trunklinelaw17.CostBetween', WHERE WHAT IT READS IS OF BULK AT MOST 1048576: true; the input reads as it did. -/
def costBetweenUptoRow : OpenClaim := { program := "ytpkfaempgibfaaa", sum := "cc7cab205d2086424637da9e854fb95a86aa53b74eb60d2b1b5aa2be319df6ad", func := "trunkline/trunklinelaw17.CostBetween", spec := "costBetween", apart := false, narrowed := true }
def CostBetweenUptoSaid : Prop := costBetweenUptoRow.holds Try.pinned (OpenSpec.upto costBetweenSpec)

/-- 'trunklinelaw17.CostPers', WHERE WHAT IT READS IS OF BULK AT MOST 1048576: true; the input reads as it did. -/
def costPersUptoRow : OpenClaim := { program := "ytpkfaempgibfaaa", sum := "cc7cab205d2086424637da9e854fb95a86aa53b74eb60d2b1b5aa2be319df6ad", func := "trunkline/trunklinelaw17.CostPers", spec := "costPers", apart := false, narrowed := true }
def CostPersUptoSaid : Prop := costPersUptoRow.holds Try.pinned (OpenSpec.upto costPersSpec)

/-- 'trunklinelaw17.CostHalf', WHERE WHAT IT READS IS OF BULK AT MOST 1048576: true; the input reads as it did. -/
def costHalfUptoRow : OpenClaim := { program := "ytpkfaempgibfaaa", sum := "cc7cab205d2086424637da9e854fb95a86aa53b74eb60d2b1b5aa2be319df6ad", func := "trunkline/trunklinelaw17.CostHalf", spec := "costHalf", apart := false, narrowed := true }
def CostHalfUptoSaid : Prop := costHalfUptoRow.holds Try.pinned (OpenSpec.upto costHalfSpec)

/-- 'trunklinelaw17.CostLess', WHERE WHAT IT READS IS OF BULK AT MOST 1048576: true; the input reads as it did. -/
def costLessUptoRow : OpenClaim := { program := "ytpkfaempgibfaaa", sum := "cc7cab205d2086424637da9e854fb95a86aa53b74eb60d2b1b5aa2be319df6ad", func := "trunkline/trunklinelaw17.CostLess", spec := "costLess", apart := false, narrowed := true }
def CostLessUptoSaid : Prop := costLessUptoRow.holds Try.pinned (OpenSpec.upto costLessSpec)

/-- 'trunklinelaw17.CostSums', WHERE WHAT IT READS IS OF BULK AT MOST 1048576: true; the input reads as it did. -/
def costSumsUptoRow : OpenClaim := { program := "ytpkfaempgibfaaa", sum := "cc7cab205d2086424637da9e854fb95a86aa53b74eb60d2b1b5aa2be319df6ad", func := "trunkline/trunklinelaw17.CostSums", spec := "costSums", unfollowed := true, recurses := true, apart := false, narrowed := true }
def CostSumsUptoSaid : Prop := costSumsUptoRow.holds Try.pinned (OpenSpec.upto costSumsSpec)

/-- 'trunklinelaw17.CostFits', WHERE WHAT IT READS IS OF BULK AT MOST 1048576: true; the input reads as it did. -/
def costFitsUptoRow : OpenClaim := { program := "ytpkfaempgibfaaa", sum := "cc7cab205d2086424637da9e854fb95a86aa53b74eb60d2b1b5aa2be319df6ad", func := "trunkline/trunklinelaw17.CostFits", spec := "costFits", unfollowed := true, recurses := true, apart := false, narrowed := true }
def CostFitsUptoSaid : Prop := costFitsUptoRow.holds Try.pinned (OpenSpec.upto costFitsSpec)

end Rows
end Go.Proofs.Ytpkfaempgibfaaa
