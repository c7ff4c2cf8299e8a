/- (the seat of rmcell: no header is sealed here.) Results that lie in memory. -/
import Derived.Test.YtnjjejhniekdcaaChg
import Derived.Test.YtnjjejhniekdcaaSumsK
namespace Go.Proofs.Ytnjjejhniekdcaa
set_option linter.unusedVariables false
set_option linter.unusedSimpArgs false
open Go.RowKit
theorem results_ct {P : Program} {fn : Func} {p u : Tmp} {ty : TypeId} (h : fn.results = #[.cell p ty, .tmp u]) (tmps : Array Value) (w : World) {a : Addr} {v : Value} (hp : tmps.getD p undef = .pointer (some a)) (hl : (loadVar ty a).run P w = .ok v w) :
    (results fn tmps).run P w = .ok (.tuple #[v, tmps.getD u undef]) w := by
  have hp' : tmps[p]?.getD undef = .pointer (some a) := by simpa using hp
  simp [results, h, hp', asAddr, hl]
theorem results_c1 {P : Program} {fn : Func} {p : Tmp} {ty : TypeId} (h : fn.results = #[.cell p ty]) (tmps : Array Value) (w : World) {a : Addr} {v : Value} (hp : tmps.getD p undef = .pointer (some a)) (hl : (loadVar ty a).run P w = .ok v w) :
    (results fn tmps).run P w = .ok v w := by
  have hp' : tmps[p]?.getD undef = .pointer (some a) := by simpa using hp
  simp [results, h, hp', asAddr, hl]
theorem frozen_top {w : World} {b o : Nat} {cs : Array Value} {E : TypeId} (hb : b = w.heap.size) : (w.alloc (.cells cs E)).frozen? ⟨b, o, none⟩ = false := by
  subst hb; exact World.frozen?_alloc_new _ _ _ _
end Go.Proofs.Ytnjjejhniekdcaa
