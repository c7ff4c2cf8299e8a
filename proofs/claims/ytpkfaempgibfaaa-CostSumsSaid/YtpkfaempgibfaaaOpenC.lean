/- A slice of contracts that came in, opened. -/
import Derived.Test.YtpkfaempgibfaaaOpen
import Derived.Test.YtpkfaempgibfaaaCostS
namespace Go.Proofs.Ytpkfaempgibfaaa
set_option linter.unusedVariables false
set_option linter.unusedSimpArgs false
open Go.ChangeShapes Go.WideShapes Go.ChangeAt Go.RowKit
theorem fits_six {cs : List Value} (h : fitsAll (List.replicate 6 (some .i64)) cs) : ∃ x : C6, cs = [.int .i64 x.k, .int .i64 x.p, .int .i64 x.e, .int .i64 x.wh, .int .i64 x.b, .int .i64 x.l] := by
  obtain ⟨_, _, rfl, ⟨x0, rfl, w0⟩, g0⟩ := fits_cons h
  obtain ⟨_, _, rfl, ⟨x1, rfl, w1⟩, g1⟩ := fits_cons g0
  obtain ⟨_, _, rfl, ⟨x2, rfl, w2⟩, g2⟩ := fits_cons g1
  obtain ⟨_, _, rfl, ⟨x3, rfl, w3⟩, g3⟩ := fits_cons g2
  obtain ⟨_, _, rfl, ⟨x4, rfl, w4⟩, g4⟩ := fits_cons g3
  obtain ⟨_, _, rfl, ⟨x5, rfl, w5⟩, g5⟩ := fits_cons g4
  obtain rfl := fits_nil g5
  exact ⟨⟨x0, x1, x2, x3, x4, x5⟩, rfl⟩
theorem map_ex {α β : Type} (f : β → α) : ∀ (l : List α), (∀ x ∈ l, ∃ y, x = f y) → ∃ ys : List β, l = ys.map f
  | [], _ => ⟨[], rfl⟩
  | x :: l, h => by
    obtain ⟨y, rfl⟩ := h x (by simp)
    obtain ⟨ys, rfl⟩ := map_ex f l (fun z hz => h z (by simp [hz]))
    exact ⟨y :: ys, rfl⟩
theorem open_crs {H : Type} {enc : TypeId × Value → H} {P : Program} {w w' : World} {r : Reach} {b0 base : Nat} {spare : Nat → Bool} {held : Bool} {t e : TypeId} {v : Value} {d : DataW H} {p : List MemPlace} {n : Nat}
    (ht : P.underlying t = some (.slice e)) (hl : leaves P n e = some (List.replicate 6 (some .i64))) (hc : P.cellsOf e = 6) (hv : Value.okWide P w' r b0 t v) (h : DataW.Trod enc P w base spare held t v d p) :
    ∃ (a : Option Addr) (len cap : Nat) (cs : List C6), v = .slice a len cap ∧ len ≤ cap ∧ cap ≤ maxLen ∧ (len ≤ 1000 → CrAt w a len cs) ∧ (a = none → cap = 0) := by
  obtain ⟨a, len, cap, es, rfl, h1, h2, h3, h4, h5, h6⟩ := open_rows (n := n) ht hl (by omega) hv h
  obtain ⟨cs, rfl⟩ := map_ex (fun x : C6 => [Value.int .i64 x.k, .int .i64 x.p, .int .i64 x.e, .int .i64 x.wh, .int .i64 x.b, .int .i64 x.l]) es (fun x hx => fits_six (h4 x hx))
  refine ⟨a, len, cap, cs, rfl, h1, h2, fun hm => ⟨by simpa using h3, hm, fun hp => ?_⟩, h6⟩
  obtain ⟨b, off, rfl, hb, hcell⟩ := h5 hp
  refine ⟨b, off, rfl, hb, fun i x hx => ?_⟩
  obtain ⟨hi, hxe⟩ := List.getElem?_eq_some_iff.1 hx
  have key : ∀ j, j < 6 → w.cell? ⟨b, off + i * 6 + j, none⟩ = [Value.int .i64 x.k, .int .i64 x.p, .int .i64 x.e, .int .i64 x.wh, .int .i64 x.b, .int .i64 x.l][j]? := fun j hj => by
    have := hcell i (by simpa using hi) j (by omega)
    rw [hc] at this
    rw [Nat.add_assoc, this, List.getElem_map, hxe]
  exact ⟨key 0 (by omega), key 1 (by omega), key 2 (by omega), key 3 (by omega), key 4 (by omega), key 5 (by omega)⟩
end Go.Proofs.Ytpkfaempgibfaaa
