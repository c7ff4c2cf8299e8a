/- Headers: a number's four bytes and back (the parts of HeadB that need no law's function). -/
import Derived.Test.YtdlghiekcgplaaaHeadT
import Derived.Test.YtdlghiekcgplaaaEq
namespace Go.Proofs.Ytdlghiekcgplaaa
set_option linter.unusedVariables false
set_option linter.unusedSimpArgs false
open Go.RowKit
set_option maxRecDepth 100000
set_option maxHeartbeats 4000000
theorem rightH_of (nni : Bool) (n : Int) (h0 : 0 ≤ n) (h1 : n < 4294967296) : rightH nni (gfcW nni n) (vpiW nni n) (n / 16 % 65536) (n / 2 % 8) (n % 2) = true := by
  unfold rightH gfcW vpiW
  cases nni <;> simp <;> omega
theorem wordH_of (nni : Bool) (n : Int) (h0 : 0 ≤ n) (h1 : n < 4294967296) : wordH nni (gfcW nni n) (vpiW nni n) (n / 16 % 65536) (n / 2 % 8) (n % 2) = n := by
  unfold wordH gfcW vpiW
  cases nni <;> simp <;> omega
theorem wordH_bd {nni : Bool} {g p c t l : Int} (h : rightH nni g p c t l = true) : 0 ≤ wordH nni g p c t l ∧ wordH nni g p c t l < 4294967296 := by
  unfold rightH at h
  simp only [decide_eq_true_eq] at h
  unfold wordH
  cases nni <;> simp at h ⊢ <;> omega
theorem back_of {nni : Bool} {g p c t l : Int} (h : rightH nni g p c t l = true) :
    gfcW nni (wordH nni g p c t l) = g ∧ vpiW nni (wordH nni g p c t l) = p ∧ wordH nni g p c t l / 16 % 65536 = c ∧ wordH nni g p c t l / 2 % 8 = t ∧ wordH nni g p c t l % 2 = l := by
  unfold rightH at h
  simp only [decide_eq_true_eq] at h
  unfold wordH gfcW vpiW
  cases nni <;> simp at h ⊢ <;> omega
theorem bytes4_word {x y z u : Int} (x0 : 0 ≤ x) (x1 : x < 256) (y0 : 0 ≤ y) (y1 : y < 256) (z0 : 0 ≤ z) (z1 : z < 256) (u0 : 0 ≤ u) (u1 : u < 256) : bytes4 (word4 x y z u) = [x, y, z, u] := by
  unfold bytes4 word4
  have e1 : (x * 16777216 + y * 65536 + z * 256 + u) / 16777216 % 256 = x := by omega
  have e2 : (x * 16777216 + y * 65536 + z * 256 + u) / 65536 % 256 = y := by omega
  have e3 : (x * 16777216 + y * 65536 + z * 256 + u) / 256 % 256 = z := by omega
  have e4 : (x * 16777216 + y * 65536 + z * 256 + u) % 256 = u := by omega
  rw [e1, e2, e3, e4]
theorem word4_bytes {n : Int} (h0 : 0 ≤ n) (h1 : n < 4294967296) : word4 (n / 16777216 % 256) (n / 65536 % 256) (n / 256 % 256) (n % 256) = n := by
  unfold word4; omega
theorem pack_at (g p c t l : Int) (nni : Bool) (w : World) (n : Int) (hr : rightH nni g p c t l = true) (hw : wordH nni g p c t l = n) :
    Calls Try.prog 18 #[.agg #[.int .i64 g, .int .i64 p, .int .i64 c, .int .i64 t, .int .i64 l], .bool nni] w fun e w' => ∃ b, e = .returned (.tuple #[.slice (some ⟨b, 0, none⟩) 4 4, .int .i64 0]) ∧ w.heap.size ≤ b ∧ b < w'.heap.size ∧ BytesAt w' (some ⟨b, 0, none⟩) 4 (bytes4 n) ∧ Below w.heap.size w w' := by
  subst hw
  refine (pack_yes g p c t l nni w hr).mono ?_
  rintro e w' ⟨b, rfl, h1, h2, r0, r1, r2, r3, hb⟩
  exact ⟨b, rfl, h1, h2, bytes4_at h2 r0 r1 r2 r3, hb⟩
theorem unpack_at (x y z u : Int) (nni : Bool) (n : Int) (hn : word4 x y z u = n) : ∀ (w : World) (a : Option Addr) (cap : Nat), BytesAt w a 4 [x, y, z, u] → Calls Try.prog 20 #[.slice a 4 cap, .bool nni] w fun e w' =>
    e = .returned (.tuple #[.agg #[.int .i64 (gfcW nni n), .int .i64 (vpiW nni n), .int .i64 (n / 16 % 65536), .int .i64 (n / 2 % 8), .int .i64 (n % 2)], .int .i64 0]) ∧ Below w.heap.size w w' := by
  intro w a cap h
  subst hn
  obtain ⟨b, off, rfl, hb, hc⟩ := h.cells (by omega)
  exact unpack_yes b off cap x y z u nni w hb (hc 0 (by omega)) (hc 1 (by omega)) (hc 2 (by omega)) (hc 3 (by omega)) (h.byte 0).1 (h.byte 0).2 (h.byte 1).1 (h.byte 1).2 (h.byte 2).1 (h.byte 2).2 (h.byte 3).1 (h.byte 3).2
theorem bytes4_inj {m m' : Int} (h0 : 0 ≤ m) (h1 : m < 4294967296) (k0 : 0 ≤ m') (k1 : m' < 4294967296) (h : bytes4 m = bytes4 m') : m = m' := by
  have e1 := word4_bytes h0 h1
  have e2 := word4_bytes k0 k1
  unfold bytes4 at h
  simp only [List.cons.injEq, and_true] at h
  obtain ⟨a, b, c, d⟩ := h
  rw [← e1, ← e2, a, b, c, d]
end Go.Proofs.Ytdlghiekcgplaaa
