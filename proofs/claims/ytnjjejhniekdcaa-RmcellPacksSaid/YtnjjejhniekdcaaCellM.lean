/- Arrays of bytes, whole: out of memory and into it, however long. -/
import Derived.Test.YtnjjejhniekdcaaHecSK
import Derived.Test.YtnjjejhniekdcaaCellP
import Derived.Deep.MidRow
namespace Go.Proofs.Ytnjjejhniekdcaa
set_option linter.unusedVariables false
set_option linter.unusedSimpArgs false
open Go.RowKit
/-- the cells of bytes. -/
abbrev u8s (zs : List Int) : List Value := zs.map (Value.int .u8)
theorem one_u8s (zs : List Int) : (u8s zs).toArray.all (·.oneCell') = true := all_oneCell_toArray (fun v hv => by obtain ⟨z, _, rfl⟩ := List.mem_map.1 hv; rfl)
theorem bytes_topU {w : World} {b : Nat} {cs : Array Value} {E : TypeId} {fr : Nat × Nat} (zs : List Int) (hb : b = w.heap.size) (hc : cs = (u8s zs).toArray) (hz : ∀ z ∈ zs, 0 ≤ z ∧ z < 256) (hm : zs.length ≤ 140737488355328) : BytesAt (w.alloc (.cells cs E fr)) (some ⟨b, 0, none⟩) zs.length zs := by
  subst hb; subst hc; exact bytes_lit zs hz hm
theorem frozen_under {w : World} {o : Obj} {b i : Nat} (h : b < w.heap.size) : (w.alloc o).frozen? ⟨b, i, none⟩ = w.frozen? ⟨b, i, none⟩ := World.frozen?_alloc_past o b i h
theorem BytesAt.range {w : World} {b off n : Nat} {zs : List Int} (h : BytesAt w (some ⟨b, off, none⟩) n zs) : w.rangeAt b off (u8s zs) := fun j v hv => by
  rw [List.getElem?_map] at hv
  by_cases hj : j < zs.length
  · rw [List.getElem?_eq_getElem hj] at hv
    obtain ⟨b', off', e, _, hc⟩ := h.cells (by rw [← h.length]; omega)
    injection e with e; injection e with e1 e2; subst e1; subst e2
    have := hc j (by rw [← h.length]; exact hj)
    rw [this, List.getElem?_eq_getElem hj, ← hv]
    rfl
  · rw [List.getElem?_eq_none (by omega)] at hv; simp at hv
theorem bytes_range {w : World} {b off : Nat} {zs : List Int} (h : w.rangeAt b off (u8s zs)) (hb : b < w.heap.size) (hz : ∀ z ∈ zs, 0 ≤ z ∧ z < 256) (hm : zs.length ≤ 140737488355328) : BytesAt w (some ⟨b, off, none⟩) zs.length zs :=
  ⟨rfl, hm, fun k => by
    by_cases hk : k < zs.length
    · rw [List.getElem?_eq_getElem hk]; exact hz _ (List.getElem_mem hk)
    · rw [List.getElem?_eq_none (by omega)]; simp, fun _ => ⟨b, off, rfl, hb, fun k hk => h k _ (by rw [List.getElem?_map, List.getElem?_eq_getElem hk]; rfl)⟩⟩
theorem Below.setCells {B b : Nat} : ∀ (vs : List Value) (o : Nat) {w w' : World}, Below B w w' → B ≤ b → Below B w (w'.setCells b o vs)
  | [], _, _, _, h, _ => h
  | v :: r, o, w, w', h, hb => Below.setCells r (o + 1) (h.setCell (p := ⟨b, o, none⟩) hb v) hb
theorem Chg.setCells {p b : Nat} : ∀ (vs : List Value) (o : Nat) {w w' : World}, Chg p w w' → w.heap.size ≤ b → Chg p w (w'.setCells b o vs)
  | [], _, _, _, h, _ => h
  | v :: r, o, w, w', h, hb => Chg.setCells r (o + 1) (h.setNew hb o v) hb
theorem size_setCells (b : Nat) : ∀ (vs : List Value) (o : Nat) (w : World), (w.setCells b o vs).heap.size = w.heap.size
  | [], _, _ => rfl
  | v :: r, o, w => by rw [World.setCells, size_setCells b r, World.size_setCell]
theorem BytesAt.setOther {w : World} {a : Option Addr} {len p o : Nat} {v : Value} {zs : List Int} (h : BytesAt w a len zs) (hn : ∀ b off, a = some ⟨b, off, none⟩ → b ≠ p) : BytesAt (w.setCell ⟨p, o, none⟩ v) a len zs :=
  ⟨h.length, h.most, h.byte, fun hp => by
    obtain ⟨b, off, h1, h2, h3⟩ := h.cells hp
    exact ⟨b, off, h1, by simpa using h2, fun k hk => cell_beside (fun e => hn b off h1 e.symm) (h3 k hk)⟩⟩
/-- the first k of one list, the others of another one. -/
def stepJ (xs js : List Int) (k : Nat) : List Int := js.take k ++ xs.drop k
theorem stepJ_len {xs js : List Int} (h : js.length = xs.length) (k : Nat) (hk : k ≤ xs.length) : (stepJ xs js k).length = xs.length := by
  unfold stepJ; simp; omega
theorem stepJ_set {xs js : List Int} (h : js.length = xs.length) {k : Nat} (hk : k < xs.length) : (stepJ xs js k).set k (js[k]?.getD 0) = stepJ xs js (k + 1) := by
  apply List.ext_getElem?
  intro i
  unfold stepJ
  rw [List.getElem?_set]
  by_cases h1 : k = i
  · subst h1
    rw [if_pos rfl, if_pos (by simp; omega), List.getElem?_append_left (by simp; omega), List.getElem?_take_of_lt (by omega), List.getElem?_eq_getElem (by omega)]
    simp
  · rw [if_neg h1]
    by_cases h2 : i < k
    · rw [List.getElem?_append_left (by simp; omega), List.getElem?_append_left (by simp; omega), List.getElem?_take_of_lt h2, List.getElem?_take_of_lt (by omega)]
    · rw [List.getElem?_append_right (by simp; omega), List.getElem?_append_right (by simp; omega), List.getElem?_drop, List.getElem?_drop]
      congr 1
      simp
      omega
theorem stepJ_all {xs js : List Int} (h : js.length = xs.length) : stepJ xs js xs.length = js := by
  unfold stepJ
  rw [List.take_of_length_le (by omega), List.drop_eq_nil_of_le (Nat.le_refl _), List.append_nil]
theorem BytesAt.setRow {w : World} {g len q : Nat} {zs : List Int} {x : Int} (h : BytesAt w (some ⟨g, 0, none⟩) len zs) (hq : q < len) (x0 : 0 ≤ x) (x1 : x < 256) {zs' : List Int} (he : zs.set q x = zs') : BytesAt (w.setCell ⟨g, q, none⟩ (.int .u8 x)) (some ⟨g, 0, none⟩) len zs' := by
  subst he; exact h.set hq x0 x1
theorem BytesAt.cellAt {w : World} {g off len k : Nat} {zs : List Int} (h : BytesAt w (some ⟨g, off, none⟩) len zs) (hk : k < len) : w.cell? ⟨g, off + k, none⟩ = some (.int .u8 (zs[k]?.getD 0)) := by
  obtain ⟨b', off', e, _, hc⟩ := h.cells (by omega)
  injection e with e; injection e with e1 e2; subst e1; subst e2
  exact hc k hk
theorem u8_or_nat (a b : Nat) (ha : a < 256) (hb : b < 256) : bits .or .u8 (a : Int) (b : Int) = ((a ||| b : Nat) : Int) := by
  have hor : a ||| b < 2 ^ 8 := Nat.or_lt_two_pow (by omega) (by omega)
  have h1 : (BitVec.ofInt 8 (a : Int)).toNat = a := by simp; omega
  have h2 : (BitVec.ofInt 8 (b : Int)).toNat = b := by simp; omega
  show IntKind.u8.wrap ((BitVec.ofInt 8 (a : Int) ||| BitVec.ofInt 8 (b : Int)).toNat : Int) = _
  rw [BitVec.toNat_or, h1, h2]
  simp [IntKind.bits, IntKind.wrap, IntKind.signed]
  omega
theorem u8_or_plus (k : Nat) (a b : Int) (h0 : 0 ≤ a) (h1 : a * 2 ^ k < 256) (h2 : 0 ≤ b) (h3 : b < 2 ^ k) (h4 : b < 256) : bits .or .u8 (a * 2 ^ k) b = a * 2 ^ k + b := by
  obtain ⟨m, rfl⟩ := Int.eq_ofNat_of_zero_le h0
  obtain ⟨n, rfl⟩ := Int.eq_ofNat_of_zero_le h2
  have e : (m : Int) * 2 ^ k = ((2 ^ k * m : Nat) : Int) := by push_cast; rw [Int.mul_comm]
  have h3' : n < 2 ^ k := by exact_mod_cast h3
  rw [e] at h1 ⊢
  rw [u8_or_nat _ _ (by omega) (by omega), ← Nat.two_pow_add_eq_or_of_lt h3']
  push_cast; rfl
theorem u8_andNot3 (z : Int) (h0 : 0 ≤ z) (h1 : z < 256) : bits .andNot .u8 z 3 = z / 4 * 4 := by
  obtain ⟨k, hk⟩ : ∃ k : Nat, z = (k : Int) := ⟨z.toNat, by omega⟩
  subst hk
  have hall : (List.range 256).all (fun k => bits .andNot .u8 (k : Int) 3 == (k : Int) / 4 * 4) = true := by kernel_rfl
  have := List.all_eq_true.1 hall k (List.mem_range.2 (by omega))
  simpa using this
theorem BytesAt.drew {w : World} {a : Option Addr} {len : Nat} {zs : List Int} (h : BytesAt w a len zs) : BytesAt w.drew a len zs := h.below (Below.drew (Below.refl _ _))
theorem BytesAt.drewN {w : World} {a : Option Addr} {len : Nat} {zs : List Int} (h : BytesAt w a len zs) (n : Nat) : BytesAt (w.drewN n) a len zs := h.below (below_drewN (Below.refl _ _) n)
theorem und48 : Try.prog.underlying 26 = some (.array 48 5) := by kernel_rfl
theorem siz48 : (Try.prog.info? 26).map (·.size) = some 48 := by kernel_rfl
/-- they lie there, and may be written. -/
theorem BytesAt.thereAt {w : World} {b off n : Nat} {zs : List Int} (h : BytesAt w (some ⟨b, off, none⟩) n zs) (hf : ∀ o, w.frozen? ⟨b, o, none⟩ = false) : w.there b off n := fun j hj => ⟨by rw [h.cellAt hj]; rfl, hf _⟩
theorem frozen_drew {w : World} {p : Addr} {x : Bool} (h : w.frozen? p = x) : w.drew.frozen? p = x := h
theorem frozen_drewN {w : World} {p : Addr} {x : Bool} (n : Nat) (h : w.frozen? p = x) : (w.drewN n).frozen? p = x := by
  obtain ⟨_, hf⟩ := And.intro trivial ((below_drewN (Below.refl (p.block + 1) w) n).frozen (p := p) (by omega))
  exact hf.trans h
theorem frozen_setCell {w : World} {p q : Addr} {v : Value} {x : Bool} (h : w.frozen? p = x) : (w.setCell q v).frozen? p = x := by rw [World.frozen?_setCell]; exact h
end Go.Proofs.Ytnjjejhniekdcaa
