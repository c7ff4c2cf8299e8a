/- Steps of the laws of cells: whole cells and payloads out of memory and into it, one operation each. -/
import Derived.Test.YtnjjejhniekdcaaCellS
import Derived.Test.YtnjjejhniekdcaaMemK
namespace Go.Proofs.Ytnjjejhniekdcaa
set_option linter.unusedVariables false
set_option linter.unusedSimpArgs false
open Go.RowKit
set_option maxRecDepth 100000
theorem wpList_run {P : Program} {ops : Array Oper} {rest : List Oper} {o : Oper} {a : Act} {w : World} {Q : Exit → Act → World → Prop} {v : Value} (hg : o.guard = none) (hr : (execOp a.eval o).run P w = .ok (.value v) w)
    (h : wpList P ops Q rest (a.put o.dst v) w) : wpList P ops Q (o :: rest) a w := by
  unfold wpList
  rw [if_pos (by unfold Region.wanted; rw [hg])]
  refine .inl ?_
  unfold Oper.wp
  rw [hr]
  exact h
section
variable {ops : Array Oper} {rest : List Oper} {a : Act} {w : World} {Q : Exit → Act → World → Prop} {x y : Operand} {b off : Nat} {dst : Option Nat} {ty : TypeId} {pos : String} {after : Array Edge}
theorem wpList_load48 (X : Array Value) (h1 : ∃ b off, a.eval x = .pointer (some ⟨b, off, none⟩) ∧ X.size = 48 ∧ w.rangeAt b off X.toList)
    (h : wpList Try.prog ops Q rest (a.put dst (.agg X)) w) : wpList Try.prog ops Q (⟨dst, .load 26 x, ty, pos, after, none⟩ :: rest) a w := by
  obtain ⟨b, off, hx, hl, hc⟩ := h1
  refine wpList_run rfl ?_ h
  unfold execOp
  have hr := run_loadVar_mid (P := Try.prog) w b off 26 X.toList _ hc und48 rfl (by rw [siz48]; simp [hl])
  simp only [hx, Instr.loadAt, Instr.sureAddr, Sem.run_bind, Sem.run_pure, Result.andThen_ok, hr]
/-- a fresh block, filled. -/
theorem fill_new {w : World} {C X : Array Value} {E : TypeId} {n : Nat} (hC : C.size = n) (hX : X.size = n) {W2 : World} (h : (w.alloc (.cells C E)).setCells w.heap.size 0 X.toList = W2) :
    w.heap.size < W2.heap.size ∧ Below w.heap.size w W2 ∧ W2.rangeAt w.heap.size 0 X.toList := by
  subst h
  refine ⟨by rw [size_setCells]; simp, Below.setCells _ _ ((Below.refl _ _).alloc (Nat.le_refl _) _) (Nat.le_refl _), World.rangeAt_setCells_same _ _ _ _ ?_⟩
  rw [show X.toList.length = n by simpa using hX]
  exact there_new rfl hC
theorem wpList_fill48 (X : Array Value) {C : Array Value} {E : TypeId} (h1 : a.eval x = .pointer (some ⟨w.heap.size, 0, none⟩) ∧ a.eval y = .agg X ∧ X.size = 48 ∧ X.all (·.oneCell') = true ∧ C.size = 48)
    (h : ∀ W2 : World, w.heap.size < W2.heap.size → Below w.heap.size w W2 → W2.rangeAt w.heap.size 0 X.toList → wpList Try.prog ops Q rest (a.put none undef) W2) : wpList Try.prog ops Q (⟨none, .store 26 x y, ty, pos, after, none⟩ :: rest) a (w.alloc (.cells C E)) := by
  obtain ⟨hx, hy, hl, h1, hC⟩ := h1
  have hf := fill_new (w := w) (E := E) hC hl rfl
  exact wpList_store_mid rfl 26 x y rfl _ 0 X hx hy (by rw [hl]; exact there_new rfl hC) (by rw [siz48, hl]) h1 (h _ hf.1 hf.2.1 hf.2.2)
theorem wpQuiet_runG {P : Program} {C : World → Prop} {Q : Act → Prop} {o : Oper} {v : Value} (hw : Region.wanted o (yielded ops a.tmps) = true) (hr : ∀ w, C w → (execOp a.eval o).run P w = .ok (.value v) w)
    (h : wpQuiet P ops C Q rest (a.put o.dst v)) : wpQuiet P ops C Q (o :: rest) a := by
  unfold wpQuiet
  rw [if_pos hw]
  refine ⟨v, fun w hw => ?_, h⟩
  unfold Oper.quietAt
  rw [hr w hw]
  exact ⟨rfl, rfl⟩
theorem wpQuiet_load48X {C : World → Prop} {Q : Act → Prop} {gd : Option (Nat × Bool)} (X : Array Value) (hw : Region.wanted ⟨dst, .load 26 x, ty, pos, after, gd⟩ (yielded ops a.tmps) = true)
    (h1 : ∃ b off, a.eval x = .pointer (some ⟨b, off, none⟩) ∧ X.size = 48 ∧ ∀ w, C w → w.rangeAt b off X.toList)
    (h : wpQuiet Try.prog ops C Q rest (a.put dst (.agg X))) : wpQuiet Try.prog ops C Q (⟨dst, .load 26 x, ty, pos, after, gd⟩ :: rest) a := by
  obtain ⟨b, off, hx, hl, hc⟩ := h1
  refine wpQuiet_runG hw (fun w hC => ?_) h
  unfold execOp
  have hr := run_loadVar_mid (P := Try.prog) w b off 26 X.toList _ (hc w hC) und48 rfl (by rw [siz48]; simp [hl])
  simp only [hx, Instr.loadAt, Instr.sureAddr, Sem.run_bind, Sem.run_pure, Result.andThen_ok, hr]
theorem made_u8s (n : Nat) : madeCells #[Value.int .u8 0] n = (u8s (List.replicate n 0)).toArray := by
  refine Array.ext (by simp [madeCells]) fun i h1 h2 => ?_
  simp [madeCells, Nat.mod_one]
/-- make of bytes. -/
theorem wpList_makeB {l c : Operand} (n : Nat) (h1 : a.eval l = .int .i64 (n : Int) ∧ a.eval c = .int .i64 (n : Int) ∧ n ≤ 1000000)
    (h : ∀ W2 : World, w.heap.size < W2.heap.size → Below w.heap.size w W2 → BytesAt W2 (some ⟨w.heap.size, 0, none⟩) n (List.replicate n 0) → wpList Try.prog ops Q rest (a.put dst (.slice (some ⟨w.heap.size, 0, none⟩) n n)) W2) : wpList Try.prog ops Q (⟨dst, .makeSlice 32 l c, ty, pos, after, none⟩ :: rest) a w := by
  obtain ⟨hl, hc, hn⟩ := h1
  obtain ⟨inf, hin, hi0, hi1, hi2⟩ := info_parts byteInfo
  refine wpList_make_row w rfl l c _ rfl 5 inf _ Try.underlying32 hin hi0 hi1 rfl .i64 .i64 n hl hc (by rw [hi2]; omega) (by omega) ?_
  rw [made_u8s]
  refine h _ (by simp) ((Below.refl _ _).alloc (Nat.le_refl _) _) ?_
  have h1 := bytes_topU (w := w) (E := 5) (fr := (0, 0)) (cs := (u8s (List.replicate n 0)).toArray) (List.replicate n 0) rfl rfl (fun z hz => by obtain ⟨_, rfl⟩ := List.mem_replicate.1 hz; omega) (by rw [List.length_replicate]; omega)
  rwa [List.length_replicate] at h1
end
theorem bytes_block {w : World} {X : Array Value} {ps : List Int} {E : TypeId} {b : Nat} (hX : Hid (X = (u8s ps).toArray)) (hb : b = w.heap.size) (hlp : ps.length = 48) (hbp : allB ps) : BytesAt (w.alloc (.cells X E)) (some ⟨b, 0, none⟩) 48 ps := by
  have h := bytes_topU (w := w) (b := b) (cs := X) (E := E) (fr := (0, 0)) ps hb hX.out hbp (by omega)
  rwa [hlp] at h
theorem range_of {w : World} {X : Array Value} {ps : List Int} {b off : Nat} (h : BytesAt w (some ⟨b, off, none⟩) 48 ps) (hX : Hid (X = (u8s ps).toArray)) : w.rangeAt b off X.toList := by
  rw [hX.out]; exact h.range
theorem sizeP {X : Array Value} {zs : List Int} (hX : Hid (X = (u8s zs).toArray)) (hl : zs.length = 48) : X.size = 48 := by rw [hX.out]; simp [hl]
theorem oneP {X : Array Value} {zs : List Int} (hX : Hid (X = (u8s zs).toArray)) : X.all (·.oneCell') = true := by rw [hX.out]; exact one_u8s zs
theorem eq48X {X Y : Array Value} {xs ys : List Int} (hX : Hid (X = (u8s xs).toArray)) (hY : Hid (Y = (u8s ys).toArray)) (hx : xs.length = 48) (hy : ys.length = 48) (bx : allB xs) (bby : allB ys) {b : Bool} (hb : decide (xs = ys) = b) (w : World) :
    (binOp .eql 26 (.agg X) (.agg Y)).run Try.prog w = .ok (.bool b) w := by
  rw [hX.out, hY.out]; exact eq48 xs ys hx hy bx bby hb w
theorem range_below {w w' : World} {b o : Nat} {cs : List Value} (h : w.rangeAt b o cs) (hb : Below w.heap.size w w') : w'.rangeAt b o cs := fun j v hv => cell_keep hb (h j v hv)
theorem sealX_any (X : Array Value) (zs : List Int) (Z : Array Value) (w : World) (hX : Hid (X = (u8s zs).toArray)) (hZ : Hid (Z = (u8s (sealZ zs)).toArray)) (hl : zs.length = 48) (hb : allB zs) :
    Calls Try.prog 27 #[.agg X] w fun e w' => e = .returned (.agg Z) ∧ Below w.heap.size w w' := by
  rw [hX.out, hZ.out]; exact cellSeal_any zs w hl hb
theorem sealedX_any (X : Array Value) (zs : List Int) (w : World) (hX : Hid (X = (u8s zs).toArray)) (hl : zs.length = 48) (hb : allB zs) {b : Bool} (hd : decide (sealZ zs = zs) = b) :
    Calls Try.prog 16 #[.agg X] w fun e w' => e = .returned (.bool b) ∧ Below w.heap.size w w' := by
  rw [hX.out]; exact sealed_any zs w hl hb hd
theorem bytes_of_range {w : World} {b : Nat} {zs : List Int} (h : w.rangeAt b 0 (u8s zs)) (hb : b < w.heap.size) (hl : zs.length = 48) (hz : allB zs) : BytesAt w (some ⟨b, 0, none⟩) 48 zs := by
  have := bytes_range h hb hz (by omega)
  rwa [hl] at this
end Go.Proofs.Ytnjjejhniekdcaa
