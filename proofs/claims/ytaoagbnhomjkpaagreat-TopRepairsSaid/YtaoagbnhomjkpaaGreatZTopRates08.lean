import Derived.Test.YtaoagbnhomjkpaaGreatZTopRates07
/- The walk of law 4's awake. -/
namespace Go.Proofs.YtaoagbnhomjkpaaGreat
set_option linter.unusedVariables false
set_option linter.unusedSimpArgs false
open Go.RowKit
set_option maxRecDepth 100000
set_option maxHeartbeats 4000000
abbrev z48 : List Int := List.replicate 48 0
theorem z48_B : allB z48 := fun z hz => by obtain ⟨_, rfl⟩ := List.mem_replicate.1 hz; unfold isB; omega
theorem cellZ_zero : cellZ 0 z48 = [0, 0, 0, 0, 85] ++ z48 := by
  have : e8 [0, 0, 0, 0] = 85 := by kernel_rfl
  show bytes4 0 ++ [e8 [0, 0, 0, 0]] ++ z48 = _
  rw [this]; rfl
theorem zero_drops : drops false [0, 0, 0, 0, 85] = false := by kernel_rfl
theorem zero_takes : takes false [0, 0, 0, 0, 85] = [0, 0, 0, 0] := by kernel_rfl
theorem zero_empty : decide (kindZ 0 0 0 0 = 2 ∨ kindZ 0 0 0 0 = 3) = true := by kernel_rfl
theorem zero_sealed : decide (sealZ z48 = z48) = true := by kernel_rfl
theorem eq46_zero (w : World) : (binOp .eql 58 (.agg #[.int .i64 0, .int .i64 0, .int .i64 0, .int .i64 0, .int .i64 0, .int .u8 0, .int .u8 0, .int .u8 0, .int .u8 0, .int .u8 0, .int .u8 0, .int .u8 0, .int .u8 0, .int .u8 0, .int .u8 0, .int .u8 0, .int .u8 0, .int .u8 0, .int .u8 0, .int .u8 0, .int .u8 0, .int .u8 0, .int .u8 0, .int .u8 0, .int .u8 0, .int .u8 0, .int .u8 0, .int .u8 0, .int .u8 0, .int .u8 0, .int .u8 0, .int .u8 0, .int .u8 0, .int .u8 0, .int .u8 0, .int .u8 0, .int .u8 0, .int .u8 0, .int .u8 0, .int .u8 0, .int .u8 0, .int .u8 0, .int .u8 0, .int .u8 0, .int .u8 0, .int .u8 0, .int .u8 0, .int .u8 0, .int .u8 0, .int .u8 0, .int .u8 0, .int .u8 0, .int .u8 0]) (.agg #[.int .i64 0, .int .i64 0, .int .i64 0, .int .i64 0, .int .i64 0, .int .u8 0, .int .u8 0, .int .u8 0, .int .u8 0, .int .u8 0, .int .u8 0, .int .u8 0, .int .u8 0, .int .u8 0, .int .u8 0, .int .u8 0, .int .u8 0, .int .u8 0, .int .u8 0, .int .u8 0, .int .u8 0, .int .u8 0, .int .u8 0, .int .u8 0, .int .u8 0, .int .u8 0, .int .u8 0, .int .u8 0, .int .u8 0, .int .u8 0, .int .u8 0, .int .u8 0, .int .u8 0, .int .u8 0, .int .u8 0, .int .u8 0, .int .u8 0, .int .u8 0, .int .u8 0, .int .u8 0, .int .u8 0, .int .u8 0, .int .u8 0, .int .u8 0, .int .u8 0, .int .u8 0, .int .u8 0, .int .u8 0, .int .u8 0, .int .u8 0, .int .u8 0, .int .u8 0, .int .u8 0])).run Tryz.prog w = .ok (.bool true) w := by kernel_rfl
theorem recAt_new {w : World} : RecAt (w.alloc (.cells #[.int .i64 0, .int .i64 0, .bool false] 65)) w.heap.size 0 0 false := ⟨[], _, heap_alloc_new _ _⟩
theorem parse_zero (p : Nat) (a : Option Addr) (cap : Nat) (w : World) (h : RecAt w p 0 0 false) (hz : BytesAt w a 53 ([0, 0, 0, 0, 85] ++ z48)) (hc1 : 53 ≤ cap) (hc2 : cap ≤ 9223372036854775807) (hn : ∀ b off, a = some ⟨b, off, none⟩ → b ≠ p) :
    Calls Tryz.prog 16 #[.slice a 53 cap, .pointer (some ⟨p, 0, none⟩), .bool false] w fun e w' => e = .returned (.tuple #[.agg noCell.toArray, .int .i64 0]) ∧ Chg p w w' := by
  refine (cellParse_take p 0 0 false a cap _ false w h (by omega) (by omega) (by omega) (by omega) hz hc1 hc2 hn zero_drops).mono ?_
  rintro e w' ⟨rfl, _, hC⟩
  refine ⟨?_, hC⟩
  rw [show ([0, 0, 0, 0, 85] ++ z48 : List Int).take 5 = [0, 0, 0, 0, 85] from rfl, zero_takes]
  kernel_rfl
theorem row_of {w : World} {b : Nat} {g p c t l : Int} {zs : List Int} (h : w.rangeAt b 0 (cellV g p c t l zs)) (hb : b < w.heap.size) (hl : zs.length = 48) (hz : allB zs) : BytesAt w (some ⟨b, 5, none⟩) 48 zs := by
  have hr : w.rangeAt b 5 (u8s zs) := fun j v hv => by
    have := h (5 + j) v (by rw [List.getElem?_append_right (by simp)]; simpa using hv)
    rw [Nat.zero_add] at this; exact this
  have := bytes_range hr hb hz (by omega)
  rwa [hl] at this
end Go.Proofs.YtaoagbnhomjkpaaGreat

/- Steps of the laws of cells: whole cells and payloads out of memory and into it, one operation each. -/
namespace Go.Proofs.YtaoagbnhomjkpaaGreat
set_option linter.unusedVariables false
set_option linter.unusedSimpArgs false
open Go.RowKit
set_option maxRecDepth 100000
theorem wpList_run {P : Program} {ops : Array Oper} {rest : List Oper} {o : Oper} {a : Act} {w : World} {Q : Exit → Act → World → Prop} {v : Value} (hg : o.guard = none) (hr : (execOp a.eval o).run P w = .ok (.value v) w)
    (h : wpList P ops Q rest (a.put o.dst v) w) : wpList P ops Q (o :: rest) a w := by
  unfold wpList
  rw [if_pos (by unfold Region.wanted; rw [hg])]
  refine .inl ?_
  unfold Oper.wp
  rw [hr]
  exact h
section
variable {ops : Array Oper} {rest : List Oper} {a : Act} {w : World} {Q : Exit → Act → World → Prop} {x y : Operand} {b off : Nat} {dst : Option Nat} {ty : TypeId} {pos : String} {after : Array Edge}
theorem wpList_load48 (X : Array Value) (h1 : ∃ b off, a.eval x = .pointer (some ⟨b, off, none⟩) ∧ X.size = 48 ∧ w.rangeAt b off X.toList)
    (h : wpList Tryz.prog ops Q rest (a.put dst (.agg X)) w) : wpList Tryz.prog ops Q (⟨dst, .load 24 x, ty, pos, after, none⟩ :: rest) a w := by
  obtain ⟨b, off, hx, hl, hc⟩ := h1
  refine wpList_run rfl ?_ h
  unfold execOp
  have hr := run_loadVar_mid (P := Tryz.prog) w b off 24 X.toList _ hc und48 rfl (by rw [siz48]; simp [hl])
  simp only [hx, Instr.loadAt, Instr.sureAddr, Sem.run_bind, Sem.run_pure, Result.andThen_ok, hr]
theorem wpList_load46 (X : Array Value) (h1 : ∃ b, a.eval x = .pointer (some ⟨b, 0, none⟩) ∧ X.size = 53 ∧ w.rangeAt b 0 X.toList)
    (h : wpList Tryz.prog ops Q rest (a.put dst (.agg X)) w) : wpList Tryz.prog ops Q (⟨dst, .load 58 x, ty, pos, after, none⟩ :: rest) a w := by
  obtain ⟨b, hx, hl, hc⟩ := h1
  refine wpList_run rfl ?_ h
  unfold execOp
  have hr := load46 hc (by simpa using hl)
  simp only [hx, Instr.loadAt, Instr.sureAddr, Sem.run_bind, Sem.run_pure, Result.andThen_ok, hr]
theorem wpList_build46 (X : Array Value) (g p c t l : Int) (zs : List Int) (hX : Hid (X = (cellV g p c t l zs).toArray)) (h1 : a.eval x = .agg #[.int .i64 g, .int .i64 p, .int .i64 c, .int .i64 t, .int .i64 l] ∧ a.eval y = .agg (u8s zs).toArray ∧ zs.length = 48)
    (h : wpList Tryz.prog ops Q rest (a.put dst (.agg X)) w) : wpList Tryz.prog ops Q (⟨dst, .build 58 #[(0, x), (1, y)], ty, pos, after, none⟩ :: rest) a w := by
  obtain ⟨hx, hy, hl⟩ := h1
  have hX := hX.out
  subst hX
  refine wpList_run rfl ?_ h
  unfold execOp
  simp only [List.map_toArray, List.map_cons, List.map_nil, hx, hy, Sem.run_bind, Sem.run_pure, Result.andThen_ok, build46 g p c t l hl]
/-- a fresh block, filled. -/
theorem fill_new {w : World} {C X : Array Value} {E : TypeId} {n : Nat} (hC : C.size = n) (hX : X.size = n) {W2 : World} (h : (w.alloc (.cells C E)).setCells w.heap.size 0 X.toList = W2) :
    w.heap.size < W2.heap.size ∧ Below w.heap.size w W2 ∧ W2.rangeAt w.heap.size 0 X.toList := by
  subst h
  refine ⟨by rw [size_setCells]; simp, Below.setCells _ _ ((Below.refl _ _).alloc (Nat.le_refl _) _) (Nat.le_refl _), World.rangeAt_setCells_same _ _ _ _ ?_⟩
  rw [show X.toList.length = n by simpa using hX]
  exact there_new rfl hC
theorem wpList_fill46 (X : Array Value) {C : Array Value} {E : TypeId} (h1 : a.eval x = .pointer (some ⟨w.heap.size, 0, none⟩) ∧ a.eval y = .agg X ∧ X.size = 53 ∧ X.all (·.oneCell') = true ∧ C.size = 53)
    (h : ∀ W2 : World, w.heap.size < W2.heap.size → Below w.heap.size w W2 → W2.rangeAt w.heap.size 0 X.toList → wpList Tryz.prog ops Q rest (a.put none undef) W2) : wpList Tryz.prog ops Q (⟨none, .store 58 x y, ty, pos, after, none⟩ :: rest) a (w.alloc (.cells C E)) := by
  obtain ⟨hx, hy, hl, h1, hC⟩ := h1
  have hf := fill_new (w := w) (E := E) hC hl rfl
  exact wpList_store_mid rfl 58 x y rfl _ 0 X hx hy (by rw [hl]; exact there_new rfl hC) (by rw [siz46, hl]) h1 (h _ hf.1 hf.2.1 hf.2.2)
theorem wpList_fill48 (X : Array Value) {C : Array Value} {E : TypeId} (h1 : a.eval x = .pointer (some ⟨w.heap.size, 0, none⟩) ∧ a.eval y = .agg X ∧ X.size = 48 ∧ X.all (·.oneCell') = true ∧ C.size = 48)
    (h : ∀ W2 : World, w.heap.size < W2.heap.size → Below w.heap.size w W2 → W2.rangeAt w.heap.size 0 X.toList → wpList Tryz.prog ops Q rest (a.put none undef) W2) : wpList Tryz.prog ops Q (⟨none, .store 24 x y, ty, pos, after, none⟩ :: rest) a (w.alloc (.cells C E)) := by
  obtain ⟨hx, hy, hl, h1, hC⟩ := h1
  have hf := fill_new (w := w) (E := E) hC hl rfl
  exact wpList_store_mid rfl 24 x y rfl _ 0 X hx hy (by rw [hl]; exact there_new rfl hC) (by rw [siz48, hl]) h1 (h _ hf.1 hf.2.1 hf.2.2)
theorem wpQuiet_runG {P : Program} {C : World → Prop} {Q : Act → Prop} {o : Oper} {v : Value} (hw : Region.wanted o (yielded ops a.tmps) = true) (hr : ∀ w, C w → (execOp a.eval o).run P w = .ok (.value v) w)
    (h : wpQuiet P ops C Q rest (a.put o.dst v)) : wpQuiet P ops C Q (o :: rest) a := by
  unfold wpQuiet
  rw [if_pos hw]
  refine ⟨v, fun w hw => ?_, h⟩
  unfold Oper.quietAt
  rw [hr w hw]
  exact ⟨rfl, rfl⟩
theorem wpQuiet_load48X {C : World → Prop} {Q : Act → Prop} {gd : Option (Nat × Bool)} (X : Array Value) (hw : Region.wanted ⟨dst, .load 24 x, ty, pos, after, gd⟩ (yielded ops a.tmps) = true)
    (h1 : ∃ b off, a.eval x = .pointer (some ⟨b, off, none⟩) ∧ X.size = 48 ∧ ∀ w, C w → w.rangeAt b off X.toList)
    (h : wpQuiet Tryz.prog ops C Q rest (a.put dst (.agg X))) : wpQuiet Tryz.prog ops C Q (⟨dst, .load 24 x, ty, pos, after, gd⟩ :: rest) a := by
  obtain ⟨b, off, hx, hl, hc⟩ := h1
  refine wpQuiet_runG hw (fun w hC => ?_) h
  unfold execOp
  have hr := run_loadVar_mid (P := Tryz.prog) w b off 24 X.toList _ (hc w hC) und48 rfl (by rw [siz48]; simp [hl])
  simp only [hx, Instr.loadAt, Instr.sureAddr, Sem.run_bind, Sem.run_pure, Result.andThen_ok, hr]
theorem wpQuiet_load46X {C : World → Prop} {Q : Act → Prop} {gd : Option (Nat × Bool)} (X : Array Value) (hw : Region.wanted ⟨dst, .load 58 x, ty, pos, after, gd⟩ (yielded ops a.tmps) = true)
    (h1 : ∃ b, a.eval x = .pointer (some ⟨b, 0, none⟩) ∧ X.size = 53 ∧ ∀ w, C w → w.rangeAt b 0 X.toList)
    (h : wpQuiet Tryz.prog ops C Q rest (a.put dst (.agg X))) : wpQuiet Tryz.prog ops C Q (⟨dst, .load 58 x, ty, pos, after, gd⟩ :: rest) a := by
  obtain ⟨b, hx, hl, hc⟩ := h1
  refine wpQuiet_runG hw (fun w hC => ?_) h
  unfold execOp
  have hr := load46 (hc w hC) (by simpa using hl)
  simp only [hx, Instr.loadAt, Instr.sureAddr, Sem.run_bind, Sem.run_pure, Result.andThen_ok, hr]
theorem wpList_load46G {gd : Option (Nat × Bool)} (X : Array Value) (hw : Region.wanted ⟨dst, .load 58 x, ty, pos, after, gd⟩ (yielded ops a.tmps) = true) (h1 : ∃ b, a.eval x = .pointer (some ⟨b, 0, none⟩) ∧ X.size = 53 ∧ w.rangeAt b 0 X.toList)
    (h : wpList Tryz.prog ops Q rest (a.put dst (.agg X)) w) : wpList Tryz.prog ops Q (⟨dst, .load 58 x, ty, pos, after, gd⟩ :: rest) a w :=
  wpList_unguard hw (wpList_load46 X h1 h)
theorem made_u8s (n : Nat) : madeCells #[Value.int .u8 0] n = (u8s (List.replicate n 0)).toArray := by
  refine Array.ext (by simp [madeCells]) fun i h1 h2 => ?_
  simp [madeCells, Nat.mod_one]
/-- make of bytes. -/
theorem wpList_makeB {l c : Operand} (n : Nat) (h1 : a.eval l = .int .i64 (n : Int) ∧ a.eval c = .int .i64 (n : Int) ∧ n ≤ 1000000)
    (h : ∀ W2 : World, w.heap.size < W2.heap.size → Below w.heap.size w W2 → BytesAt W2 (some ⟨w.heap.size, 0, none⟩) n (List.replicate n 0) → wpList Tryz.prog ops Q rest (a.put dst (.slice (some ⟨w.heap.size, 0, none⟩) n n)) W2) : wpList Tryz.prog ops Q (⟨dst, .makeSlice 36 l c, ty, pos, after, none⟩ :: rest) a w := by
  obtain ⟨hl, hc, hn⟩ := h1
  obtain ⟨inf, hin, hi0, hi1, hi2⟩ := info_parts byteInfo
  refine wpList_make_row w rfl l c _ rfl 5 inf _ Tryz.underlying36 hin hi0 hi1 rfl .i64 .i64 n hl hc (by rw [hi2]; omega) (by omega) ?_
  rw [made_u8s]
  refine h _ (by simp) ((Below.refl _ _).alloc (Nat.le_refl _) _) ?_
  have h1 := bytes_topU (w := w) (E := 5) (fr := (0, 0)) (cs := (u8s (List.replicate n 0)).toArray) (List.replicate n 0) rfl rfl (fun z hz => by obtain ⟨_, rfl⟩ := List.mem_replicate.1 hz; omega) (by rw [List.length_replicate]; omega)
  rwa [List.length_replicate] at h1
end
theorem bytes_block {w : World} {X : Array Value} {ps : List Int} {E : TypeId} {b : Nat} (hX : Hid (X = (u8s ps).toArray)) (hb : b = w.heap.size) (hlp : ps.length = 48) (hbp : allB ps) : BytesAt (w.alloc (.cells X E)) (some ⟨b, 0, none⟩) 48 ps := by
  have h := bytes_topU (w := w) (b := b) (cs := X) (E := E) (fr := (0, 0)) ps hb hX.out hbp (by omega)
  rwa [hlp] at h
theorem range_of {w : World} {X : Array Value} {ps : List Int} {b off : Nat} (h : BytesAt w (some ⟨b, off, none⟩) 48 ps) (hX : Hid (X = (u8s ps).toArray)) : w.rangeAt b off X.toList := by
  rw [hX.out]; exact h.range
theorem buildX_no (X : Array Value) (g p c t l : Int) (nni : Bool) (zs : List Int) (w : World) (hX : Hid (X = (cellV g p c t l zs).toArray)) (hr : rightH nni g p c t l = false) (hl : zs.length = 48) :
    Calls Tryz.prog 34 #[.agg X, .bool nni] w fun e w' => e = .returned (.tuple #[.slice none 0 0, .int .i64 1]) ∧ Below w.heap.size w w' := by
  rw [hX.out]; exact cellBuild_no g p c t l nni (u8s zs) w hr (by simp [hl])
theorem buildX_yes (X : Array Value) (g p c t l n : Int) (nni : Bool) (zs : List Int) (w : World) (hX : Hid (X = (cellV g p c t l zs).toArray)) (hr : rightH nni g p c t l = true) (hw : wordH nni g p c t l = n) (hl : zs.length = 48) (hb : allB zs) :
    Calls Tryz.prog 34 #[.agg X, .bool nni] w fun e w' => ∃ v, e = .returned (.tuple #[v, .int .i64 0]) ∧ OwnB w' w.heap.size v 53 (cellZ n zs) ∧ Below w.heap.size w w' := by
  rw [hX.out]; exact cellBuild_yes g p c t l n nni zs w hr hw hl hb
theorem buildX_some (X : Array Value) (g p c t l : Int) (nni : Bool) (zs : List Int) (w : World) (hX : Hid (X = (cellV g p c t l zs).toArray)) (hl : zs.length = 48) (hb : allB zs) :
    Calls Tryz.prog 34 #[.agg X, .bool nni] w fun e w' => ∃ v x, e = .returned (.tuple #[v, .int .i64 x]) ∧ Below w.heap.size w w' := by
  cases h : rightH nni g p c t l with
  | true => exact (buildX_yes X g p c t l _ nni zs w hX h rfl hl hb).mono fun e w' ⟨v, he, _, hb⟩ => ⟨v, _, he, hb⟩
  | false => exact (buildX_no X g p c t l nni zs w hX h hl).mono fun e w' ⟨he, hb⟩ => ⟨_, _, he, hb⟩
theorem sizeX {X : Array Value} {g p c t l : Int} {zs : List Int} (hX : Hid (X = (cellV g p c t l zs).toArray)) (hl : zs.length = 48) : X.size = 53 := by rw [hX.out]; simp [hl]
theorem oneX {X : Array Value} {g p c t l : Int} {zs : List Int} (hX : Hid (X = (cellV g p c t l zs).toArray)) : X.all (·.oneCell') = true := by rw [hX.out]; exact one_cellV _ _ _ _ _ _
theorem sizeP {X : Array Value} {zs : List Int} (hX : Hid (X = (u8s zs).toArray)) (hl : zs.length = 48) : X.size = 48 := by rw [hX.out]; simp [hl]
theorem oneP {X : Array Value} {zs : List Int} (hX : Hid (X = (u8s zs).toArray)) : X.all (·.oneCell') = true := by rw [hX.out]; exact one_u8s zs
theorem eq48X {X Y : Array Value} {xs ys : List Int} (hX : Hid (X = (u8s xs).toArray)) (hY : Hid (Y = (u8s ys).toArray)) (hx : xs.length = 48) (hy : ys.length = 48) (bx : allB xs) (bby : allB ys) {b : Bool} (hb : decide (xs = ys) = b) (w : World) :
    (binOp .eql 24 (.agg X) (.agg Y)).run Tryz.prog w = .ok (.bool b) w := by
  rw [hX.out, hY.out]; exact eq48 xs ys hx hy bx bby hb w
theorem range_below {w w' : World} {b o : Nat} {cs : List Value} (h : w.rangeAt b o cs) (hb : Below w.heap.size w w') : w'.rangeAt b o cs := fun j v hv => cell_keep hb (h j v hv)
theorem sealX_any (X : Array Value) (zs : List Int) (Z : Array Value) (w : World) (hX : Hid (X = (u8s zs).toArray)) (hZ : Hid (Z = (u8s (sealZ zs)).toArray)) (hl : zs.length = 48) (hb : allB zs) :
    Calls Tryz.prog 102 #[.agg X] w fun e w' => e = .returned (.agg Z) ∧ Below w.heap.size w w' := by
  rw [hX.out, hZ.out]; exact cellSeal_any zs w hl hb
theorem sealedX_any (X : Array Value) (zs : List Int) (w : World) (hX : Hid (X = (u8s zs).toArray)) (hl : zs.length = 48) (hb : allB zs) {b : Bool} (hd : decide (sealZ zs = zs) = b) :
    Calls Tryz.prog 97 #[.agg X] w fun e w' => e = .returned (.bool b) ∧ Below w.heap.size w w' := by
  rw [hX.out]; exact sealed_any zs w hl hb hd
theorem emptyX_any (X : Array Value) (g p c t l : Int) (zs : List Int) (w : World) (hX : Hid (X = (cellV g p c t l zs).toArray)) (hl : zs.length = 48) {K : Bool} (hk : decide (kindZ p c t l = 2 ∨ kindZ p c t l = 3) = K) :
    Calls Tryz.prog 37 #[.agg X] w fun e w' => e = .returned (.bool K) ∧ Below w.heap.size w w' := by
  subst hk; rw [hX.out]; exact cellEmpty_any g p c t l (u8s zs) w (by simp [hl])
/-- the bytes of a cell, or none. -/
def outZ (nni : Bool) (g p c t l : Int) (zs : List Int) : List Int := if rightH nni g p c t l then cellZ (wordH nni g p c t l) zs else []
theorem outZ_len {nni : Bool} {g p c t l : Int} {zs : List Int} (hl : zs.length = 48) : (outZ nni g p c t l zs).length ≤ 53 := by
  unfold outZ
  split
  · simp [cellZ, headZ, bytes4, hl]
  · simp
theorem buildX_out (X : Array Value) (g p c t l : Int) (nni : Bool) (zs : List Int) (w : World) (hX : Hid (X = (cellV g p c t l zs).toArray)) (hl : zs.length = 48) (hb : allB zs) {E : Int} (hE : Hid (E = if rightH nni g p c t l then 0 else 1)) :
    Calls Tryz.prog 34 #[.agg X, .bool nni] w fun e w' => ∃ a n cc, e = .returned (.tuple #[.slice a n cc, .int .i64 E]) ∧ BytesAt w' a n (outZ nni g p c t l zs) ∧ Below w.heap.size w w' := by
  rw [hE.out]
  unfold outZ
  cases h : rightH nni g p c t l with
  | true =>
    refine (buildX_yes X g p c t l _ nni zs w hX h rfl hl hb).mono ?_
    rintro e w' ⟨v, rfl, own, hbw⟩
    obtain ⟨a1, c1, rfl, hac1, hcm1, HB1, HF1, HN1⟩ := own.at (by omega)
    exact ⟨a1, 53, c1, rfl, HB1, hbw⟩
  | false => exact (buildX_no X g p c t l nni zs w hX h hl).mono fun e w' ⟨he, hbw⟩ => ⟨none, 0, 0, he, BytesAt.nil _, hbw⟩
theorem cellV_size {g p c t l : Int} {zs : List Int} (h : zs.length = 48) : (cellV g p c t l zs).toArray.size = 53 := by simp [h]
theorem bytes_of_range {w : World} {b : Nat} {zs : List Int} (h : w.rangeAt b 0 (u8s zs)) (hb : b < w.heap.size) (hl : zs.length = 48) (hz : allB zs) : BytesAt w (some ⟨b, 0, none⟩) 48 zs := by
  have := bytes_range h hb hz (by omega)
  rwa [hl] at this
end Go.Proofs.YtaoagbnhomjkpaaGreat
