import Derived.DeepKeys
import Derived.Laws.StructEq
import Derived.Lib.AppendZerosOnto
import Derived.Lib.AppendZeros
import Derived.Test.YtaoagbnhomjkpaaGreatZTopRates00
import Derived.Test.YtaoagbnhomjkpaaGreatZTopRates01
import Derived.Test.YtaoagbnhomjkpaaGreatZTopRates04
import Derived.Test.YtaoagbnhomjkpaaGreatZTopRates05
/- The walks of the laws HeaderTells, HeaderShort, HeaderBack, HeaderUnlike. -/
namespace Go.Proofs.YtaoagbnhomjkpaaGreat
set_option linter.unusedVariables false
set_option linter.unusedSimpArgs false
open Go.RowKit
set_option maxRecDepth 100000
set_option maxHeartbeats 4000000
attribute [local irreducible] rightH wordH
def at4 (zs : List Int) (k : Nat) : Int := zs[k]?.getD 0
def uW (zs : List Int) : Int := word4 (at4 zs 0) (at4 zs 1) (at4 zs 2) (at4 zs 3)
def uErr (zs : List Int) : Int := if zs.length < 4 then 2 else if 4 < zs.length then 3 else 0
def uG (nni : Bool) (zs : List Int) : Int := if zs.length = 4 then gfcW nni (uW zs) else 0
def uP (nni : Bool) (zs : List Int) : Int := if zs.length = 4 then vpiW nni (uW zs) else 0
def uC (zs : List Int) : Int := if zs.length = 4 then uW zs / 16 % 65536 else 0
def uT (zs : List Int) : Int := if zs.length = 4 then uW zs / 2 % 8 else 0
def uL (zs : List Int) : Int := if zs.length = 4 then uW zs % 2 else 0
theorem unpack_any {w : World} {a : Option Addr} {len cap : Nat} {zs : List Int} (h : BytesAt w a len zs) (nni : Bool) :
    Calls Tryz.prog 47 #[.slice a len cap, .bool nni] w fun e w' => e = .returned (.tuple #[.agg #[.int .i64 (uG nni zs), .int .i64 (uP nni zs), .int .i64 (uC zs), .int .i64 (uT zs), .int .i64 (uL zs)], .int .i64 (uErr zs)]) ∧ Below w.heap.size w w' := by
  have hl := h.length
  unfold uG uP uC uT uL uErr
  rw [hl]
  by_cases h1 : len < 4
  · rw [if_neg (by omega), if_neg (by omega), if_neg (by omega), if_neg (by omega), if_neg (by omega), if_pos h1]
    exact unpack_few a len cap nni w h1 (by omega)
  · by_cases h2 : 4 < len
    · rw [if_neg (by omega), if_neg (by omega), if_neg (by omega), if_neg (by omega), if_neg (by omega), if_neg h1, if_pos h2]
      exact unpack_many a len cap nni w h2 (by omega) (by omega)
    · obtain rfl : len = 4 := by omega
      rw [if_pos rfl, if_pos rfl, if_pos rfl, if_pos rfl, if_pos rfl, if_neg h1, if_neg h2]
      obtain ⟨b, off, rfl, hb, hc⟩ := h.cells (by omega)
      exact unpack_yes b off cap _ _ _ _ nni w hb (hc 0 (by omega)) (hc 1 (by omega)) (hc 2 (by omega)) (hc 3 (by omega)) (h.byte 0).1 (h.byte 0).2 (h.byte 1).1 (h.byte 1).2 (h.byte 2).1 (h.byte 2).2 (h.byte 3).1 (h.byte 3).2
attribute [irreducible] uG uP uC uT uL uErr uW
def bytes4 (n : Int) : List Int := [n / 16777216 % 256, n / 65536 % 256, n / 256 % 256, n % 256]
theorem bytes4_at {w : World} {b : Nat} {n : Int} (hb : b < w.heap.size) (h0 : w.cell? ⟨b, 0, none⟩ = some (.int .u8 (n / 16777216 % 256))) (h1 : w.cell? ⟨b, 1, none⟩ = some (.int .u8 (n / 65536 % 256))) (h2 : w.cell? ⟨b, 2, none⟩ = some (.int .u8 (n / 256 % 256))) (h3 : w.cell? ⟨b, 3, none⟩ = some (.int .u8 (n % 256))) :
    BytesAt w (some ⟨b, 0, none⟩) 4 (bytes4 n) :=
  ⟨rfl, by omega, fun k => by
    match k with
    | 0 => show 0 ≤ n / 16777216 % 256 ∧ n / 16777216 % 256 < 256; omega
    | 1 => show 0 ≤ n / 65536 % 256 ∧ n / 65536 % 256 < 256; omega
    | 2 => show 0 ≤ n / 256 % 256 ∧ n / 256 % 256 < 256; omega
    | 3 => show 0 ≤ n % 256 ∧ n % 256 < 256; omega
    | k + 4 => simp [bytes4],
   fun _ => ⟨b, 0, rfl, hb, fun k hk => by
    match k, hk with
    | 0, _ => exact h0
    | 1, _ => exact h1
    | 2, _ => exact h2
    | 3, _ => exact h3⟩⟩
end Go.Proofs.YtaoagbnhomjkpaaGreat

/- Are two structs, or two arrays, of plain data alike? One equation of the walk. -/
namespace Go.Proofs.YtaoagbnhomjkpaaGreat
set_option linter.unusedVariables false
open Go.RowKit
theorem eq_run {P : Program} {t : TypeId} {w : World} {d m D D' : Nat} {xs ys : Array Value} {lx ly : List Lit} {b : Bool} (hd : d + m = 10000) (hk : P.keyTypeAt m t = true) (fx : (Value.agg xs).formed P t = true) (fy : (Value.agg ys).formed P t = true)
    (hx : P.keyLits D t xs.toList = some lx) (hy : P.keyLits D' t ys.toList = some ly) (hb : b = true ↔ lx = ly) : (binOp .eql t (.agg xs) (.agg ys)).run P w = .ok (.bool b) w := by
  obtain ⟨r, hr, hiff⟩ := run_equalIn_deep d m t hk w D D' (.agg xs) (.agg ys) lx ly fx fy hx hy
  rw [hd] at hr
  rw [run_eql_struct, hr, Result.andThen_ok]
  have : r = b := by rw [Bool.eq_iff_iff, hiff, hb]
  rw [this]
theorem neq_run {P : Program} {t : TypeId} {w : World} {d m D D' : Nat} {xs ys : Array Value} {lx ly : List Lit} {b : Bool} (hd : d + m = 10000) (hk : P.keyTypeAt m t = true) (fx : (Value.agg xs).formed P t = true) (fy : (Value.agg ys).formed P t = true)
    (hx : P.keyLits D t xs.toList = some lx) (hy : P.keyLits D' t ys.toList = some ly) (hb : b = true ↔ lx = ly) : (binOp .neq t (.agg xs) (.agg ys)).run P w = .ok (.bool (!b)) w := by
  obtain ⟨r, hr, hiff⟩ := run_equalIn_deep d m t hk w D D' (.agg xs) (.agg ys) lx ly fx fy hx hy
  rw [hd] at hr
  rw [run_neq_struct, hr, Result.andThen_ok]
  have : r = b := by rw [Bool.eq_iff_iff, hiff, hb]
  rw [this]
theorem eq_header {g p c t l g' p' c' t' l' : Int} {b : Bool} (hb : b = true ↔ g = g' ∧ p = p' ∧ c = c' ∧ t = t' ∧ l = l') (w : World) :
    (binOp .eql 56 (.agg #[.int .i64 g, .int .i64 p, .int .i64 c, .int .i64 t, .int .i64 l]) (.agg #[.int .i64 g', .int .i64 p', .int .i64 c', .int .i64 t', .int .i64 l'])).run Tryz.prog w = .ok (.bool b) w := by
  have e : b = decide (g = g' ∧ p = p' ∧ c = c' ∧ t = t' ∧ l = l') := by rw [Bool.eq_iff_iff, hb]; simp
  clear hb
  subst e
  by_cases h1 : g = g'
  · by_cases h2 : p = p'
    · by_cases h3 : c = c'
      · by_cases h4 : t = t'
        · by_cases h5 : l = l'
          · simp [go_sem, h1, h2, h3, h4, h5]
          · simp [go_sem, h1, h2, h3, h4, h5]
        · simp [go_sem, h1, h2, h3, h4]
      · simp [go_sem, h1, h2, h3]
    · simp [go_sem, h1, h2]
  · simp [go_sem, h1]
theorem mapM_some {α β : Type} {f : α → Option β} {g : α → β} : ∀ {l : List α}, (∀ x ∈ l, f x = some (g x)) → l.mapM f = some (l.map g)
  | [], _ => rfl
  | a :: l, h => by
    rw [List.mapM_cons, h a (by simp), mapM_some (l := l) (fun x hx => h x (by simp [hx]))]
    rfl
theorem keyLits_ints {P : Program} {t e : TypeId} {n D : Nat} {k : IntKind} (hu : P.underlying t = some (.array n e)) (he : P.underlying e = some (.int k)) (hc : P.cellsOf t = n) (hce : P.cellsOf e = 1) (zs : List Int) (hz : zs.length = n) (hw : ∀ z ∈ zs, (Lit.int k z).wf = true) :
    P.keyLits (D + 2) t (zs.map (Value.int k)) = some (zs.map (Lit.int k)) := by
  unfold Program.keyLits
  simp only [hu, hc, hce, List.length_map, hz, if_true]
  rw [mapM_some (g := fun i => [Lit.int k (zs[i]?.getD 0)])]
  · simp only [Option.map_some, Option.some.injEq]
    apply List.ext_getElem?
    intro i
    rw [show (List.map (fun i => [Lit.int k (zs[i]?.getD 0)]) (List.range n)).flatten = (List.range n).map (fun i => Lit.int k (zs[i]?.getD 0)) by
      induction (List.range n) with
      | nil => rfl
      | cons a l ih => rw [List.map_cons, List.flatten_cons, ih]; rfl]
    rw [List.getElem?_map, List.getElem?_map]
    by_cases hi : i < n
    · have hi' : i < zs.length := by omega
      rw [List.getElem?_range hi, List.getElem?_eq_getElem hi']; simp [hi']
    · rw [List.getElem?_eq_none (by simp; omega), List.getElem?_eq_none (by omega)]; rfl
  · intro i hi
    simp only [List.mem_range] at hi
    have hi' : i < zs.length := by omega
    have e1 : ((zs.map (Value.int k)).drop (i * 1)).take 1 = [Value.int k zs[i]] := by
      rw [Nat.mul_one, List.drop_eq_getElem_cons (by simpa using hi')]; simp
    rw [e1]
    unfold Program.keyLits
    simp [he, hw _ (List.getElem_mem hi'), hi']
theorem wf_of_u8 {x : Int} (h0 : 0 ≤ x) (h1 : x < 256) : (Lit.int .u8 x).wf = true := by
  have a : IntKind.u8.min = 0 := rfl
  have b : IntKind.u8.max = 255 := rfl
  simp [Lit.wf]; omega
/-- two arrays of bytes. -/
theorem eq_bytes {t e : TypeId} {n : Nat} (hu : Tryz.prog.underlying t = some (.array n e)) (he : Tryz.prog.underlying e = some (.int .u8)) (hc : Tryz.prog.cellsOf t = n) (hce : Tryz.prog.cellsOf e = 1) (hk : Tryz.prog.keyTypeAt 4 t = true) (xs ys : List Int) (hx : xs.length = n) (hy : ys.length = n)
    (bx : ∀ z ∈ xs, 0 ≤ z ∧ z < 256) (bby : ∀ z ∈ ys, 0 ≤ z ∧ z < 256) {b : Bool} (hb : b = true ↔ xs = ys) (w : World) :
    (binOp .eql t (.agg (xs.map (Value.int .u8)).toArray) (.agg (ys.map (Value.int .u8)).toArray)).run Tryz.prog w = .ok (.bool b) w := by
  refine eq_run (d := 9996) (m := 4) (D := 4) (D' := 4) (lx := xs.map (Lit.int .u8)) (ly := ys.map (Lit.int .u8)) rfl hk (by simp [Value.formed, hu, hx, hc]) (by simp [Value.formed, hu, hy, hc]) ?_ ?_ ?_
  · exact keyLits_ints hu he hc hce xs hx (fun z hz => wf_of_u8 (bx z hz).1 (bx z hz).2)
  · exact keyLits_ints hu he hc hce ys hy (fun z hz => wf_of_u8 (bby z hz).1 (bby z hz).2)
  · rw [hb]
    constructor
    · rintro rfl; rfl
    · intro h
      exact List.map_inj_right (f := Lit.int .u8) (fun a b h => by injection h) |>.1 h
theorem eq_four {x y z u x' y' z' u' : Int} {b : Bool} (hb : b = true ↔ x = x' ∧ y = y' ∧ z = z' ∧ u = u') (bx : ∀ v ∈ [x, y, z, u], 0 ≤ v ∧ v < 256) (by' : ∀ v ∈ [x', y', z', u'], 0 ≤ v ∧ v < 256) (w : World) :
    (binOp .eql 127 (.agg #[.int .u8 x, .int .u8 y, .int .u8 z, .int .u8 u]) (.agg #[.int .u8 x', .int .u8 y', .int .u8 z', .int .u8 u'])).run Tryz.prog w = .ok (.bool b) w :=
  eq_bytes Tryz.underlying127 Tryz.underlying5 (by kernel_rfl) (by kernel_rfl) (by kernel_rfl) [x, y, z, u] [x', y', z', u'] rfl rfl bx by' (by rw [hb]; simp) w
end Go.Proofs.YtaoagbnhomjkpaaGreat

/- cell.Sealed, cell.Empty. -/
namespace Go.Proofs.YtaoagbnhomjkpaaGreat
set_option linter.unusedVariables false
set_option linter.unusedSimpArgs false
open Go.RowKit
set_option maxRecDepth 100000
set_option maxHeartbeats 4000000
theorem wpQuiet_run {P : Program} {ops : Array Oper} {C : World → Prop} {Q : Act → Prop} {a : Act} {o : Oper} {rest : List Oper} {v : Value} (hg : o.guard = none) (hr : ∀ w, C w → (execOp a.eval o).run P w = .ok (.value v) w)
    (h : wpQuiet P ops C Q rest (a.put o.dst v)) : wpQuiet P ops C Q (o :: rest) a := by
  unfold wpQuiet
  rw [if_pos (by unfold Region.wanted; rw [hg])]
  refine ⟨v, fun w hw => ?_, h⟩
  unfold Oper.quietAt
  rw [hr w hw]
  exact ⟨rfl, rfl⟩
theorem wpQuiet_load48 {ops : Array Oper} {C : World → Prop} {Q : Act → Prop} {a : Act} {o : Oper} {rest : List Oper} {x : Operand} {b off : Nat} {zs : List Int} (hg : o.guard = none) (ho : o.op = .load 24 x) (hx : a.eval x = .pointer (some ⟨b, off, none⟩))
    (hl : zs.length = 48) (hc : ∀ w, C w → w.rangeAt b off (u8s zs)) (h : wpQuiet Tryz.prog ops C Q rest (a.put o.dst (.agg (u8s zs).toArray))) : wpQuiet Tryz.prog ops C Q (o :: rest) a := by
  refine wpQuiet_run hg (fun w hw => ?_) h
  unfold execOp
  have hr := run_loadVar_mid (P := Tryz.prog) w b off 24 (u8s zs) _ (hc w hw) und48 rfl (by rw [siz48]; simp [hl])
  simp only [ho, hx, Instr.loadAt, Instr.sureAddr, Sem.run_bind, Sem.run_pure, Result.andThen_ok, hr]
theorem eq48 (xs ys : List Int) (hx : xs.length = 48) (hy : ys.length = 48) (bx : allB xs) (bby : allB ys) {b : Bool} (hb : decide (xs = ys) = b) (w : World) :
    (binOp .eql 24 (.agg (u8s xs).toArray) (.agg (u8s ys).toArray)).run Tryz.prog w = .ok (.bool b) w :=
  eq_bytes (t := 24) (e := 5) (n := 48) und48 (by kernel_rfl) (by kernel_rfl) (by kernel_rfl) (by kernel_rfl) xs ys hx hy bx bby (by rw [← hb]; simp) w
theorem sealed_any (zs : List Int) (w : World) (hl : zs.length = 48) (hb : allB zs) {b : Bool} (hd : decide (sealZ zs = zs) = b) :
    Calls Tryz.prog 97 #[.agg (u8s zs).toArray] w fun e w' => e = .returned (.bool b) ∧ Below w.heap.size w w' := by
  have hsz : (u8s zs).toArray.size = 48 := by simp [hl]
  go_enter Tryz.func97, Tryz.ntmps97
  go_wp2
  obtain ⟨w1, hw1⟩ : ∃ w1, w1 = w.alloc (.cells (u8s zs).toArray 24) := ⟨_, rfl⟩
  have Z0 : BytesAt w1 (some ⟨w.heap.size, 0, none⟩) 48 zs := by
    have h := bytes_lit (w := w) (E := 24) (fr := (0, 0)) zs hb (by omega)
    rw [hl] at h
    rw [hw1]; exact h
  have B0 : Below w.heap.size w w1 := by rw [hw1]; (repeat' (first | (with_reducible exact Below.refl _ _) | (with_reducible assumption) | (with_reducible refine below_drewN ?_ _) | (with_reducible refine Below.drew ?_) | ((with_reducible refine Below.alloc ?_ ?_ _); (rotate_left; focus (first | omega | (simp; done) | (simp; omega)))) | ((with_reducible refine Below.setCell ?_ ?_ _); (rotate_left; focus (first | omega | (simp; done) | (simp; omega)))) | (with_reducible refine Below.grown ?_ (by assumption) (by first | omega | (simp; omega)) (by simp [Value.ownBlock]; try omega)) | (with_reducible refine below_then ?_ (Aft.below _)) | (with_reducible apply below_then; rotate_left; assumption)))
  rw [← hw1]
  clear hw1
  refine wp_region_hold (by kernel_rfl) (by kernel_rfl) ?_
  refine wpQuiet_load48 (zs := zs) rfl rfl rfl hl ?_ ?_
  · intro w' hw'
    obtain ⟨g, rfl⟩ := hw'
    exact (Z0.below (Aft.below g)).range
  simp only [Act.put, List.setIfInBounds_toArray, List.set_cons_succ, List.set_cons_zero]
  go_big_quiet_step ((go_at_call 102; exact aft_of (cellSeal_any zs _ hl hb)))
  refine wpQuiet_load48 (zs := zs) rfl rfl rfl hl ?_ ?_
  · intro w' hw'
    obtain ⟨g, rfl⟩ := hw'
    exact (Z0.below (Aft.below g)).range
  simp only [Act.put, List.setIfInBounds_toArray, List.set_cons_succ, List.set_cons_zero]
  have hE : ∀ w, (binOp .eql 24 (.agg (u8s (sealZ zs)).toArray) (.agg (u8s zs).toArray)).run Tryz.prog w = .ok (.bool b) w := eq48 (sealZ zs) zs (by rw [sealZ_len]; exact hl) hl (sealZ_B hb) hb hd
  (repeat (go_big_quiet_step (fail)))
  refine wpQuiet_nil ?_; intro _ hw'; obtain ⟨g, hw''⟩ := hw'; subst hw''; have hg := g.below
  go_wp2
  go_ret
  exact ⟨rfl, by (repeat' (first | (with_reducible exact Below.refl _ _) | (with_reducible assumption) | (with_reducible refine below_drewN ?_ _) | (with_reducible refine Below.drew ?_) | ((with_reducible refine Below.alloc ?_ ?_ _); (rotate_left; focus (first | omega | (simp; done) | (simp; omega)))) | ((with_reducible refine Below.setCell ?_ ?_ _); (rotate_left; focus (first | omega | (simp; done) | (simp; omega)))) | (with_reducible refine Below.grown ?_ (by assumption) (by first | omega | (simp; omega)) (by simp [Value.ownBlock]; try omega)) | (with_reducible refine below_then ?_ (Aft.below _)) | (with_reducible apply below_then; rotate_left; assumption)))⟩
abbrev hdr5 (g p c t l : Int) : List Value := [.int .i64 g, .int .i64 p, .int .i64 c, .int .i64 t, .int .i64 l]
theorem cellEmpty_any (g p c t l : Int) (P : List Value) (w : World) (hP : P.length = 48) :
    Calls Tryz.prog 37 #[.agg (hdr5 g p c t l ++ P).toArray] w fun e w' => e = .returned (.bool (decide (kindZ p c t l = 2 ∨ kindZ p c t l = 3))) ∧ Below w.heap.size w w' := by
  have hsz : (hdr5 g p c t l ++ P).toArray.size = 53 := by simp [hP]
  obtain ⟨X, hX⟩ : ∃ X, X = (hdr5 g p c t l ++ P).toArray := ⟨_, rfl⟩
  rw [← hX] at hsz ⊢
  have x0 : X[0]? = some (.int .i64 g) := by rw [hX]; simp
  have y0 : X[0]'(by rw [hsz]; decide) = .int .i64 g := by simpa [Array.getElem?_eq_getElem, hsz] using x0
  have x1 : X[1]? = some (.int .i64 p) := by rw [hX]; simp
  have y1 : X[1]'(by rw [hsz]; decide) = .int .i64 p := by simpa [Array.getElem?_eq_getElem, hsz] using x1
  have x2 : X[2]? = some (.int .i64 c) := by rw [hX]; simp
  have y2 : X[2]'(by rw [hsz]; decide) = .int .i64 c := by simpa [Array.getElem?_eq_getElem, hsz] using x2
  have x3 : X[3]? = some (.int .i64 t) := by rw [hX]; simp
  have y3 : X[3]'(by rw [hsz]; decide) = .int .i64 t := by simpa [Array.getElem?_eq_getElem, hsz] using x3
  have x4 : X[4]? = some (.int .i64 l) := by rw [hX]; simp
  have y4 : X[4]'(by rw [hsz]; decide) = .int .i64 l := by simpa [Array.getElem?_eq_getElem, hsz] using x4
  clear hX
  obtain ⟨w1, hw1⟩ : ∃ w1, w1 = w.alloc (.cells X 58) := ⟨_, rfl⟩
  have c0 : w1.cell? ⟨w.heap.size, 0, none⟩ = some (.int .i64 g) := by rw [hw1]; exact cell_top rfl x0
  have c1 : w1.cell? ⟨w.heap.size, 1, none⟩ = some (.int .i64 p) := by rw [hw1]; exact cell_top rfl x1
  have c2 : w1.cell? ⟨w.heap.size, 2, none⟩ = some (.int .i64 c) := by rw [hw1]; exact cell_top rfl x2
  have c3 : w1.cell? ⟨w.heap.size, 3, none⟩ = some (.int .i64 t) := by rw [hw1]; exact cell_top rfl x3
  have c4 : w1.cell? ⟨w.heap.size, 4, none⟩ = some (.int .i64 l) := by rw [hw1]; exact cell_top rfl x4
  have hs1 : w1.heap.size = w.heap.size + 1 := by rw [hw1]; simp
  have B0 : Below w.heap.size w w1 := by rw [hw1]; (repeat' (first | (with_reducible exact Below.refl _ _) | (with_reducible assumption) | (with_reducible refine below_drewN ?_ _) | (with_reducible refine Below.drew ?_) | ((with_reducible refine Below.alloc ?_ ?_ _); (rotate_left; focus (first | omega | (simp; done) | (simp; omega)))) | ((with_reducible refine Below.setCell ?_ ?_ _); (rotate_left; focus (first | omega | (simp; done) | (simp; omega)))) | (with_reducible refine Below.grown ?_ (by assumption) (by first | omega | (simp; omega)) (by simp [Value.ownBlock]; try omega)) | (with_reducible refine below_then ?_ (Aft.below _)) | (with_reducible apply below_then; rotate_left; assumption)))
  have HW := Lib.hid hw1
  clear hw1
  go_enter Tryz.func37, Tryz.ntmps37
  have hw2 : w.heap.size < w1.heap.size := by omega
  obtain ⟨k, hk⟩ : ∃ k, kindZ p c t l = k := ⟨_, rfl⟩
  rw [hk]
  go_wp2_with (go_at_call 36; (with_reducible refine (kind_any _ _ _ _ _ _).mono ?_); rw [hk]; rintro e wk ⟨rfl, hb_wk⟩; obtain ⟨hc_wk, hf_wk⟩ := bcell hb_wk; have hs_wk := hb_wk.size; (try simp at hs_wk); (try have h1_wk : w.heap.size < wk.heap.size := by omega); (try have h3_wk : w.heap.size < wk.heap.size + 1 := by omega); (try have h4_wk : w.heap.size < wk.heap.size + 1 + 1 := by omega); (try have h5_wk : ¬ w.heap.size = wk.heap.size := by omega))
  all_goals (go_ret; exact ⟨ret_bool (by first | (simp; done) | (simp; omega) | (simp [*]; done) | (rw [Bool.eq_iff_iff]; simp)), by (repeat' (first | (with_reducible exact Below.refl _ _) | (with_reducible assumption) | (with_reducible refine below_drewN ?_ _) | (with_reducible refine Below.drew ?_) | ((with_reducible refine Below.alloc ?_ ?_ _); (rotate_left; focus (first | omega | (simp; done) | (simp; omega)))) | ((with_reducible refine Below.setCell ?_ ?_ _); (rotate_left; focus (first | omega | (simp; done) | (simp; omega)))) | (with_reducible refine Below.grown ?_ (by assumption) (by first | omega | (simp; omega)) (by simp [Value.ownBlock]; try omega)) | (with_reducible refine below_then ?_ (Aft.below _)) | (with_reducible apply below_then; rotate_left; assumption)))⟩)
end Go.Proofs.YtaoagbnhomjkpaaGreat

/- slices.Grow of nothing, slices.Concat of two rows of bytes. -/
namespace Go.Proofs.YtaoagbnhomjkpaaGreat
set_option linter.unusedVariables false
set_option linter.unusedSimpArgs false
open Go.RowKit
set_option maxRecDepth 100000
set_option maxHeartbeats 4000000
theorem grow_any (n : Nat) (w : World) (hn : 0 < n) (hm : n ≤ 65536) :
    Calls Tryz.prog 81 #[.slice none 0 0, .int .i64 n] w fun e w' => ∃ v, e = .returned v ∧ OwnB w' w.heap.size v 0 [] ∧ Below w.heap.size w w' := by
  obtain ⟨inf, hin, hi0, hi1, hi2⟩ := info_parts u8Info
  have hold : (Builtin.firstCells inf.size 0 (.slice none 0 0)).run Tryz.prog w.drew = .ok ([] : List Value).toArray w.drew := run_firstCells_none _ _ _ _ _
  have h := fun ty => Lib.run_append_grow_zeros w 36 3 ty 5 inf _ .i64 .i64 Tryz.underlying36 Tryz.underlying3 hin hi0 none 0 0 [] hold n hn (by omega) (by omega) (by omega) (by rw [hi2]; omega) (growslice_fits (by omega) (by rw [hi2]; omega))
  simp only [Nat.zero_add] at h
  obtain ⟨G, hG⟩ : ∃ G, grownCap w n 0 5 = G := ⟨_, rfl⟩
  have hGn : n ≤ G := hG ▸ grownCap_ge w n 0 _
  have hGm : G ≤ maxLen := hG ▸ grownCap_le_maxLen w n 0 _ (by unfold maxLen; omega)
  obtain ⟨cs, hcs⟩ : ∃ cs, ([] : List Value).toArray ++ Builtin.zeroCells (Value.int .u8 0).cells n ++ Builtin.zeroCells (Value.int .u8 0).cells (grownCap w n 0 5 - n) = cs := ⟨_, rfl⟩
  have hsz : cs.size = G * 1 := by
    rw [← hcs, hG]
    simp [size_zeroCells, Value.cells]
    omega
  rw [hcs, hG] at h
  have hG63 : G ≤ 9223372036854775807 := by unfold maxLen at hGm; omega
  clear hold hcs hG
  go_enter Tryz.func81, Tryz.ntmps81
  have hn1 : ¬ ((n : Int) < 0) := by omega
  have hn2 : (0 : Int) < (n : Int) := by omega
  go_wp2_with (at_builtin; refine Lib.wpList_append_run _ rfl _ _ _ _ rfl _ _ rfl rfl _ _ (h _) ?_)
  all_goals (go_ret; exact ⟨_, rfl, ⟨World.ownsRow_made w.drew cs G (Nat.le_refl _) hGm hsz, by simp⟩, by (repeat' (first | (with_reducible exact Below.refl _ _) | (with_reducible assumption) | (with_reducible refine below_drewN ?_ _) | (with_reducible refine Below.drew ?_) | ((with_reducible refine Below.alloc ?_ ?_ _); (rotate_left; focus (first | omega | (simp; done) | (simp; omega)))) | ((with_reducible refine Below.setCell ?_ ?_ _); (rotate_left; focus (first | omega | (simp; done) | (simp; omega)))) | (with_reducible refine Below.grown ?_ (by assumption) (by first | omega | (simp; omega)) (by simp [Value.ownBlock]; try omega)) | (with_reducible refine below_then ?_ (Aft.below _)) | (with_reducible apply below_then; rotate_left; assumption)))⟩)
theorem concat_any {g cap n1 c1 n2 c2 : Nat} {a1 a2 : Option Addr} {xs ys : List Int} (w : World) (h0 : w.cell? ⟨g, 0, none⟩ = some (.slice a1 n1 c1)) (h1 : w.cell? ⟨g, 1, none⟩ = some (.slice a2 n2 c2)) (hx : BytesAt w a1 n1 xs) (hy : BytesAt w a2 n2 ys)
    (no1 : a1 = none → c1 = 0) (no2 : a2 = none → c2 = 0) (hp : 0 < n1 + n2) (hm : n1 + n2 ≤ 65536) :
    Calls Tryz.prog 59 #[.slice (some ⟨g, 0, none⟩) 2 cap] w fun e w' => ∃ v, e = .returned v ∧ OwnB w' w.heap.size v (n1 + n2) (xs ++ ys) ∧ Below w.heap.size w w' := by
  have hg : g < w.heap.size := World.block_lt_of_cell? w _ h0
  go_enter Tryz.func59, Tryz.ntmps59
  have e1 : ¬ ((n1 : Int) < 0) := by omega
  have e2 : ¬ ((n1 : Int) + n2 < 0) := by omega
  have b1 : n1 ≤ 65536 := by omega
  have b2 : n2 ≤ 65536 := by omega
  go_wp2
  refine wp_loop_rounds 3 ?_
  rw [rounds_succ]
  go_wp2
  rw [rounds_succ]
  go_wp2
  rw [rounds_succ]
  go_wp2_with (go_at_call 81; (rw [show (n1 : Int) + (n2 : Int) = ((n1 + n2 : Nat) : Int) by push_cast; rfl]); (with_reducible refine (grow_any _ _ hp hm).mono ?_); rintro e w1 ⟨v1, rfl, own1, hb_w1⟩; obtain ⟨hc_w1, hf_w1⟩ := bcell hb_w1)
  refine wp_loop_rounds 3 ?_
  rw [rounds_succ]
  go_wp2_with (at_builtin; refine wpList_append_bytes rfl _ _ rfl (v := v1) (n := 0) (xs := []) (ad := a1) (m := n1) (c := c1) (ys := xs) (base := w.heap.size) rfl ?qa rfl ?qb no1 ?qc ?qd ?_; (case qa => exact own1); (case qb => exact hx.below hb_w1); (case qc => omega); (case qd => exact hb_w1.size); intro v2 w2 own2 hgr; simp only [Nat.zero_add, List.nil_append] at own2; have hb_w2 : Below w.heap.size w w2 := Below.trans hb_w1 hgr; obtain ⟨hc_w2, hf_w2⟩ := bcell hb_w2)
  clear hc_w1 hf_w1
  rw [rounds_succ]
  go_wp2_with (at_builtin; refine wpList_append_bytes rfl _ _ rfl (v := v2) (n := n1) (xs := xs) (ad := a2) (m := n2) (c := c2) (ys := ys) (base := w.heap.size) rfl ?qa rfl ?qb no2 ?qc ?qd ?_; (case qa => exact own2); (case qb => exact hy.below hb_w2); (case qc => omega); (case qd => exact hb_w2.size); intro v3 w3 own3 hgr3; have hb_w3 : Below w.heap.size w w3 := Below.trans hb_w2 hgr3)
  rw [rounds_succ]
  go_wp2
  go_ret
  exact ⟨_, rfl, own3, hb_w3⟩
end Go.Proofs.YtaoagbnhomjkpaaGreat

/- Headers: a number's four bytes and back (the parts of HeadB that need no law's function). -/
namespace Go.Proofs.YtaoagbnhomjkpaaGreat
set_option linter.unusedVariables false
set_option linter.unusedSimpArgs false
open Go.RowKit
set_option maxRecDepth 100000
set_option maxHeartbeats 4000000
theorem rightH_of (nni : Bool) (n : Int) (h0 : 0 ≤ n) (h1 : n < 4294967296) : rightH nni (gfcW nni n) (vpiW nni n) (n / 16 % 65536) (n / 2 % 8) (n % 2) = true := by
  unfold rightH gfcW vpiW
  cases nni <;> simp <;> omega
theorem wordH_of (nni : Bool) (n : Int) (h0 : 0 ≤ n) (h1 : n < 4294967296) : wordH nni (gfcW nni n) (vpiW nni n) (n / 16 % 65536) (n / 2 % 8) (n % 2) = n := by
  unfold wordH gfcW vpiW
  cases nni <;> simp <;> omega
theorem wordH_bd {nni : Bool} {g p c t l : Int} (h : rightH nni g p c t l = true) : 0 ≤ wordH nni g p c t l ∧ wordH nni g p c t l < 4294967296 := by
  unfold rightH at h
  simp only [decide_eq_true_eq] at h
  unfold wordH
  cases nni <;> simp at h ⊢ <;> omega
theorem back_of {nni : Bool} {g p c t l : Int} (h : rightH nni g p c t l = true) :
    gfcW nni (wordH nni g p c t l) = g ∧ vpiW nni (wordH nni g p c t l) = p ∧ wordH nni g p c t l / 16 % 65536 = c ∧ wordH nni g p c t l / 2 % 8 = t ∧ wordH nni g p c t l % 2 = l := by
  unfold rightH at h
  simp only [decide_eq_true_eq] at h
  unfold wordH gfcW vpiW
  cases nni <;> simp at h ⊢ <;> omega
theorem bytes4_word {x y z u : Int} (x0 : 0 ≤ x) (x1 : x < 256) (y0 : 0 ≤ y) (y1 : y < 256) (z0 : 0 ≤ z) (z1 : z < 256) (u0 : 0 ≤ u) (u1 : u < 256) : bytes4 (word4 x y z u) = [x, y, z, u] := by
  unfold bytes4 word4
  have e1 : (x * 16777216 + y * 65536 + z * 256 + u) / 16777216 % 256 = x := by omega
  have e2 : (x * 16777216 + y * 65536 + z * 256 + u) / 65536 % 256 = y := by omega
  have e3 : (x * 16777216 + y * 65536 + z * 256 + u) / 256 % 256 = z := by omega
  have e4 : (x * 16777216 + y * 65536 + z * 256 + u) % 256 = u := by omega
  rw [e1, e2, e3, e4]
theorem word4_bytes {n : Int} (h0 : 0 ≤ n) (h1 : n < 4294967296) : word4 (n / 16777216 % 256) (n / 65536 % 256) (n / 256 % 256) (n % 256) = n := by
  unfold word4; omega
theorem pack_at (g p c t l : Int) (nni : Bool) (w : World) (n : Int) (hr : rightH nni g p c t l = true) (hw : wordH nni g p c t l = n) :
    Calls Tryz.prog 57 #[.agg #[.int .i64 g, .int .i64 p, .int .i64 c, .int .i64 t, .int .i64 l], .bool nni] w fun e w' => ∃ b, e = .returned (.tuple #[.slice (some ⟨b, 0, none⟩) 4 4, .int .i64 0]) ∧ w.heap.size ≤ b ∧ b < w'.heap.size ∧ BytesAt w' (some ⟨b, 0, none⟩) 4 (bytes4 n) ∧ Below w.heap.size w w' := by
  subst hw
  refine (pack_yes g p c t l nni w hr).mono ?_
  rintro e w' ⟨b, rfl, h1, h2, r0, r1, r2, r3, hb⟩
  exact ⟨b, rfl, h1, h2, bytes4_at h2 r0 r1 r2 r3, hb⟩
theorem unpack_at (x y z u : Int) (nni : Bool) (n : Int) (hn : word4 x y z u = n) : ∀ (w : World) (a : Option Addr) (cap : Nat), BytesAt w a 4 [x, y, z, u] → Calls Tryz.prog 47 #[.slice a 4 cap, .bool nni] w fun e w' =>
    e = .returned (.tuple #[.agg #[.int .i64 (gfcW nni n), .int .i64 (vpiW nni n), .int .i64 (n / 16 % 65536), .int .i64 (n / 2 % 8), .int .i64 (n % 2)], .int .i64 0]) ∧ Below w.heap.size w w' := by
  intro w a cap h
  subst hn
  obtain ⟨b, off, rfl, hb, hc⟩ := h.cells (by omega)
  exact unpack_yes b off cap x y z u nni w hb (hc 0 (by omega)) (hc 1 (by omega)) (hc 2 (by omega)) (hc 3 (by omega)) (h.byte 0).1 (h.byte 0).2 (h.byte 1).1 (h.byte 1).2 (h.byte 2).1 (h.byte 2).2 (h.byte 3).1 (h.byte 3).2
theorem bytes4_inj {m m' : Int} (h0 : 0 ≤ m) (h1 : m < 4294967296) (k0 : 0 ≤ m') (k1 : m' < 4294967296) (h : bytes4 m = bytes4 m') : m = m' := by
  have e1 := word4_bytes h0 h1
  have e2 := word4_bytes k0 k1
  unfold bytes4 at h
  simp only [List.cons.injEq, and_true] at h
  obtain ⟨a, b, c, d⟩ := h
  rw [← e1, ← e2, a, b, c, d]
end Go.Proofs.YtaoagbnhomjkpaaGreat
