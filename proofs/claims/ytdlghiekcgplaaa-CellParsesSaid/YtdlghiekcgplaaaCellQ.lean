/- A cell is like itself: one equation of the walk. -/
import Derived.Test.YtdlghiekcgplaaaCellK
namespace Go.Proofs.Ytdlghiekcgplaaa
set_option linter.unusedVariables false
set_option linter.unusedSimpArgs false
open Go.RowKit
set_option maxRecDepth 100000
theorem neq_of {P : Program} {t : TypeId} {X Y : Array Value} {b : Bool} {w : World} (h : (binOp .eql t (.agg X) (.agg Y)).run P w = .ok (.bool b) w) : (binOp .neq t (.agg X) (.agg Y)).run P w = .ok (.bool (!b)) w := by
  simp only [binOp] at h ⊢
  rw [Sem.run_bind] at h ⊢
  generalize Sem.run P (Op.equal t (.agg X) (.agg Y)) w = r at h ⊢
  cases r with
  | halt x w' => simp [go_sem] at h
  | ok u w' =>
    simp [go_sem] at h ⊢
    obtain ⟨rfl, rfl⟩ := h
    exact ⟨rfl, rfl⟩
theorem range_chg {w w' : World} {b o p : Nat} {cs : List Value} (h : w.rangeAt b o cs) (hc : Chg p w w') (hn : b ≠ p) : w'.rangeAt b o cs := fun j v hv => hc.cell hn (h j v hv)
theorem lits_header {D : Nat} {g p c t l : Int} (h0 : (Lit.int .i64 g).wf = true) (h1 : (Lit.int .i64 p).wf = true) (h2 : (Lit.int .i64 c).wf = true) (h3 : (Lit.int .i64 t).wf = true) (h4 : (Lit.int .i64 l).wf = true) :
    Try.prog.keyLits (D + 2) 23 (hdr5 g p c t l) = some [.int .i64 g, .int .i64 p, .int .i64 c, .int .i64 t, .int .i64 l] := by
  have e : ∀ x : Int, (Lit.int .i64 x).wf = true → Try.prog.keyLits (D + 1) 3 [.int .i64 x] = some [.int .i64 x] := fun x hx => by
    unfold Program.keyLits
    simp [Try.underlying3, hx]
  have hi : Try.prog.cellsOf 3 = 1 := by kernel_rfl
  have hh : Try.prog.cellsOf 23 = 5 := by kernel_rfl
  unfold Program.keyLits
  simp [Try.underlying23, hi, hh, e, h0, h1, h2, h3, h4]
theorem eq46_self {X : Array Value} {g p c t l : Int} {zs : List Int} (hX : Hid (X = (cellV g p c t l zs).toArray)) (hl : zs.length = 48) (hb : allB zs) (h0 : (Lit.int .i64 g).wf = true) (h1 : (Lit.int .i64 p).wf = true) (h2 : (Lit.int .i64 c).wf = true) (h3 : (Lit.int .i64 t).wf = true) (h4 : (Lit.int .i64 l).wf = true) (w : World) :
    (binOp .eql 46 (.agg X) (.agg X)).run Try.prog w = .ok (.bool true) w := by
  rw [hX.out]
  have hc : Try.prog.cellsOf 46 = 53 := by kernel_rfl
  have hk : Try.prog.keyLits 6 46 (cellV g p c t l zs) = some ([.int .i64 g, .int .i64 p, .int .i64 c, .int .i64 t, .int .i64 l] ++ zs.map (Lit.int .u8)) := by
    have hH := lits_header (D := 3) h0 h1 h2 h3 h4
    have hP := keyLits_ints (D := 3) (P := Try.prog) (t := 44) (e := 5) (n := 48) (k := .u8) Try.underlying44 Try.underlying5 (by kernel_rfl) (by kernel_rfl) zs hl (fun z hz => wf_of_u8 (hb z hz).1 (hb z hz).2)
    have hh : Try.prog.cellsOf 23 = 5 := by kernel_rfl
    have hp : Try.prog.cellsOf 44 = 48 := by kernel_rfl
    have e1 : (List.drop 0 (cellV g p c t l zs)).take 5 = hdr5 g p c t l := by simp
    have e2 : (List.drop 5 (cellV g p c t l zs)).take 48 = zs.map (Value.int .u8) := by
      rw [List.drop_append_of_le_length (by simp), List.drop_of_length_le (by simp), List.nil_append, List.take_of_length_le (by simp [hl])]
    unfold Program.keyLits
    rw [Try.underlying46]
    have hlen : (cellV g p c t l zs).length = 53 := by simp [hl]
    simp only [hc, hlen, List.mapM_cons, List.mapM_nil, hh, hp, e1, e2, hH, hP]
    rw [if_pos ⟨trivial, by kernel_rfl⟩]
    simp
  exact eq_run (d := 9996) (m := 4) (D := 6) (D' := 6) rfl (by kernel_rfl) (by simp [Value.formed, Try.underlying46, hl, hc]) (by simp [Value.formed, Try.underlying46, hl, hc]) hk hk (by simp)
end Go.Proofs.Ytdlghiekcgplaaa
