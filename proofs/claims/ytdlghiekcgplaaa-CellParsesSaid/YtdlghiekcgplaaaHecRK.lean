/- The walk of the reference's receiver. -/
import Derived.Test.YtdlghiekcgplaaaHecM
import Derived.Test.YtdlghiekcgplaaaRefK
namespace Go.Proofs.Ytdlghiekcgplaaa
set_option linter.unusedVariables false
set_option linter.unusedSimpArgs false
open Go.RowKit
set_option maxRecDepth 100000
set_option maxHeartbeats 4000000
/-- the reference's receiver, in a block of its own. -/
def RefAt (w : World) (b : Nat) (c : Bool) (r d : Int) : Prop := w.heap[b]? = some (.cells #[.bool c, .int .i64 r, .int .i64 d] 72)
section
variable {w w' : World} {b : Nat} {r d : Int} {c : Bool}
theorem RefAt.lt (h : RefAt w b c r d) : b < w.heap.size := by
  unfold RefAt at h
  rcases Nat.lt_or_ge b w.heap.size with h' | h'
  · exact h'
  · simp [Array.getElem?_eq_none h'] at h
theorem RefAt.cells (h : RefAt w b c r d) : w.cell? ⟨b, 0, none⟩ = some (.bool c) ∧ w.cell? ⟨b, 1, none⟩ = some (.int .i64 r) ∧ w.cell? ⟨b, 2, none⟩ = some (.int .i64 d) ∧ ∀ o, w.frozen? ⟨b, o, none⟩ = false := by
  unfold RefAt at h
  refine ⟨?_, ?_, ?_, fun o => frozen_of_row w b o _ _ h⟩ <;> rw [cell_of_row w b _ _ _ _ h] <;> rfl
theorem RefAt.other {k : Nat} (h : RefAt w b c r d) (hc : Chg k w w') (hn : b ≠ k) : RefAt w' b c r d := (hc.block b h.lt hn).trans h
theorem RefAt.below (h : RefAt w b c r d) (hb : Below w.heap.size w w') : RefAt w' b c r d := (hb.block b h.lt).trans h
theorem RefAt.alloc (h : RefAt w b c r d) (o : Obj) : RefAt (w.alloc o) b c r d := h.below ((Below.refl _ _).alloc (Nat.le_refl _) o)
theorem RefAt.drewN (h : RefAt w b c r d) (m : Nat) : RefAt (w.drewN m) b c r d := h
theorem RefAt.drew (h : RefAt w b c r d) : RefAt w.drew b c r d := h
theorem RefAt.set0 {c' : Bool} (h : RefAt w b c r d) : RefAt (w.setCell ⟨b, 0, none⟩ (.bool c')) b c' r d := heap_setCell_same w b 0 _ _ _ h
theorem RefAt.set1 {r' : Int} (h : RefAt w b c r d) : RefAt (w.setCell ⟨b, 1, none⟩ (.int .i64 r')) b c r' d := heap_setCell_same w b 1 _ _ _ h
theorem RefAt.set2 {d' : Int} (h : RefAt w b c r d) : RefAt (w.setCell ⟨b, 2, none⟩ (.int .i64 d')) b c r d' := heap_setCell_same w b 2 _ _ _ h
theorem RefAt.beside {k o : Nat} {v : Value} (h : RefAt w b c r d) (hn : b ≠ k) : RefAt (w.setCell ⟨k, o, none⟩ v) b c r d := (Below.heap_setCell w ⟨k, o, none⟩ v b hn).trans h
theorem BytesAt.chg {a : Option Addr} {len p : Nat} {zs : List Int} (h : BytesAt w a len zs) (hc : Chg p w w') (hn : ∀ b off, a = some ⟨b, off, none⟩ → b ≠ p) : BytesAt w' a len zs :=
  ⟨h.length, h.most, h.byte, fun hp => by
    obtain ⟨b, off, h1, h2, h3⟩ := h.cells hp
    exact ⟨b, off, h1, Nat.lt_of_lt_of_le h2 hc.size, fun k hk => hc.cell (hn b off h1) (h3 k hk)⟩⟩
end
theorem bytes_top {w : World} {b : Nat} {cs : Array Value} {E : TypeId} {fr : Nat × Nat} (zs : List Int) (hb : b = w.heap.size) (hc : cs = (zs.map (Value.int .u8)).toArray) (hz : ∀ z ∈ zs, 0 ≤ z ∧ z < 256) (hm : zs.length ≤ 140737488355328) : BytesAt (w.alloc (.cells cs E fr)) (some ⟨b, 0, none⟩) zs.length zs := by
  subst hb; subst hc; exact bytes_lit zs hz hm
theorem refTake_zero (p : Nat) (r d : Int) (c : Bool) (a : Option Addr) (cap : Nat) (zs : List Int) (w : World) (h : RefAt w p c r d) (hz : BytesAt w a 5 zs) (hcap : 5 ≤ cap) (hcap2 : cap ≤ 9223372036854775807) (hn : ∀ b off, a = some ⟨b, off, none⟩ → b ≠ p) (hs : synd zs = 0) :
    Calls Try.prog 49 #[.pointer (some ⟨p, 0, none⟩), .slice a 5 cap] w fun e w' => e = .returned (.tuple #[.slice a 4 cap, .bool true]) ∧ BytesAt w' a 4 (zs.take 4) ∧ RefAt w' p false r d ∧ Chg p w w' := by
  have hb := h.lt
  have hb0 : bitZ 0 = -1 := by kernel_rfl
  have hc4 : (4 : Int) ≤ cap := by omega
  have hc5 : 4 ≤ cap := by omega
  go_enter Try.func49, Try.ntmps49
  go_wp2_with (first | (go_at_call 35; (with_reducible refine (refSynd_at hz hcap hcap2 (by decide)).mono ?_); rw [hs]; rintro e w1 ⟨rfl, hb_w1⟩) | (go_at_call 56; (with_reducible refine (refBit_any 0 _).mono ?_); rw [hb0]; rintro e w2 ⟨rfl, hb_w2⟩; have R2 : RefAt w2 p c r d := (h.below hb_w1).below hb_w2; obtain ⟨k0, k1, k2, kf⟩ := R2.cells; have kf0 := kf 0))
  go_ret2
  refine ⟨rfl, ?_, by (repeat (first | (with_reducible assumption) | (with_reducible apply RefAt.set0) | (with_reducible apply RefAt.set1) | (with_reducible apply RefAt.set2) | ((with_reducible refine RefAt.beside ?_ ?_); (rotate_left; focus (first | omega | (simp; omega)))) | (with_reducible refine RefAt.alloc ?_ _) | (with_reducible refine RefAt.drewN ?_ _) | (with_reducible refine RefAt.drew ?_) | (with_reducible refine RefAt.below ?_ (by assumption)))), by (repeat (first | (with_reducible exact Chg.refl _ _) | (with_reducible assumption) | (with_reducible refine Chg.setCell ?_ _ _) | ((with_reducible refine Chg.setNew ?_ ?_ _ _); (rotate_left; focus (first | omega | (simp; omega)))) | (with_reducible refine Chg.alloc ?_ _) | (with_reducible refine Chg.drewN ?_ _) | (with_reducible refine Chg.drew ?_) | (with_reducible refine Chg.then ?_ (by assumption))))⟩
  exact (((hz.below hb_w1).below hb_w2).chg ((Chg.refl p w2).setCell 0 _) hn).head (by decide) (by decide)
theorem refTake_drop1 (p : Nat) (r d : Int) (a : Option Addr) (cap : Nat) (zs : List Int) (s : Int) (w : World) (h : RefAt w p true r d) (r0 : 0 ≤ r) (r1 : r ≤ 1000000) (d0 : 0 ≤ d) (d1 : d ≤ 1000000) (hz : BytesAt w a 5 zs) (hna : a = none → cap = 0) (hcap : 5 ≤ cap) (hcap2 : cap ≤ 9223372036854775807) (hn : ∀ b off, a = some ⟨b, off, none⟩ → b ≠ p) (hs : synd zs = s) (hs0 : s ≠ 0)  (k : Nat) (hbz : bitZ s = (k : Int)) :
    Calls Try.prog 49 #[.pointer (some ⟨p, 0, none⟩), .slice a 5 cap] w fun e w' => (∃ g cc, e = .returned (.tuple #[.slice g 4 cc, .bool false]) ∧ BytesAt w' g 4 [0, 0, 0, 0]) ∧ RefAt w' p true r (d + 1) ∧ Chg p w w' := by
  have hb := h.lt
  have hne : (s == 0) = false := by simpa using hs0
  have hk0 : ¬ (k : Int) < 0 := by omega
  go_enter Try.func49, Try.ntmps49
  go_wp2_with (first | (go_at_call 35; (with_reducible refine (refSynd_at hz hcap hcap2 (by decide)).mono ?_); rw [hs]; rintro e w1 ⟨rfl, hb_w1⟩) | (go_at_call 56; (with_reducible refine (refBit_any s _).mono ?_); rw [hbz]; rintro e w2 ⟨rfl, hb_w2⟩; have R2 : RefAt w2 p true r d := (h.below hb_w1).below hb_w2; obtain ⟨k0, k1, k2, kf⟩ := R2.cells; have kf0 := kf 0; have kf1 := kf 1; have kf2 := kf 2; have Z2 := (hz.below hb_w1).below hb_w2))
  go_ret2
  refine ⟨⟨_, _, rfl, bytes_top [0, 0, 0, 0] (by simp) rfl (by decide) (by decide)⟩, by (repeat (first | (with_reducible assumption) | (with_reducible apply RefAt.set0) | (with_reducible apply RefAt.set1) | (with_reducible apply RefAt.set2) | ((with_reducible refine RefAt.beside ?_ ?_); (rotate_left; focus (first | omega | (simp; omega)))) | (with_reducible refine RefAt.alloc ?_ _) | (with_reducible refine RefAt.drewN ?_ _) | (with_reducible refine RefAt.drew ?_) | (with_reducible refine RefAt.below ?_ (by assumption)))), by (repeat (first | (with_reducible exact Chg.refl _ _) | (with_reducible assumption) | (with_reducible refine Chg.setCell ?_ _ _) | ((with_reducible refine Chg.setNew ?_ ?_ _ _); (rotate_left; focus (first | omega | (simp; omega)))) | (with_reducible refine Chg.alloc ?_ _) | (with_reducible refine Chg.drewN ?_ _) | (with_reducible refine Chg.drew ?_) | (with_reducible refine Chg.then ?_ (by assumption))))⟩
theorem refTake_drop2 (p : Nat) (r d : Int) (a : Option Addr) (cap : Nat) (zs : List Int) (s : Int) (w : World) (h : RefAt w p true r d) (r0 : 0 ≤ r) (r1 : r ≤ 1000000) (d0 : 0 ≤ d) (d1 : d ≤ 1000000) (hz : BytesAt w a 5 zs) (hna : a = none → cap = 0) (hcap : 5 ≤ cap) (hcap2 : cap ≤ 9223372036854775807) (hn : ∀ b off, a = some ⟨b, off, none⟩ → b ≠ p) (hs : synd zs = s) (hs0 : s ≠ 0)  (hbz : bitZ s = -1) :
    Calls Try.prog 49 #[.pointer (some ⟨p, 0, none⟩), .slice a 5 cap] w fun e w' => (∃ g cc, e = .returned (.tuple #[.slice g 4 cc, .bool false]) ∧ BytesAt w' g 4 [0, 0, 0, 0]) ∧ RefAt w' p true r (d + 1) ∧ Chg p w w' := by
  have hb := h.lt
  have hne : (s == 0) = false := by simpa using hs0
  go_enter Try.func49, Try.ntmps49
  go_wp2_with (first | (go_at_call 35; (with_reducible refine (refSynd_at hz hcap hcap2 (by decide)).mono ?_); rw [hs]; rintro e w1 ⟨rfl, hb_w1⟩) | (go_at_call 56; (with_reducible refine (refBit_any s _).mono ?_); rw [hbz]; rintro e w2 ⟨rfl, hb_w2⟩; have R2 : RefAt w2 p true r d := (h.below hb_w1).below hb_w2; obtain ⟨k0, k1, k2, kf⟩ := R2.cells; have kf0 := kf 0; have kf1 := kf 1; have kf2 := kf 2; have Z2 := (hz.below hb_w1).below hb_w2))
  go_ret2
  refine ⟨⟨_, _, rfl, bytes_top [0, 0, 0, 0] (by simp) rfl (by decide) (by decide)⟩, by (repeat (first | (with_reducible assumption) | (with_reducible apply RefAt.set0) | (with_reducible apply RefAt.set1) | (with_reducible apply RefAt.set2) | ((with_reducible refine RefAt.beside ?_ ?_); (rotate_left; focus (first | omega | (simp; omega)))) | (with_reducible refine RefAt.alloc ?_ _) | (with_reducible refine RefAt.drewN ?_ _) | (with_reducible refine RefAt.drew ?_) | (with_reducible refine RefAt.below ?_ (by assumption)))), by (repeat (first | (with_reducible exact Chg.refl _ _) | (with_reducible assumption) | (with_reducible refine Chg.setCell ?_ _ _) | ((with_reducible refine Chg.setNew ?_ ?_ _ _); (rotate_left; focus (first | omega | (simp; omega)))) | (with_reducible refine Chg.alloc ?_ _) | (with_reducible refine Chg.drewN ?_ _) | (with_reducible refine Chg.drew ?_) | (with_reducible refine Chg.then ?_ (by assumption))))⟩
theorem refTake_drop3 (p : Nat) (r d : Int) (a : Option Addr) (cap : Nat) (zs : List Int) (s : Int) (w : World) (h : RefAt w p false r d) (r0 : 0 ≤ r) (r1 : r ≤ 1000000) (d0 : 0 ≤ d) (d1 : d ≤ 1000000) (hz : BytesAt w a 5 zs) (hna : a = none → cap = 0) (hcap : 5 ≤ cap) (hcap2 : cap ≤ 9223372036854775807) (hn : ∀ b off, a = some ⟨b, off, none⟩ → b ≠ p) (hs : synd zs = s) (hs0 : s ≠ 0)  (hbz : bitZ s = -1) :
    Calls Try.prog 49 #[.pointer (some ⟨p, 0, none⟩), .slice a 5 cap] w fun e w' => (∃ g cc, e = .returned (.tuple #[.slice g 4 cc, .bool false]) ∧ BytesAt w' g 4 [0, 0, 0, 0]) ∧ RefAt w' p true r (d + 1) ∧ Chg p w w' := by
  have hb := h.lt
  have hne : (s == 0) = false := by simpa using hs0
  go_enter Try.func49, Try.ntmps49
  go_wp2_with (first | (go_at_call 35; (with_reducible refine (refSynd_at hz hcap hcap2 (by decide)).mono ?_); rw [hs]; rintro e w1 ⟨rfl, hb_w1⟩) | (go_at_call 56; (with_reducible refine (refBit_any s _).mono ?_); rw [hbz]; rintro e w2 ⟨rfl, hb_w2⟩; have R2 : RefAt w2 p false r d := (h.below hb_w1).below hb_w2; obtain ⟨k0, k1, k2, kf⟩ := R2.cells; have kf0 := kf 0; have kf1 := kf 1; have kf2 := kf 2; have Z2 := (hz.below hb_w1).below hb_w2))
  go_ret2
  refine ⟨⟨_, _, rfl, bytes_top [0, 0, 0, 0] (by simp) rfl (by decide) (by decide)⟩, by (repeat (first | (with_reducible assumption) | (with_reducible apply RefAt.set0) | (with_reducible apply RefAt.set1) | (with_reducible apply RefAt.set2) | ((with_reducible refine RefAt.beside ?_ ?_); (rotate_left; focus (first | omega | (simp; omega)))) | (with_reducible refine RefAt.alloc ?_ _) | (with_reducible refine RefAt.drewN ?_ _) | (with_reducible refine RefAt.drew ?_) | (with_reducible refine RefAt.below ?_ (by assumption)))), by (repeat (first | (with_reducible exact Chg.refl _ _) | (with_reducible assumption) | (with_reducible refine Chg.setCell ?_ _ _) | ((with_reducible refine Chg.setNew ?_ ?_ _ _); (rotate_left; focus (first | omega | (simp; omega)))) | (with_reducible refine Chg.alloc ?_ _) | (with_reducible refine Chg.drewN ?_ _) | (with_reducible refine Chg.drew ?_) | (with_reducible refine Chg.then ?_ (by assumption))))⟩
theorem refTake_fix (p : Nat) (r d : Int) (a : Option Addr) (cap : Nat) (zs : List Int) (s : Int) (w : World) (h : RefAt w p false r d) (r0 : 0 ≤ r) (r1 : r ≤ 1000000) (d0 : 0 ≤ d) (d1 : d ≤ 1000000) (hz : BytesAt w a 5 zs) (hna : a = none → cap = 0) (hcap : 5 ≤ cap) (hcap2 : cap ≤ 9223372036854775807) (hn : ∀ b off, a = some ⟨b, off, none⟩ → b ≠ p) (hs : synd zs = s) (hs0 : s ≠ 0)  (k : Nat) (hk40 : k < 40) (hbz : bitZ s = (k : Int)) :
    Calls Try.prog 49 #[.pointer (some ⟨p, 0, none⟩), .slice a 5 cap] w fun e w' => (∃ g cc, e = .returned (.tuple #[.slice g 4 cc, .bool true]) ∧ BytesAt w' g 4 ((flipZ zs k).take 4)) ∧ RefAt w' p true (r + 1) d ∧ Chg p w w' := by
  have hb := h.lt
  have hne : (s == 0) = false := by simpa using hs0
  have hk0 : ¬ (k : Int) < 0 := by omega
  go_enter Try.func49, Try.ntmps49
  go_wp2_with (first | (go_at_call 35; (with_reducible refine (refSynd_at hz hcap hcap2 (by decide)).mono ?_); rw [hs]; rintro e w1 ⟨rfl, hb_w1⟩) | (go_at_call 56; (with_reducible refine (refBit_any s _).mono ?_); rw [hbz]; rintro e w2 ⟨rfl, hb_w2⟩; have R2 : RefAt w2 p false r d := (h.below hb_w1).below hb_w2; obtain ⟨k0, k1, k2, kf⟩ := R2.cells; have kf0 := kf 0; have kf1 := kf 1; have kf2 := kf 2; have Z2 := (hz.below hb_w1).below hb_w2) | (go_at_call 33; (with_reducible refine (flip_any (Z2.chg ?hch hn) hna k (by omega) _ rfl).mono ?_); (case hch => (repeat (first | (with_reducible exact Chg.refl _ _) | (with_reducible assumption) | (with_reducible refine Chg.setCell ?_ _ _) | ((with_reducible refine Chg.setNew ?_ ?_ _ _); (rotate_left; focus (first | omega | (simp; omega)))) | (with_reducible refine Chg.alloc ?_ _) | (with_reducible refine Chg.drewN ?_ _) | (with_reducible refine Chg.drew ?_) | (with_reducible refine Chg.then ?_ (by assumption))))); rintro e w3 ⟨g, cc, rfl, hg, hc1, hc2, hF, hb_w3⟩; have hc4 : (4 : Int) ≤ cc := (by omega); have hc5 : 4 ≤ cc := (by omega)))
  go_ret2
  exact ⟨⟨_, _, rfl, hF.head (by decide) (by decide)⟩, by (repeat (first | (with_reducible assumption) | (with_reducible apply RefAt.set0) | (with_reducible apply RefAt.set1) | (with_reducible apply RefAt.set2) | ((with_reducible refine RefAt.beside ?_ ?_); (rotate_left; focus (first | omega | (simp; omega)))) | (with_reducible refine RefAt.alloc ?_ _) | (with_reducible refine RefAt.drewN ?_ _) | (with_reducible refine RefAt.drew ?_) | (with_reducible refine RefAt.below ?_ (by assumption)))), by (repeat (first | (with_reducible exact Chg.refl _ _) | (with_reducible assumption) | (with_reducible refine Chg.setCell ?_ _ _) | ((with_reducible refine Chg.setNew ?_ ?_ _ _); (rotate_left; focus (first | omega | (simp; omega)))) | (with_reducible refine Chg.alloc ?_ _) | (with_reducible refine Chg.drewN ?_ _) | (with_reducible refine Chg.drew ?_) | (with_reducible refine Chg.then ?_ (by assumption))))⟩
theorem refTake_any (p : Nat) (r d : Int) (c : Bool) (a : Option Addr) (cap : Nat) (zs : List Int) (w : World) (h : RefAt w p c r d) (r0 : 0 ≤ r) (r1 : r ≤ 1000000) (d0 : 0 ≤ d) (d1 : d ≤ 1000000) (hz : BytesAt w a 5 zs) (hna : a = none → cap = 0) (hcap : 5 ≤ cap) (hcap2 : cap ≤ 9223372036854775807) (hn : ∀ b off, a = some ⟨b, off, none⟩ → b ≠ p) :
    Calls Try.prog 49 #[.pointer (some ⟨p, 0, none⟩), .slice a 5 cap] w fun e w' => (∃ g cc, e = .returned (.tuple #[.slice g 4 cc, .bool (!drops c zs)]) ∧ BytesAt w' g 4 (takes c zs)) ∧ RefAt w' p (synd zs != 0) (r + oneIf (fixes c zs)) (d + oneIf (drops c zs)) ∧ Chg p w w' := by
  by_cases hs : synd zs = 0
  · have e1 : fixes c zs = false := by unfold fixes; rw [hs]; rfl
    have e2 : drops c zs = false := by unfold drops; rw [hs]; rfl
    have e3 : takes c zs = zs.take 4 := by unfold takes; rw [if_pos hs]
    rw [e1, e2, e3, hs]
    refine (refTake_zero p r d c a cap zs w h hz hcap hcap2 hn hs).mono fun e w' hh => ⟨⟨a, cap, hh.1, hh.2.1⟩, ?_, hh.2.2.2⟩
    have := hh.2.2.1
    simpa [oneIf] using this
  · have hne : (synd zs != 0) = true := by simpa using hs
    rcases hk : bitOf (synd zs) with _ | k
    · have e1 : fixes c zs = false := by unfold fixes; rw [hk]; simp
      have e2 : drops c zs = true := by unfold drops; rw [hk, hne]; simp
      have e3 : takes c zs = [0, 0, 0, 0] := by unfold takes; rw [if_neg hs, e1]; rfl
      have e4 : bitZ (synd zs) = -1 := by unfold bitZ; rw [hk]
      rw [e1, e2, e3, hne]
      cases c
      · refine (refTake_drop3 p r d a cap zs _ w h r0 r1 d0 d1 hz hna hcap hcap2 hn rfl hs e4).mono fun e w' hh => ⟨hh.1, ?_, hh.2.2⟩
        have := hh.2.1
        simpa [oneIf] using this
      · refine (refTake_drop2 p r d a cap zs _ w h r0 r1 d0 d1 hz hna hcap hcap2 hn rfl hs e4).mono fun e w' hh => ⟨hh.1, ?_, hh.2.2⟩
        have := hh.2.1
        simpa [oneIf] using this
    · have e4 : bitZ (synd zs) = k := by unfold bitZ; rw [hk]
      cases c
      · have e1 : fixes false zs = true := by unfold fixes; rw [hk, hne]; rfl
        have e2 : drops false zs = false := by unfold drops; rw [hk, hne]; rfl
        have e3 : takes false zs = (flipZ zs k).take 4 := by unfold takes; rw [if_neg hs, e1, hk]; rfl
        rw [e1, e2, e3, hne]
        refine (refTake_fix p r d a cap zs _ w h r0 r1 d0 d1 hz hna hcap hcap2 hn rfl hs k (bitOf_some hk).1 e4).mono fun e w' hh => ⟨hh.1, ?_, hh.2.2⟩
        have := hh.2.1
        simpa [oneIf] using this
      · have e1 : fixes true zs = false := by unfold fixes; rw [hk, hne]; rfl
        have e2 : drops true zs = true := by unfold drops; rw [hk, hne]; rfl
        have e3 : takes true zs = [0, 0, 0, 0] := by unfold takes; rw [if_neg hs, e1]; rfl
        rw [e1, e2, e3, hne]
        refine (refTake_drop1 p r d a cap zs _ w h r0 r1 d0 d1 hz hna hcap hcap2 hn rfl hs k e4).mono fun e w' hh => ⟨hh.1, ?_, hh.2.2⟩
        have := hh.2.1
        simpa [oneIf] using this
end Go.Proofs.Ytdlghiekcgplaaa
