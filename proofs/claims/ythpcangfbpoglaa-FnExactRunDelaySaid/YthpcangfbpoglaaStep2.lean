/- The contract of (*Delay).step: what the call returns and what becomes of the controller. -/
import Derived.Test.YthpcangfbpoglaaStep
import Derived.Deep.RegionWith
import Derived.BigRegion
namespace Go.Proofs.Ythpcangfbpoglaa
open Go.ChangeShapes Go.WideShapes Go.ChangeAt Go.RowKit
set_option linter.unusedVariables false
def Ctl (w : World) (B : Nat) (t i s : Int) (dr : Bool) (c n : Int) : Prop := w.heap[B]? = some (.cells #[.int .i64 t, .int .i64 i, .int .i64 s, .bool dr, .int .i64 c, .int .i64 n] 27 (0, 0))
theorem Ctl.lt {w : World} {B : Nat} {t i s : Int} {dr : Bool} {c n : Int} (h : Ctl w B t i s dr c n) : B < w.heap.size := (Array.getElem?_eq_some_iff.1 h).1
theorem Ctl.cells {w : World} {B : Nat} {t i s : Int} {dr : Bool} {c n : Int} (h : Ctl w B t i s dr c n) :
    w.cell? ⟨B, 0, none⟩ = some (.int .i64 t) ∧ w.cell? ⟨B, 1, none⟩ = some (.int .i64 i) ∧ w.cell? ⟨B, 2, none⟩ = some (.int .i64 s) ∧ w.cell? ⟨B, 3, none⟩ = some (.bool dr) ∧ w.cell? ⟨B, 4, none⟩ = some (.int .i64 c) ∧ w.cell? ⟨B, 5, none⟩ = some (.int .i64 n) := by
  unfold Ctl at h
  simp [World.cell?, h]
theorem Ctl.free {w : World} {B : Nat} {t i s : Int} {dr : Bool} {c n : Int} (h : Ctl w B t i s dr c n) (o : Nat) : w.frozen? ⟨B, o, none⟩ = false := by
  unfold Ctl at h
  simp [World.frozen?, h]
theorem Ctl.set2 {w : World} {B : Nat} {t i s : Int} {dr : Bool} {c n : Int} (h : Ctl w B t i s dr c n) (x : Int) : Ctl (w.setCell ⟨B, 2, none⟩ (.int .i64 x)) B t i x dr c n := by
  unfold Ctl at h ⊢
  rw [heap_setCell_same w B 2 _ _ _ h]
  simp
theorem Ctl.set3 {w : World} {B : Nat} {t i s : Int} {dr : Bool} {c n : Int} (h : Ctl w B t i s dr c n) (x : Bool) : Ctl (w.setCell ⟨B, 3, none⟩ (.bool x)) B t i s x c n := by
  unfold Ctl at h ⊢
  rw [heap_setCell_same w B 3 _ _ _ h]
  simp
theorem Ctl.set4 {w : World} {B : Nat} {t i s : Int} {dr : Bool} {c n : Int} (h : Ctl w B t i s dr c n) (x : Int) : Ctl (w.setCell ⟨B, 4, none⟩ (.int .i64 x)) B t i s dr x n := by
  unfold Ctl at h ⊢
  rw [heap_setCell_same w B 4 _ _ _ h]
  simp
theorem Ctl.set5 {w : World} {B : Nat} {t i s : Int} {dr : Bool} {c n : Int} (h : Ctl w B t i s dr c n) (x : Int) : Ctl (w.setCell ⟨B, 5, none⟩ (.int .i64 x)) B t i s dr c x := by
  unfold Ctl at h ⊢
  rw [heap_setCell_same w B 5 _ _ _ h]
  simp
theorem Ctl.below {w w' : World} {B : Nat} {t i s : Int} {dr : Bool} {c n : Int} (h : Ctl w B t i s dr c n) (hb : Below w.heap.size w w') : Ctl w' B t i s dr c n := (hb.block B h.lt).trans h
theorem Ctl.drewN {w : World} {B : Nat} {t i s : Int} {dr : Bool} {c n : Int} (h : Ctl w B t i s dr c n) (k : Nat) : Ctl (w.drewN k) B t i s dr c n := h
theorem Ctl.drew {w : World} {B : Nat} {t i s : Int} {dr : Bool} {c n : Int} (h : Ctl w B t i s dr c n) : Ctl w.drew B t i s dr c n := h
def Stepped' (w : World) (B : Nat) (t i : Int) (r : Int × Bool × Int × Int × Bool) (e : Ending) (w' : World) : Prop :=
  e = .returned (.bool r.2.2.2.2) ∧ Ctl w' B t i r.1 r.2.1 r.2.2.1 r.2.2.2.1 ∧ Chg B (B + 1) w w'
theorem chs {B : Nat} {a w : World} (h : Chg B (B + 1) a w) (j : Nat) (u : Value) : Chg B (B + 1) a (w.setCell ⟨B, j, none⟩ u) := h.setCell (Nat.le_refl _) (Nat.lt_succ_self _) u
theorem chb {B : Nat} {a w w' : World} (h : Chg B (B + 1) a w) (hb : Below w.heap.size w w') : Chg B (B + 1) a w' := h.trans (Chg.of_below hb)
theorem chd {B : Nat} {a w : World} (h : Chg B (B + 1) a w) : Chg B (B + 1) a w.drew := ⟨h.os, h.tape, h.output, h.size, h.block⟩
theorem chdN {B : Nat} {a w : World} (h : Chg B (B + 1) a w) (k : Nat) : Chg B (B + 1) a (w.drewN k) := ⟨h.os, h.tape, h.output, h.size, h.block⟩
set_option maxHeartbeats 2000000 in
theorem step_hi (B : Nat) (t i s c n now wait back : Int) (w : World) (hC : Ctl w B t i s true c n) (d1 : 1 ≤ t) (d2 : t ≤ 10000) (d3 : 1 ≤ i) (d4 : i ≤ 10000) (d5 : -1 ≤ s) (d6 : s ≤ 110000) (d7 : 0 ≤ c) (d8 : c ≤ 1000) (d9 : 0 ≤ n) (d10 : n ≤ 200000) (e1 : 0 ≤ now) (e2 : now ≤ 100000) (e3 : 0 ≤ wait) (e4 : wait ≤ 100000) (e5 : 0 ≤ back) (e6 : back ≤ 100000) (h1 : t ≤ wait) (h2 : 1 ≤ back) (h3 : 0 ≤ s) (h4 : s ≤ now) (h5 : n ≤ now) (hq : 1000 ≤ c + 1) :
    Calls Try.prog 24 #[.pointer (some ⟨B, 0, none⟩), .int .i64 now, .int .i64 wait, .int .i64 back] w (Stepped' w B t i (stepD t i s true c n now wait back)) := by
  have hR := Lib.hid (show stepD t i s true c n now wait back = (s, true, 1000, n + gap i 1000, true) by rw [stepD, if_neg (by omega), if_neg (by omega), if_neg (by omega), if_neg (fun h => by omega), if_pos rfl, show least 1000 (c + 1) = 1000 by unfold least; split <;> omega])
  rw [hR.out]
  clear hR
  have gb := gap_bound (c := 1000) d3 d4 (by omega)
  have HC := Lib.hid hC
  obtain ⟨c0, c1, c2, c3, c4, c5⟩ := hC.cells
  have f4 := hC.free 4
  have f5 := hC.free 5
  have hBlt := hC.lt
  clear hC
  have t3 : (s != -1) = true := by simp; omega
  have t3' : (s == -1) = false := by simp; omega
  have t4 : decide (s ≤ now) = true := by simp; omega
  have wg : IntKind.i64.wrap (n + gap i 1000) = n + gap i 1000 := IntWalk.i64_in _ (by omega)
  go_enter Try.func24, Try.ntmps24
  go_wp2_with fail
  obtain ⟨W1, hW1⟩ : ∃ W1, W1 = w.setCell ⟨B, 4, none⟩ (.int .i64 1000) := ⟨_, rfl⟩
  rw [← hW1]
  have HC1 := Lib.hid (show Ctl W1 B t i s true 1000 n by rw [hW1]; exact HC.out.set4 1000)
  have HG1 := Lib.hid (show Chg B (B + 1) w W1 by rw [hW1]; exact chs (Chg.refl _ _ _) _ _)
  clear hW1 c0 c1 c2 c3 c4 c5 f4 f5
  obtain ⟨c0, c1, c2, c3, c4, c5⟩ := HC1.out.cells
  have f5 := HC1.out.free 5
  have hB1 := HC1.out.lt
  go_region_with ((go_at_call 27; refine (gapAfter_any _ _ _ (by omega) (by omega) (by omega) (by omega)).mono ?_; rintro e w2 ⟨rfl, hb2⟩; have r2 := fun o => bkeep hb2 B o hB1; have rf2 := fun o => bfree hb2 B o hB1))
  all_goals
    go_wp2_with fail
    go_ret
    exact ⟨rfl, (HC1.out.drew.below hb2).set5 _, chs (chb (chd HG1.out) hb2) _ _⟩
set_option maxHeartbeats 2000000 in
theorem step_lo (B : Nat) (t i s c n now wait back : Int) (w : World) (hC : Ctl w B t i s true c n) (d1 : 1 ≤ t) (d2 : t ≤ 10000) (d3 : 1 ≤ i) (d4 : i ≤ 10000) (d5 : -1 ≤ s) (d6 : s ≤ 110000) (d7 : 0 ≤ c) (d8 : c ≤ 1000) (d9 : 0 ≤ n) (d10 : n ≤ 200000) (e1 : 0 ≤ now) (e2 : now ≤ 100000) (e3 : 0 ≤ wait) (e4 : wait ≤ 100000) (e5 : 0 ≤ back) (e6 : back ≤ 100000) (h1 : t ≤ wait) (h2 : 1 ≤ back) (h3 : 0 ≤ s) (h4 : s ≤ now) (h5 : n ≤ now) (hq : ¬ 1000 ≤ c + 1) :
    Calls Try.prog 24 #[.pointer (some ⟨B, 0, none⟩), .int .i64 now, .int .i64 wait, .int .i64 back] w (Stepped' w B t i (stepD t i s true c n now wait back)) := by
  have hR := Lib.hid (show stepD t i s true c n now wait back = (s, true, (c + 1), n + gap i (c + 1), true) by rw [stepD, if_neg (by omega), if_neg (by omega), if_neg (by omega), if_neg (fun h => by omega), if_pos rfl, show least 1000 (c + 1) = (c + 1) by unfold least; rw [if_neg (by omega)]])
  rw [hR.out]
  clear hR
  have gb := gap_bound (c := (c + 1)) d3 d4 (by omega)
  have HC := Lib.hid hC
  obtain ⟨c0, c1, c2, c3, c4, c5⟩ := hC.cells
  have f4 := hC.free 4
  have f5 := hC.free 5
  have hBlt := hC.lt
  clear hC
  have t3 : (s != -1) = true := by simp; omega
  have t3' : (s == -1) = false := by simp; omega
  have t4 : decide (s ≤ now) = true := by simp; omega
  have wg : IntKind.i64.wrap (n + gap i (c + 1)) = n + gap i (c + 1) := IntWalk.i64_in _ (by omega)
  go_enter Try.func24, Try.ntmps24
  go_wp2_with fail
  obtain ⟨W1, hW1⟩ : ∃ W1, W1 = w.setCell ⟨B, 4, none⟩ (.int .i64 (c + 1)) := ⟨_, rfl⟩
  rw [← hW1]
  have HC1 := Lib.hid (show Ctl W1 B t i s true (c + 1) n by rw [hW1]; exact HC.out.set4 (c + 1))
  have HG1 := Lib.hid (show Chg B (B + 1) w W1 by rw [hW1]; exact chs (Chg.refl _ _ _) _ _)
  clear hW1 c0 c1 c2 c3 c4 c5 f4 f5
  obtain ⟨c0, c1, c2, c3, c4, c5⟩ := HC1.out.cells
  have f5 := HC1.out.free 5
  have hB1 := HC1.out.lt
  go_region_with ((go_at_call 27; refine (gapAfter_any _ _ _ (by omega) (by omega) (by omega) (by omega)).mono ?_; rintro e w2 ⟨rfl, hb2⟩; have r2 := fun o => bkeep hb2 B o hB1; have rf2 := fun o => bfree hb2 B o hB1))
  all_goals
    go_wp2_with fail
    go_ret
    exact ⟨rfl, (HC1.out.drew.below hb2).set5 _, chs (chb (chd HG1.out) hb2) _ _⟩
end Go.Proofs.Ythpcangfbpoglaa
