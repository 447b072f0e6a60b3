/- The contract of (*Delay).step, the other cases. -/
import Derived.Test.YthpcangfbpoglaaStep2
namespace Go.Proofs.Ythpcangfbpoglaa
open Go.ChangeShapes Go.WideShapes Go.ChangeAt Go.RowKit
set_option linter.unusedVariables false
set_option maxHeartbeats 1000000 in
theorem step_1a (B : Nat) (t i s c n now wait back : Int) (dr : Bool) (w : World) (hC : Ctl w B t i s dr c n) (d1 : 1 ≤ t) (d2 : t ≤ 10000) (d3 : 1 ≤ i) (d4 : i ≤ 10000) (d5 : -1 ≤ s) (d6 : s ≤ 110000) (d7 : 0 ≤ c) (d8 : c ≤ 1000) (d9 : 0 ≤ n) (d10 : n ≤ 200000) (e1 : 0 ≤ now) (e2 : now ≤ 100000) (e3 : 0 ≤ wait) (e4 : wait ≤ 100000) (e5 : 0 ≤ back) (e6 : back ≤ 100000) (h1 : ¬ t ≤ wait) :
    Calls Try.prog 24 #[.pointer (some ⟨B, 0, none⟩), .int .i64 now, .int .i64 wait, .int .i64 back] w (Stepped' w B t i (stepD t i s dr c n now wait back)) := by
  rw [show stepD t i s dr c n now wait back = (-1, false, c, n, false) by rw [stepD, if_pos (by omega)]]
  have HC := Lib.hid hC
  obtain ⟨c0, c1, c2, c3, c4, c5⟩ := hC.cells
  have f2 := hC.free 2
  have f3 := hC.free 3
  have f4 := hC.free 4
  have f5 := hC.free 5
  have hBlt := hC.lt
  clear hC
  go_enter Try.func24, Try.ntmps24
  go_wp2_with fail
  go_ret
  exact ⟨rfl, (HC.out.set2 _).set3 _, chs (chs (Chg.refl _ _ _) _ _) _ _⟩
set_option maxHeartbeats 1000000 in
theorem step_1b (B : Nat) (t i s c n now wait back : Int) (dr : Bool) (w : World) (hC : Ctl w B t i s dr c n) (d1 : 1 ≤ t) (d2 : t ≤ 10000) (d3 : 1 ≤ i) (d4 : i ≤ 10000) (d5 : -1 ≤ s) (d6 : s ≤ 110000) (d7 : 0 ≤ c) (d8 : c ≤ 1000) (d9 : 0 ≤ n) (d10 : n ≤ 200000) (e1 : 0 ≤ now) (e2 : now ≤ 100000) (e3 : 0 ≤ wait) (e4 : wait ≤ 100000) (e5 : 0 ≤ back) (e6 : back ≤ 100000) (h1 : t ≤ wait) (h2 : ¬ 1 ≤ back) :
    Calls Try.prog 24 #[.pointer (some ⟨B, 0, none⟩), .int .i64 now, .int .i64 wait, .int .i64 back] w (Stepped' w B t i (stepD t i s dr c n now wait back)) := by
  rw [show stepD t i s dr c n now wait back = (-1, false, c, n, false) by rw [stepD, if_pos (by omega)]]
  have HC := Lib.hid hC
  obtain ⟨c0, c1, c2, c3, c4, c5⟩ := hC.cells
  have f2 := hC.free 2
  have f3 := hC.free 3
  have f4 := hC.free 4
  have f5 := hC.free 5
  have hBlt := hC.lt
  clear hC
  go_enter Try.func24, Try.ntmps24
  go_wp2_with fail
  go_ret
  exact ⟨rfl, (HC.out.set2 _).set3 _, chs (chs (Chg.refl _ _ _) _ _) _ _⟩
set_option maxHeartbeats 1000000 in
theorem step_2 (B : Nat) (t i s c n now wait back : Int) (dr : Bool) (w : World) (hC : Ctl w B t i s dr c n) (d1 : 1 ≤ t) (d2 : t ≤ 10000) (d3 : 1 ≤ i) (d4 : i ≤ 10000) (d5 : -1 ≤ s) (d6 : s ≤ 110000) (d7 : 0 ≤ c) (d8 : c ≤ 1000) (d9 : 0 ≤ n) (d10 : n ≤ 200000) (e1 : 0 ≤ now) (e2 : now ≤ 100000) (e3 : 0 ≤ wait) (e4 : wait ≤ 100000) (e5 : 0 ≤ back) (e6 : back ≤ 100000) (h1 : t ≤ wait) (h2 : 1 ≤ back) (h3 : s < 0) :
    Calls Try.prog 24 #[.pointer (some ⟨B, 0, none⟩), .int .i64 now, .int .i64 wait, .int .i64 back] w (Stepped' w B t i (stepD t i s dr c n now wait back)) := by
  rw [show stepD t i s dr c n now wait back = (now + i, false, c, n, false) by rw [stepD, if_neg (by omega), if_pos h3]]
  have HC := Lib.hid hC
  obtain ⟨c0, c1, c2, c3, c4, c5⟩ := hC.cells
  have f2 := hC.free 2
  have f3 := hC.free 3
  have f4 := hC.free 4
  have f5 := hC.free 5
  have hBlt := hC.lt
  clear hC
  have t3 : (s != -1) = false := by simp; omega
  have t3' : (s == -1) = true := by simp; omega
  go_enter Try.func24, Try.ntmps24
  go_wp2_with fail
  go_ret
  exact ⟨rfl, (HC.out.set2 _).set3 _, chs (chs (Chg.refl _ _ _) _ _) _ _⟩
set_option maxHeartbeats 1000000 in
theorem step_3 (B : Nat) (t i s c n now wait back : Int) (dr : Bool) (w : World) (hC : Ctl w B t i s dr c n) (d1 : 1 ≤ t) (d2 : t ≤ 10000) (d3 : 1 ≤ i) (d4 : i ≤ 10000) (d5 : -1 ≤ s) (d6 : s ≤ 110000) (d7 : 0 ≤ c) (d8 : c ≤ 1000) (d9 : 0 ≤ n) (d10 : n ≤ 200000) (e1 : 0 ≤ now) (e2 : now ≤ 100000) (e3 : 0 ≤ wait) (e4 : wait ≤ 100000) (e5 : 0 ≤ back) (e6 : back ≤ 100000) (h1 : t ≤ wait) (h2 : 1 ≤ back) (h3 : 0 ≤ s) (h4 : now < s) :
    Calls Try.prog 24 #[.pointer (some ⟨B, 0, none⟩), .int .i64 now, .int .i64 wait, .int .i64 back] w (Stepped' w B t i (stepD t i s dr c n now wait back)) := by
  rw [show stepD t i s dr c n now wait back = (s, false, c, n, false) by rw [stepD, if_neg (by omega), if_neg (by omega), if_pos h4]]
  have HC := Lib.hid hC
  obtain ⟨c0, c1, c2, c3, c4, c5⟩ := hC.cells
  have f2 := hC.free 2
  have f3 := hC.free 3
  have f4 := hC.free 4
  have f5 := hC.free 5
  have hBlt := hC.lt
  clear hC
  have t3 : (s != -1) = true := by simp; omega
  have t3' : (s == -1) = false := by simp; omega
  have t4 : decide (s ≤ now) = false := by simp; omega
  go_enter Try.func24, Try.ntmps24
  go_wp2_with fail
  go_ret
  exact ⟨rfl, HC.out.set3 _, chs (Chg.refl _ _ _) _ _⟩
set_option maxHeartbeats 1000000 in
theorem step_4 (B : Nat) (t i s c n now wait back : Int) (w : World) (hC : Ctl w B t i s true c n) (d1 : 1 ≤ t) (d2 : t ≤ 10000) (d3 : 1 ≤ i) (d4 : i ≤ 10000) (d5 : -1 ≤ s) (d6 : s ≤ 110000) (d7 : 0 ≤ c) (d8 : c ≤ 1000) (d9 : 0 ≤ n) (d10 : n ≤ 200000) (e1 : 0 ≤ now) (e2 : now ≤ 100000) (e3 : 0 ≤ wait) (e4 : wait ≤ 100000) (e5 : 0 ≤ back) (e6 : back ≤ 100000) (h1 : t ≤ wait) (h2 : 1 ≤ back) (h3 : 0 ≤ s) (h4 : s ≤ now) (h5 : now < n) :
    Calls Try.prog 24 #[.pointer (some ⟨B, 0, none⟩), .int .i64 now, .int .i64 wait, .int .i64 back] w (Stepped' w B t i (stepD t i s true c n now wait back)) := by
  rw [show stepD t i s true c n now wait back = (s, true, c, n, false) by rw [stepD, if_neg (by omega), if_neg (by omega), if_neg (by omega), if_pos ⟨rfl, h5⟩]]
  have HC := Lib.hid hC
  obtain ⟨c0, c1, c2, c3, c4, c5⟩ := hC.cells
  have f2 := hC.free 2
  have f3 := hC.free 3
  have f4 := hC.free 4
  have f5 := hC.free 5
  have hBlt := hC.lt
  clear hC
  have t3 : (s != -1) = true := by simp; omega
  have t3' : (s == -1) = false := by simp; omega
  have t4 : decide (s ≤ now) = true := by simp; omega
  go_enter Try.func24, Try.ntmps24
  go_wp2_with fail
  go_ret
  exact ⟨rfl, HC.out, Chg.refl _ _ _⟩
set_option maxHeartbeats 1000000 in
theorem step_6 (B : Nat) (t i s c n now wait back : Int) (w : World) (hC : Ctl w B t i s false c n) (d1 : 1 ≤ t) (d2 : t ≤ 10000) (d3 : 1 ≤ i) (d4 : i ≤ 10000) (d5 : -1 ≤ s) (d6 : s ≤ 110000) (d7 : 0 ≤ c) (d8 : c ≤ 1000) (d9 : 0 ≤ n) (d10 : n ≤ 200000) (e1 : 0 ≤ now) (e2 : now ≤ 100000) (e3 : 0 ≤ wait) (e4 : wait ≤ 100000) (e5 : 0 ≤ back) (e6 : back ≤ 100000) (h1 : t ≤ wait) (h2 : 1 ≤ back) (h3 : 0 ≤ s) (h4 : s ≤ now) (h5 : c - 2 < 1) :
    Calls Try.prog 24 #[.pointer (some ⟨B, 0, none⟩), .int .i64 now, .int .i64 wait, .int .i64 back] w (Stepped' w B t i (stepD t i s false c n now wait back)) := by
  have t5 : decide (1 ≤ c - 2) = false := by simp; omega
  have t5' : decide (3 ≤ c) = false := by simp; omega
  rw [show stepD t i s false c n now wait back = (s, true, 1, now + gap i 1, true) by rw [stepD, if_neg (by omega), if_neg (by omega), if_neg (by omega), if_neg (by simp), if_neg (by simp), if_pos (.inl h5)]]
  have HC := Lib.hid hC
  obtain ⟨c0, c1, c2, c3, c4, c5⟩ := hC.cells
  have f2 := hC.free 2
  have f3 := hC.free 3
  have f4 := hC.free 4
  have f5 := hC.free 5
  have hBlt := hC.lt
  clear hC
  have t3 : (s != -1) = true := by simp; omega
  have t3' : (s == -1) = false := by simp; omega
  have t4 : decide (s ≤ now) = true := by simp; omega
  have gb := gap_bound (c := 1) d3 d4 (by omega)
  have wg : IntKind.i64.wrap (now + gap i 1) = now + gap i 1 := IntWalk.i64_in _ (by omega)
  go_enter Try.func24, Try.ntmps24
  go_wp2_with fail
  obtain ⟨W0, hW0⟩ : ∃ W0, W0 = w.setCell ⟨B, 3, none⟩ (.bool true) := ⟨_, rfl⟩
  rw [← hW0]
  have HC0 := Lib.hid (show Ctl W0 B t i s true c n by rw [hW0]; exact HC.out.set3 true)
  have HG0 := Lib.hid (show Chg B (B + 1) w W0 by rw [hW0]; exact chs (Chg.refl _ _ _) _ _)
  clear hW0 c0 c1 c2 c3 c4 c5 f2 f3 f4 f5
  obtain ⟨c0, c1, c2, c3, c4, c5⟩ := HC0.out.cells
  have f4 := HC0.out.free 4
  go_quiet (fail)
  go_wp2_with fail
  obtain ⟨W1, hW1⟩ : ∃ W1, W1 = (W0.drewN nq).setCell ⟨B, 4, none⟩ (.int .i64 1) := ⟨_, rfl⟩
  rw [← hW1]
  have HC1 := Lib.hid (show Ctl W1 B t i s true 1 n by rw [hW1]; exact (HC0.out.drewN nq).set4 1)
  have HG1 := Lib.hid (show Chg B (B + 1) w W1 by rw [hW1]; exact chs (chdN HG0.out _) _ _)
  clear hW1 c0 c1 c2 c3 c4 c5 f4
  obtain ⟨c0, c1, c2, c3, c4, c5⟩ := HC1.out.cells
  have f5 := HC1.out.free 5
  have hB1 := HC1.out.lt
  go_region_held3 (fun w' => w'.cell? ⟨B, 1, none⟩ = some (.int .i64 i) ∧ w'.cell? ⟨B, 4, none⟩ = some (.int .i64 1)) (first | go_keep | exact ⟨((((HC1.out.drew.below hb2).set5 _).cells).2.1), ((((HC1.out.drew.below hb2).set5 _).cells).2.2.2.2.1)⟩)
    (first
      | (go_at_call 27; refine (gapAfter_any _ _ _ (by omega) (by omega) (by omega) (by omega)).mono ?_; rintro e w2 ⟨rfl, hb2⟩; have r2 := fun o => bkeep hb2 B o hB1; have rf2 := fun o => bfree hb2 B o hB1))
  go_wp2_with fail
  go_ret
  exact ⟨rfl, (HC1.out.drew.below hb2).set5 _, chs (chb (chd HG1.out) hb2) _ _⟩
set_option maxHeartbeats 1000000 in
theorem step_7 (B : Nat) (t i s c n now wait back : Int) (w : World) (hC : Ctl w B t i s false c n) (d1 : 1 ≤ t) (d2 : t ≤ 10000) (d3 : 1 ≤ i) (d4 : i ≤ 10000) (d5 : -1 ≤ s) (d6 : s ≤ 110000) (d7 : 0 ≤ c) (d8 : c ≤ 1000) (d9 : 0 ≤ n) (d10 : n ≤ 200000) (e1 : 0 ≤ now) (e2 : now ≤ 100000) (e3 : 0 ≤ wait) (e4 : wait ≤ 100000) (e5 : 0 ≤ back) (e6 : back ≤ 100000) (h1 : t ≤ wait) (h2 : 1 ≤ back) (h3 : 0 ≤ s) (h4 : s ≤ now) (h5 : 1 ≤ c - 2) (h6 : n + 8 * i ≤ now) :
    Calls Try.prog 24 #[.pointer (some ⟨B, 0, none⟩), .int .i64 now, .int .i64 wait, .int .i64 back] w (Stepped' w B t i (stepD t i s false c n now wait back)) := by
  rw [show stepD t i s false c n now wait back = (s, true, 1, now + gap i 1, true) by rw [stepD, if_neg (by omega), if_neg (by omega), if_neg (by omega), if_neg (by simp), if_neg (by simp), if_pos (.inr h6)]]
  have HC := Lib.hid hC
  obtain ⟨c0, c1, c2, c3, c4, c5⟩ := hC.cells
  have f2 := hC.free 2
  have f3 := hC.free 3
  have f4 := hC.free 4
  have f5 := hC.free 5
  have hBlt := hC.lt
  clear hC
  have t3 : (s != -1) = true := by simp; omega
  have t3' : (s == -1) = false := by simp; omega
  have t4 : decide (s ≤ now) = true := by simp; omega
  have gb := gap_bound (c := 1) d3 d4 (by omega)
  have wg : IntKind.i64.wrap (now + gap i 1) = now + gap i 1 := IntWalk.i64_in _ (by omega)
  go_enter Try.func24, Try.ntmps24
  go_wp2_with fail
  obtain ⟨W0, hW0⟩ : ∃ W0, W0 = w.setCell ⟨B, 3, none⟩ (.bool true) := ⟨_, rfl⟩
  rw [← hW0]
  have HC0 := Lib.hid (show Ctl W0 B t i s true c n by rw [hW0]; exact HC.out.set3 true)
  have HG0 := Lib.hid (show Chg B (B + 1) w W0 by rw [hW0]; exact chs (Chg.refl _ _ _) _ _)
  clear hW0 c0 c1 c2 c3 c4 c5 f2 f3 f4 f5
  obtain ⟨c0, c1, c2, c3, c4, c5⟩ := HC0.out.cells
  have f4 := HC0.out.free 4
  go_quiet (fail)
  go_wp2_with fail
  obtain ⟨W1, hW1⟩ : ∃ W1, W1 = (W0.drewN nq).setCell ⟨B, 4, none⟩ (.int .i64 1) := ⟨_, rfl⟩
  rw [← hW1]
  have HC1 := Lib.hid (show Ctl W1 B t i s true 1 n by rw [hW1]; exact (HC0.out.drewN nq).set4 1)
  have HG1 := Lib.hid (show Chg B (B + 1) w W1 by rw [hW1]; exact chs (chdN HG0.out _) _ _)
  clear hW1 c0 c1 c2 c3 c4 c5 f4
  obtain ⟨c0, c1, c2, c3, c4, c5⟩ := HC1.out.cells
  have f5 := HC1.out.free 5
  have hB1 := HC1.out.lt
  go_region_held3 (fun w' => w'.cell? ⟨B, 1, none⟩ = some (.int .i64 i) ∧ w'.cell? ⟨B, 4, none⟩ = some (.int .i64 1)) (first | go_keep | exact ⟨((((HC1.out.drew.below hb2).set5 _).cells).2.1), ((((HC1.out.drew.below hb2).set5 _).cells).2.2.2.2.1)⟩)
    (first
      | (go_at_call 27; refine (gapAfter_any _ _ _ (by omega) (by omega) (by omega) (by omega)).mono ?_; rintro e w2 ⟨rfl, hb2⟩; have r2 := fun o => bkeep hb2 B o hB1; have rf2 := fun o => bfree hb2 B o hB1))
  go_wp2_with fail
  go_ret
  exact ⟨rfl, (HC1.out.drew.below hb2).set5 _, chs (chb (chd HG1.out) hb2) _ _⟩
set_option maxHeartbeats 1000000 in
theorem step_8 (B : Nat) (t i s c n now wait back : Int) (w : World) (hC : Ctl w B t i s false c n) (d1 : 1 ≤ t) (d2 : t ≤ 10000) (d3 : 1 ≤ i) (d4 : i ≤ 10000) (d5 : -1 ≤ s) (d6 : s ≤ 110000) (d7 : 0 ≤ c) (d8 : c ≤ 1000) (d9 : 0 ≤ n) (d10 : n ≤ 200000) (e1 : 0 ≤ now) (e2 : now ≤ 100000) (e3 : 0 ≤ wait) (e4 : wait ≤ 100000) (e5 : 0 ≤ back) (e6 : back ≤ 100000) (h1 : t ≤ wait) (h2 : 1 ≤ back) (h3 : 0 ≤ s) (h4 : s ≤ now) (h5 : 1 ≤ c - 2) (h6 : now < n + 8 * i) :
    Calls Try.prog 24 #[.pointer (some ⟨B, 0, none⟩), .int .i64 now, .int .i64 wait, .int .i64 back] w (Stepped' w B t i (stepD t i s false c n now wait back)) := by
  rw [show stepD t i s false c n now wait back = (s, true, (c - 2), now + gap i (c - 2), true) by rw [stepD, if_neg (by omega), if_neg (by omega), if_neg (by omega), if_neg (by simp), if_neg (by simp), if_neg (by omega)]]
  have HC := Lib.hid hC
  obtain ⟨c0, c1, c2, c3, c4, c5⟩ := hC.cells
  have f2 := hC.free 2
  have f3 := hC.free 3
  have f4 := hC.free 4
  have f5 := hC.free 5
  have hBlt := hC.lt
  clear hC
  have t3 : (s != -1) = true := by simp; omega
  have t3' : (s == -1) = false := by simp; omega
  have t4 : decide (s ≤ now) = true := by simp; omega
  have gb := gap_bound (c := (c - 2)) d3 d4 (by omega)
  have wg : IntKind.i64.wrap (now + gap i (c - 2)) = now + gap i (c - 2) := IntWalk.i64_in _ (by omega)
  go_enter Try.func24, Try.ntmps24
  go_wp2_with fail
  obtain ⟨W0, hW0⟩ : ∃ W0, W0 = w.setCell ⟨B, 3, none⟩ (.bool true) := ⟨_, rfl⟩
  rw [← hW0]
  have HC0 := Lib.hid (show Ctl W0 B t i s true c n by rw [hW0]; exact HC.out.set3 true)
  have HG0 := Lib.hid (show Chg B (B + 1) w W0 by rw [hW0]; exact chs (Chg.refl _ _ _) _ _)
  clear hW0 c0 c1 c2 c3 c4 c5 f2 f3 f4 f5
  obtain ⟨c0, c1, c2, c3, c4, c5⟩ := HC0.out.cells
  have f4 := HC0.out.free 4
  go_quiet (fail)
  go_wp2_with fail
  obtain ⟨W1, hW1⟩ : ∃ W1, W1 = (W0.drewN nq).setCell ⟨B, 4, none⟩ (.int .i64 (c - 2)) := ⟨_, rfl⟩
  rw [← hW1]
  have HC1 := Lib.hid (show Ctl W1 B t i s true (c - 2) n by rw [hW1]; exact (HC0.out.drewN nq).set4 (c - 2))
  have HG1 := Lib.hid (show Chg B (B + 1) w W1 by rw [hW1]; exact chs (chdN HG0.out _) _ _)
  clear hW1 c0 c1 c2 c3 c4 c5 f4
  obtain ⟨c0, c1, c2, c3, c4, c5⟩ := HC1.out.cells
  have f5 := HC1.out.free 5
  have hB1 := HC1.out.lt
  go_region_held3 (fun w' => w'.cell? ⟨B, 1, none⟩ = some (.int .i64 i) ∧ w'.cell? ⟨B, 4, none⟩ = some (.int .i64 (c - 2))) (first | go_keep | exact ⟨((((HC1.out.drew.below hb2).set5 _).cells).2.1), ((((HC1.out.drew.below hb2).set5 _).cells).2.2.2.2.1)⟩)
    (first
      | (go_at_call 27; refine (gapAfter_any _ _ _ (by omega) (by omega) (by omega) (by omega)).mono ?_; rintro e w2 ⟨rfl, hb2⟩; have r2 := fun o => bkeep hb2 B o hB1; have rf2 := fun o => bfree hb2 B o hB1))
  go_wp2_with fail
  go_ret
  exact ⟨rfl, (HC1.out.drew.below hb2).set5 _, chs (chb (chd HG1.out) hb2) _ _⟩
end Go.Proofs.Ythpcangfbpoglaa
