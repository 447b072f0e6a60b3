/- The contracts on a class or a filter by itself, and of looking up among classes. -/
import Derived.Test.YtjajddhedahpnaaDoorCfgLaw
import Derived.Test.YtjajddhedahpnaaDoorBlk
namespace Go.Proofs.YtjajddhedahpnaaDoor
open Go.ChangeShapes Go.WideShapes Go.ChangeAt Go.RowKit
set_option linter.unusedVariables false
theorem cfClass_any (c : Cl) (w : World) : Calls Tryd.prog 60 #[.agg #[.int .i64 (c.id), .int .i64 (c.pa), .int .i64 (c.ra), .int .i64 (c.ce), .int .i64 (c.bu), .int .i64 (c.cb), .int .i64 (c.pr), .int .i64 (c.li)]] w fun e w' => e = .returned (.bool (cok c)) ∧ Below w.heap.size w w' := by
  go_enter Tryd.func60, Tryd.ntmps60
  go_wp2_with (go_at_call 43; refine (l1In_any _ _ _ _).mono ?_; rintro e w' ⟨rfl, rfl⟩)
  all_goals
    go_ret
    exact ⟨ret_b (by rw [Bool.eq_iff_iff, cok_iff]; simp; try omega), (by repeat (first | (with_reducible exact b0 _) | (with_reducible refine ba ?_ _) | (with_reducible refine bd ?_ _) | (with_reducible refine Below.drew ?_) | (with_reducible refine bs ?_ (by first | exact Nat.le_refl _ | exact Nat.le_add_right _ _ | omega) _) | (with_reducible refine bt ?_ (by assumption))))⟩
theorem isId_any (a : Int) (w : World) : Calls Tryd.prog 85 #[.int .i64 a] w fun e w' => e = .returned (.bool (decide (1 ≤ a ∧ a ≤ 999))) ∧ w = w' := by
  go_enter Tryd.func85, Tryd.ntmps85
  go_wp2
  all_goals
    go_ret
    exact ⟨ret_b (by rw [Bool.eq_iff_iff]; simp; try omega), rfl⟩
theorem rateRight_any (c : Cl) (w : World) : Calls Tryd.prog 71 #[.agg #[.int .i64 (c.id), .int .i64 (c.pa), .int .i64 (c.ra), .int .i64 (c.ce), .int .i64 (c.bu), .int .i64 (c.cb), .int .i64 (c.pr), .int .i64 (c.li)]] w fun e w' => e = .returned (.bool (rok c)) ∧ Below w.heap.size w w' := by
  go_enter Tryd.func71, Tryd.ntmps71
  go_wp2
  all_goals
    go_ret
    exact ⟨ret_b (by rw [Bool.eq_iff_iff]; simp [rok]; try omega), (by repeat (first | (with_reducible exact b0 _) | (with_reducible refine ba ?_ _) | (with_reducible refine bd ?_ _) | (with_reducible refine Below.drew ?_) | (with_reducible refine bs ?_ (by first | exact Nat.le_refl _ | exact Nat.le_add_right _ _ | omega) _) | (with_reducible refine bt ?_ (by assumption))))⟩
theorem burstRight_any (c : Cl) (w : World) : Calls Tryd.prog 75 #[.agg #[.int .i64 (c.id), .int .i64 (c.pa), .int .i64 (c.ra), .int .i64 (c.ce), .int .i64 (c.bu), .int .i64 (c.cb), .int .i64 (c.pr), .int .i64 (c.li)]] w fun e w' => e = .returned (.bool (bok c)) ∧ Below w.heap.size w w' := by
  go_enter Tryd.func75, Tryd.ntmps75
  go_wp2
  all_goals
    go_ret
    exact ⟨ret_b (by rw [Bool.eq_iff_iff]; simp [bok]; try omega), (by repeat (first | (with_reducible exact b0 _) | (with_reducible refine ba ?_ _) | (with_reducible refine bd ?_ _) | (with_reducible refine Below.drew ?_) | (with_reducible refine bs ?_ (by first | exact Nat.le_refl _ | exact Nat.le_add_right _ _ | omega) _) | (with_reducible refine bt ?_ (by assumption))))⟩
theorem holds1_any (c : Cl) (w : World) : Calls Tryd.prog 70 #[.agg #[.int .i64 (c.id), .int .i64 (c.pa), .int .i64 (c.ra), .int .i64 (c.ce), .int .i64 (c.bu), .int .i64 (c.cb), .int .i64 (c.pr), .int .i64 (c.li)]] w fun e w' => e = .returned (.bool (!rok c)) ∧ Below w.heap.size w w' := by
  go_enter Tryd.func70, Tryd.ntmps70
  go_wp2_with fail
  refine (rateRight_any c _).mono ?_
  rintro e w1 ⟨rfl, hb⟩
  go_wp2_with fail
  go_ret
  exact ⟨rfl, bt (ba (b0 w) _) hb⟩
theorem holds2_any (c : Cl) (w : World) : Calls Tryd.prog 74 #[.agg #[.int .i64 (c.id), .int .i64 (c.pa), .int .i64 (c.ra), .int .i64 (c.ce), .int .i64 (c.bu), .int .i64 (c.cb), .int .i64 (c.pr), .int .i64 (c.li)]] w fun e w' => e = .returned (.bool (!bok c)) ∧ Below w.heap.size w w' := by
  go_enter Tryd.func74, Tryd.ntmps74
  go_wp2_with fail
  refine (burstRight_any c _).mono ?_
  rintro e w1 ⟨rfl, hb⟩
  go_wp2_with fail
  go_ret
  exact ⟨rfl, bt (ba (b0 w) _) hb⟩
def cnt (c : Cl) : Bool := decide (c.ra < 0 ∨ 1000000000 < c.ra)
theorem count1_any (c : Cl) (w : World) : Calls Tryd.prog 88 #[.agg #[.int .i64 (c.id), .int .i64 (c.pa), .int .i64 (c.ra), .int .i64 (c.ce), .int .i64 (c.bu), .int .i64 (c.cb), .int .i64 (c.pr), .int .i64 (c.li)]] w fun e w' => e = .returned (.bool (cnt c)) ∧ Below w.heap.size w w' := by
  go_enter Tryd.func88, Tryd.ntmps88
  go_wp2
  all_goals
    go_ret
    exact ⟨ret_b (by rw [Bool.eq_iff_iff]; simp [cnt]; try omega), (by repeat (first | (with_reducible exact b0 _) | (with_reducible refine ba ?_ _) | (with_reducible refine bd ?_ _) | (with_reducible refine Below.drew ?_) | (with_reducible refine bs ?_ (by first | exact Nat.le_refl _ | exact Nat.le_add_right _ _ | omega) _) | (with_reducible refine bt ?_ (by assumption))))⟩
theorem cfFilter_any (x : Fi) (w : World) : Calls Tryd.prog 64 #[.agg #[.int .i64 (x.pr), .int .i64 (x.fi), .int .i64 (x.ma), .int .i64 (x.va), .int .i64 (x.ta)]] w fun e w' => e = .returned (.bool (fok x)) ∧ Below w.heap.size w w' := by
  obtain ⟨q, hq⟩ : ∃ q, q = bits .and .i64 x.va x.ma := ⟨_, rfl⟩
  have HE := Lib.hid (show fok x = decide ((1 ≤ x.pr ∧ x.pr ≤ 99) ∧ (0 ≤ x.fi ∧ x.fi ≤ 3) ∧ (0 ≤ x.ma ∧ x.ma ≤ 65535) ∧ (0 ≤ x.va ∧ x.va ≤ 65535) ∧ q = x.va) by rw [hq]; rfl)
  have hb : bits .and .i64 x.va x.ma = q := hq.symm
  clear hq
  go_enter Tryd.func64, Tryd.ntmps64
  go_wp2_with (go_at_call 43; refine (l1In_any _ _ _ _).mono ?_; rintro e w' ⟨rfl, rfl⟩)
  all_goals
    go_ret
    exact ⟨ret_b (by rw [HE.out, Bool.eq_iff_iff]; simp; try omega), (by repeat (first | (with_reducible exact b0 _) | (with_reducible refine ba ?_ _) | (with_reducible refine bd ?_ _) | (with_reducible refine Below.drew ?_) | (with_reducible refine bs ?_ (by first | exact Nat.le_refl _ | exact Nat.le_add_right _ _ | omega) _) | (with_reducible refine bt ?_ (by assumption))))⟩
theorem filterRight_any (x : Fi) (w : World) : Calls Tryd.prog 91 #[.agg #[.int .i64 (x.pr), .int .i64 (x.fi), .int .i64 (x.ma), .int .i64 (x.va), .int .i64 (x.ta)]] w fun e w' => e = .returned (.bool (fok x)) ∧ Below w.heap.size w w' := by
  obtain ⟨q, hq⟩ : ∃ q, q = bits .andNot .i64 x.va x.ma := ⟨_, rfl⟩
  have HE := Lib.hid (show fok x = decide ((1 ≤ x.pr ∧ x.pr ≤ 99) ∧ (0 ≤ x.fi ∧ x.fi ≤ 3) ∧ (0 ≤ x.ma ∧ x.ma ≤ 65535) ∧ (0 ≤ x.va ∧ x.va ≤ 65535) ∧ q = 0) by
    unfold fok
    rw [Bool.eq_iff_iff, decide_eq_true_eq, decide_eq_true_eq, hq]
    constructor
    · rintro ⟨h1, h2, h3, h4, h5⟩
      exact ⟨h1, h2, h3, h4, (bits_andnot h4 h3).2 h5⟩
    · rintro ⟨h1, h2, h3, h4, h5⟩
      exact ⟨h1, h2, h3, h4, (bits_andnot h4 h3).1 h5⟩)
  have hb : bits .andNot .i64 x.va x.ma = q := hq.symm
  clear hq
  go_enter Tryd.func91, Tryd.ntmps91
  go_wp2
  all_goals
    go_ret
    exact ⟨ret_b (by rw [HE.out, Bool.eq_iff_iff]; simp; try omega), (by repeat (first | (with_reducible exact b0 _) | (with_reducible refine ba ?_ _) | (with_reducible refine bd ?_ _) | (with_reducible refine Below.drew ?_) | (with_reducible refine bs ?_ (by first | exact Nat.le_refl _ | exact Nat.le_add_right _ _ | omega) _) | (with_reducible refine bt ?_ (by assumption))))⟩
end Go.Proofs.YtjajddhedahpnaaDoor
