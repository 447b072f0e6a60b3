/- The contracts of WorstWindow. -/
import Derived.Test.YtleknfigikpacaaWorst
namespace Go.Proofs.Ytleknfigikpacaa
open Go.ChangeShapes Go.WideShapes Go.ChangeAt Go.RowKit
set_option linter.unusedVariables false
noncomputable def wwok (l : List Int) (r : Int) (n : Nat) : Bool := decide (0 ≤ r ∧ r ≤ 100000) && sesB l n && decide (n ≠ 0)
noncomputable def wwR (l : List Int) (r : Int) (n : Nat) : Value := if wwok l r n then .tuple #[.int .i64 (outS l r n n).f, .int .i64 (outS l r n n).t, .bool true] else .tuple #[.int .i64 0, .int .i64 0, .bool false]
theorem wwR_no {l : List Int} {r : Int} {n : Nat} (h : wwok l r n = false) : wwR l r n = .tuple #[.int .i64 0, .int .i64 0, .bool false] := by simp [wwR, h]
theorem wwR_yes {l : List Int} {r : Int} {n : Nat} (h : wwok l r n = true) : wwR l r n = .tuple #[.int .i64 (outS l r n n).f, .int .i64 (outS l r n n).t, .bool true] := by simp [wwR, h]
set_option maxHeartbeats 2000000 in
theorem specWorstWindow_any (r : Int) (A : Option Addr) (n cap : Nat) (l : List Int) (w : World) (hl : l.length = n * 2) (hr : IRow w A l) (hn : n ≤ 1099511627776) :
    Calls Try.prog 31 #[.int .i64 r, .slice A n cap] w fun e w' => e = .returned (wwR l r n) ∧ Below w.heap.size w w' := by
  have HL := Lib.hid hl
  have HR := Lib.hid hr
  clear hl hr
  go_enter Try.func31, Try.ntmps31
  rcases hr0 : decide (0 ≤ r ∧ r ≤ 100000) with _ | _
  · have hR := Lib.hid (wwR_no (l := l) (r := r) (n := n) (by simp only [wwok, hr0, Bool.false_and]))
    go_wp2_with (go_at_call 55; refine (buRate_any _ _).mono ?_; rw [hr0]; rintro e w' ⟨rfl, rfl⟩)
    exact bodyPost_ret (v := .tuple #[.int .i64 0, .int .i64 0, .bool false]) (by simp [results, Try.results31, go_sem]) rfl ⟨by rw [hR.out], b0 _⟩
  rcases hs0 : sesB l n with _ | _
  · have hR := Lib.hid (wwR_no (l := l) (r := r) (n := n) (by simp only [wwok, hs0, Bool.false_and, Bool.and_false]))
    go_wp2_with (first | (go_at_call 55; refine (buRate_any _ _).mono ?_; rw [hr0]; rintro e w' ⟨rfl, rfl⟩) | (go_at_call 56; refine (buSends_any _ _ _ _ _ HL.out HR.out hn).mono ?_; rw [hs0]; rintro e w1 ⟨rfl, hg1⟩))
    exact bodyPost_ret (v := .tuple #[.int .i64 0, .int .i64 0, .bool false]) (by simp [results, Try.results31, go_sem]) rfl ⟨by rw [hR.out], hg1⟩
  by_cases h0 : n = 0
  · have hR := Lib.hid (wwR_no (l := l) (r := r) (n := n) (by simp [wwok, h0]))
    subst h0
    go_wp2_with (first | (go_at_call 55; refine (buRate_any _ _).mono ?_; rw [hr0]; rintro e w' ⟨rfl, rfl⟩) | (go_at_call 56; refine (buSends_any _ _ _ _ _ HL.out HR.out hn).mono ?_; rw [hs0]; rintro e w1 ⟨rfl, hg1⟩))
    exact bodyPost_ret (v := .tuple #[.int .i64 0, .int .i64 0, .bool false]) (by simp [results, Try.results31, go_sem]) rfl ⟨by rw [hR.out], hg1⟩
  · have hR := Lib.hid (wwR_yes (l := l) (r := r) (n := n) (by simp only [wwok, hr0, hs0]; simp [h0]))
    have h0' : ¬ (n : Int) = 0 := by omega
    have hx := Lib.hid (sesB_iff.1 hs0)
    have hy := Lib.hid (of_decide_eq_true hr0)
    go_wp2_with (first | (go_at_call 55; refine (buRate_any _ _).mono ?_; rw [hr0]; rintro e w' ⟨rfl, rfl⟩) | (go_at_call 56; refine (buSends_any _ _ _ _ _ HL.out HR.out hn).mono ?_; rw [hs0]; rintro e w1 ⟨rfl, hg1⟩) | (go_at_call 57; refine (buWorst_any _ _ _ _ _ _ HL.out (HR.out.below hg1) hx.out.1 hy.out.1 hy.out.2 hx.out.2).mono ?_; rintro e w2 ⟨rfl, hg2⟩))
    exact bodyPost_ret (v := .tuple #[.int .i64 (outS l r n n).f, .int .i64 (outS l r n n).t, .bool true]) (by simp [results, Try.results31, go_sem]) rfl ⟨by rw [hR.out], bt hg1 hg2⟩
end Go.Proofs.Ytleknfigikpacaa
