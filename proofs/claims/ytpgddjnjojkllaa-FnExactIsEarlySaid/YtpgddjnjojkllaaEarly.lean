/- The contracts of the functions of the early-drop chapter that only compute. Each says what the call returns for the given arguments; old memory is left as it was. No condition but those named in each. -/
import Derived.Test.YtpgddjnjojkllaaRows
import Derived.Test.YtpgddjnjojkllaaBase
namespace Go.Proofs.Ytpgddjnjojkllaa
open Go.ChangeShapes Go.WideShapes Go.ChangeAt Go.RowKit

def good (lo hi we mo : Int) : Bool := decide (0 ≤ lo ∧ lo < hi ∧ hi ≤ 60 ∧ 1 ≤ we ∧ we ≤ 256 ∧ 1 ≤ mo ∧ mo ≤ 1000)
theorem good_iff {lo hi we mo : Int} : good lo hi we mo = true ↔ 0 ≤ lo ∧ lo < hi ∧ hi ≤ 60 ∧ 1 ≤ we ∧ we ≤ 256 ∧ 1 ≤ mo ∧ mo ≤ 1000 := by simp [good]
theorem toEarly_any (a b c d : Int) (w : World) :
    Calls Try.prog 15 #[.agg #[.int .i64 a, .int .i64 b, .int .i64 c, .int .i64 d]] w fun e w' => e = .returned (.agg #[.int .i64 a, .int .i64 b, .int .i64 c, .int .i64 d]) ∧ Below w.heap.size w w' := by
  go_enter Try.func15, Try.ntmps15
  go_wp2
  refine bodyPost_ret (v := .agg #[.int .i64 a, .int .i64 b, .int .i64 c, .int .i64 d]) (by simp [results, Try.results15, go_sem]) rfl ⟨rfl, ?_⟩
  exact (((Below.refl _ _).alloc (Nat.le_refl _) _).alloc (by simp) _).alloc (by simp; omega) _
theorem l1In_any (a b c : Int) (w : World) :
    Calls Try.prog 43 #[.int .i64 a, .int .i64 b, .int .i64 c] w fun e w' => e = .returned (.bool (decide (b ≤ a ∧ a ≤ c))) ∧ w = w' := by
  go_enter Try.func43, Try.ntmps43
  go_wp2
  all_goals
    go_ret
    exact ⟨ret_b (by rw [Bool.eq_iff_iff]; simp; try omega), rfl⟩
theorem rdGood_any (a b c d : Int) (w : World) :
    Calls Try.prog 41 #[.agg #[.int .i64 a, .int .i64 b, .int .i64 c, .int .i64 d]] w fun e w' => e = .returned (.bool (good a b c d)) ∧ Below w.heap.size w w' := by
  go_enter Try.func41, Try.ntmps41
  go_wp2_with (go_at_call 43; refine (l1In_any _ _ _ _).mono ?_; rintro e w' ⟨rfl, rfl⟩)
  all_goals
    go_ret
    exact ⟨ret_b (by rw [Bool.eq_iff_iff]; simp [good]; try omega), by exact (Below.refl _ _).alloc (Nat.le_refl _) _⟩
theorem specIsEarly_any (a b c d : Int) (w : World) :
    Calls Try.prog 14 #[.agg #[.int .i64 a, .int .i64 b, .int .i64 c, .int .i64 d]] w fun e w' => e = .returned (.bool (good a b c d)) ∧ Below w.heap.size w w' := by
  go_enter Try.func14, Try.ntmps14
  go_wp2_with fail
  refine (rdGood_any _ _ _ _ _).mono ?_
  rintro e w1 ⟨rfl, hb⟩
  go_wp2
  go_ret
  exact ⟨rfl, ((Below.refl _ _).alloc (Nat.le_refl _) _).trans (hb.mono (by simp))⟩
theorem implIsEarly_any (a b c d : Int) (w : World) :
    Calls Try.prog 16 #[.agg #[.int .i64 a, .int .i64 b, .int .i64 c, .int .i64 d]] w fun e w' => e = .returned (.bool (good a b c d)) ∧ Below w.heap.size w w' := by
  go_enter Try.func16, Try.ntmps16
  go_wp2
  all_goals
    go_ret
    exact ⟨ret_b (by rw [Bool.eq_iff_iff]; simp [good]; try omega), by exact (Below.refl _ _).alloc (Nat.le_refl _) _⟩
end Go.Proofs.Ytpgddjnjojkllaa
