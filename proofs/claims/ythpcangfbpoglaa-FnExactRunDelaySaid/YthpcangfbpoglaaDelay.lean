/- The contracts of IsDelay and NewDelay: what the call returns; old memory is left as it was. -/
import Derived.Test.YthpcangfbpoglaaRoot
namespace Go.Proofs.Ythpcangfbpoglaa
open Go.ChangeShapes Go.WideShapes Go.ChangeAt Go.RowKit
def dok (t i s c n : Int) : Bool := decide (1 ≤ t ∧ t ≤ 10000 ∧ 1 ≤ i ∧ i ≤ 10000 ∧ -1 ≤ s ∧ s ≤ 110000 ∧ 0 ≤ c ∧ c ≤ 1000 ∧ 0 ≤ n ∧ n ≤ 200000)
theorem dok_iff {t i s c n : Int} : dok t i s c n = true ↔ 1 ≤ t ∧ t ≤ 10000 ∧ 1 ≤ i ∧ i ≤ 10000 ∧ -1 ≤ s ∧ s ≤ 110000 ∧ 0 ≤ c ∧ c ≤ 1000 ∧ 0 ≤ n ∧ n ≤ 200000 := by simp [dok]
theorem toDelay_any (t i s : Int) (d : Bool) (c n : Int) (w : World) :
    Calls Try.prog 5 #[.agg #[.int .i64 t, .int .i64 i, .int .i64 s, .bool d, .int .i64 c, .int .i64 n]] w fun e w' => e = .returned (.agg #[.int .i64 t, .int .i64 i, .int .i64 s, .bool d, .int .i64 c, .int .i64 n]) ∧ Below w.heap.size w w' := by
  go_enter Try.func5, Try.ntmps5
  go_wp2
  exact bodyPost_ret (v := .agg #[.int .i64 t, .int .i64 i, .int .i64 s, .bool d, .int .i64 c, .int .i64 n]) (by simp [results, Try.results5, go_sem]) rfl ⟨rfl, (by repeat (first | (with_reducible exact b0 _) | (with_reducible refine ba ?_ _) | (with_reducible refine bd ?_ _) | (with_reducible refine Below.drew ?_) | (with_reducible refine bs ?_ (by first | exact Nat.le_refl _ | exact Nat.le_add_right _ _ | omega) _) | (with_reducible refine bt ?_ (by assumption))))⟩
theorem cdGood_any (t i s : Int) (d : Bool) (c n : Int) (w : World) :
    Calls Try.prog 11 #[.agg #[.int .i64 t, .int .i64 i, .int .i64 s, .bool d, .int .i64 c, .int .i64 n]] w fun e w' => e = .returned (.bool (dok t i s c n)) ∧ Below w.heap.size w w' := by
  go_enter Try.func11, Try.ntmps11
  go_wp2_with (first | (go_at_call 13; refine (l1In_any _ _ _ _).mono ?_; rintro e w' ⟨rfl, rfl⟩) | (go_at_call 19; refine (cdInterval_any _ _).mono ?_; rintro e w' ⟨rfl, rfl⟩))
  all_goals
    go_ret
    exact ⟨ret_b (by rw [Bool.eq_iff_iff]; simp [dok]; try omega), (by repeat (first | (with_reducible exact b0 _) | (with_reducible refine ba ?_ _) | (with_reducible refine bd ?_ _) | (with_reducible refine Below.drew ?_) | (with_reducible refine bs ?_ (by first | exact Nat.le_refl _ | exact Nat.le_add_right _ _ | omega) _) | (with_reducible refine bt ?_ (by assumption))))⟩
theorem implIsDelay_any (t i s : Int) (d : Bool) (c n : Int) (w : World) :
    Calls Try.prog 15 #[.agg #[.int .i64 t, .int .i64 i, .int .i64 s, .bool d, .int .i64 c, .int .i64 n]] w fun e w' => e = .returned (.bool (dok t i s c n)) ∧ Below w.heap.size w w' := by
  go_enter Try.func15, Try.ntmps15
  go_wp2_with (first | (go_at_call 22; refine (isInterval_any _ _).mono ?_; rintro e w' ⟨rfl, rfl⟩))
  all_goals
    go_ret
    exact ⟨ret_b (by rw [Bool.eq_iff_iff]; simp [dok]; try omega), (by repeat (first | (with_reducible exact b0 _) | (with_reducible refine ba ?_ _) | (with_reducible refine bd ?_ _) | (with_reducible refine Below.drew ?_) | (with_reducible refine bs ?_ (by first | exact Nat.le_refl _ | exact Nat.le_add_right _ _ | omega) _) | (with_reducible refine bt ?_ (by assumption))))⟩
def ndR (t i : Int) : Int × Int × Int × Bool := if dok t i (-1) 0 0 then (t, i, -1, true) else (0, 0, 0, false)
end Go.Proofs.Ythpcangfbpoglaa
