/- The contracts of what checks operations. -/
import Derived.Test.YtgcbpooflecbpaaOps
import Derived.Test.YtgcbpooflecbpaaQueue2
import Derived.Deep.RegionHeld3
namespace Go.Proofs.Ytgcbpooflecbpaa
open Go.ChangeShapes Go.WideShapes Go.ChangeAt Go.RowKit
set_option linter.unusedVariables false
theorem isOpTicks_any (a : Int) (w : World) : Calls Try.prog 79 #[.int .i64 a] w fun e w' => e = .returned (.bool (decide (0 ≤ a ∧ a ≤ 10000))) ∧ w = w' := by
  go_enter Try.func79, Try.ntmps79
  go_wp2
  all_goals
    go_ret
    exact ⟨ret_b (by rw [Bool.eq_iff_iff]; simp; try omega), rfl⟩
set_option maxHeartbeats 1000000 in
theorem isOp_b {b : Bool} (o : Oq) (w : World) (h : o.ok = b) : Calls Try.prog 52 #[.agg #[.int .i64 o.kd, .int .i64 o.p.id, .int .i64 o.p.so, .int .i64 o.p.de, .int .i64 o.p.po, .int .i64 o.p.ma, .int .i64 o.p.si, .int .i64 o.tk]] w fun e w' => e = .returned (.bool b) ∧ Below w.heap.size w w' := by
  subst h
  by_cases h1 : o.kd = 1
  · have e1 : (o.kd == 1) = true := by simpa using h1
    have hR := Lib.hid (show o.ok = (o.p.ok && decide (o.tk = 0)) by rw [Oq.ok, if_pos h1])
    clear h1
    rcases hp : o.p.ok with _ | _
    · go_enter Try.func52, Try.ntmps52
      go_wp2_with (go_at_call 78; refine (isPacket_b hp _).mono ?_; rintro e w1 ⟨rfl, hg⟩; have zhg := hg.size; (try simp at zhg); have c0hg := fun o => bkeep hg (w.heap.size) o (by first | omega | (simp; done) | (simp; omega)); have f0hg := fun o => bfree hg (w.heap.size) o (by first | omega | (simp; done) | (simp; omega)))
      go_ret
      exact ⟨by rw [hR.out, hp]; rfl, (by repeat (first | (with_reducible exact b0 _) | (with_reducible refine ba ?_ _) | (with_reducible refine bd ?_ _) | (with_reducible refine Below.drew ?_) | (with_reducible refine bs ?_ (by first | exact Nat.le_refl _ | exact Nat.le_add_right _ _ | omega) _) | (with_reducible refine bt ?_ (by assumption))))⟩
    · go_enter Try.func52, Try.ntmps52
      go_wp2_with (go_at_call 78; refine (isPacket_b hp _).mono ?_; rintro e w1 ⟨rfl, hg⟩; have zhg := hg.size; (try simp at zhg); have c0hg := fun o => bkeep hg (w.heap.size) o (by first | omega | (simp; done) | (simp; omega)); have f0hg := fun o => bfree hg (w.heap.size) o (by first | omega | (simp; done) | (simp; omega)))
      go_ret
      exact ⟨ret_b (by rw [hR.out, hp, Bool.true_and, Bool.eq_iff_iff]; simp), (by repeat (first | (with_reducible exact b0 _) | (with_reducible refine ba ?_ _) | (with_reducible refine bd ?_ _) | (with_reducible refine Below.drew ?_) | (with_reducible refine bs ?_ (by first | exact Nat.le_refl _ | exact Nat.le_add_right _ _ | omega) _) | (with_reducible refine bt ?_ (by assumption))))⟩
  have e1 : (o.kd == 1) = false := by simpa using h1
  by_cases h2 : o.kd = 2
  · have e2 : (o.kd == 2) = true := by simpa using h2
    have hR := Lib.hid (show o.ok = (o.p.nil && decide (0 ≤ o.tk ∧ o.tk ≤ 10000)) by rw [Oq.ok, if_neg h1, if_pos h2])
    clear h1 h2
    go_enter Try.func52, Try.ntmps52
    go_wp2_with fail
    all_goals first
      | (refine (isOpTicks_any _ _).mono ?_; rintro e w' ⟨rfl, rfl⟩; go_wp2_with fail; go_ret; exact ⟨ret_b (by rw [hR.out]; simp [Pk.nil, *]), (by repeat (first | (with_reducible exact b0 _) | (with_reducible refine ba ?_ _) | (with_reducible refine bd ?_ _) | (with_reducible refine Below.drew ?_) | (with_reducible refine bs ?_ (by first | exact Nat.le_refl _ | exact Nat.le_add_right _ _ | omega) _) | (with_reducible refine bt ?_ (by assumption))))⟩)
      | (go_ret; exact ⟨ret_b (by rw [hR.out]; simp [Pk.nil, *]), (by repeat (first | (with_reducible exact b0 _) | (with_reducible refine ba ?_ _) | (with_reducible refine bd ?_ _) | (with_reducible refine Below.drew ?_) | (with_reducible refine bs ?_ (by first | exact Nat.le_refl _ | exact Nat.le_add_right _ _ | omega) _) | (with_reducible refine bt ?_ (by assumption))))⟩)
  have e2 : (o.kd == 2) = false := by simpa using h2
  by_cases h3 : o.kd = 3
  · have e3 : (o.kd == 3) = true := by simpa using h3
    have hR := Lib.hid (show o.ok = (o.p.nil && decide (o.tk = 0)) by rw [Oq.ok, if_neg h1, if_neg h2, if_pos h3])
    clear h1 h2 h3
    go_enter Try.func52, Try.ntmps52
    go_wp2_with fail
    all_goals (go_ret; exact ⟨ret_b (by rw [hR.out, Bool.eq_iff_iff]; simp [Pk.nil, *]), (by repeat (first | (with_reducible exact b0 _) | (with_reducible refine ba ?_ _) | (with_reducible refine bd ?_ _) | (with_reducible refine Below.drew ?_) | (with_reducible refine bs ?_ (by first | exact Nat.le_refl _ | exact Nat.le_add_right _ _ | omega) _) | (with_reducible refine bt ?_ (by assumption))))⟩)
  · have e3 : (o.kd == 3) = false := by simpa using h3
    have hR := Lib.hid (show o.ok = false by rw [Oq.ok, if_neg h1, if_neg h2, if_neg h3])
    clear h1 h2 h3
    go_enter Try.func52, Try.ntmps52
    go_wp2_with fail
    go_ret
    exact ⟨ret_b (by rw [hR.out]), (by repeat (first | (with_reducible exact b0 _) | (with_reducible refine ba ?_ _) | (with_reducible refine bd ?_ _) | (with_reducible refine Below.drew ?_) | (with_reducible refine bs ?_ (by first | exact Nat.le_refl _ | exact Nat.le_add_right _ _ | omega) _) | (with_reducible refine bt ?_ (by assumption))))⟩
end Go.Proofs.Ytgcbpooflecbpaa
