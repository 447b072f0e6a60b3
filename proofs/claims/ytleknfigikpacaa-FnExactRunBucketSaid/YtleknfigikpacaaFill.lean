/- The contracts of FillBucket: what the call returns; old memory is left as it was. -/
import Derived.Test.YtleknfigikpacaaBucket
namespace Go.Proofs.Ytleknfigikpacaa
open Go.ChangeShapes Go.WideShapes Go.ChangeAt Go.RowKit
def least (a b : Int) : Int := if a < b then a else b
theorem mul_bound {r n : Int} (h1 : 0 ≤ r) (h2 : r ≤ 100000) (h3 : 0 ≤ n) (h4 : n ≤ 100000) : 0 ≤ r * n ∧ r * n ≤ 10000000000 :=
  ⟨Int.mul_nonneg h1 h3, by have := Int.mul_le_mul h2 h4 h3 (by omega : (0 : Int) ≤ 100000); omega⟩
theorem l1Least_any (a b : Int) (w : World) : Calls Try.prog 68 #[.int .i64 a, .int .i64 b] w fun e w' => e = .returned (.int .i64 (least a b)) ∧ w = w' := by
  by_cases h : a < b
  · have hR := Lib.hid (show least a b = a by simp [least, h])
    go_enter Try.func68, Try.ntmps68
    go_wp2
    go_ret
    exact ⟨by rw [hR.out]; rfl, rfl⟩
  · have hR := Lib.hid (show least a b = b by simp [least, h])
    go_enter Try.func68, Try.ntmps68
    go_wp2
    go_ret
    exact ⟨by rw [hR.out]; rfl, rfl⟩
theorem filled_any (t r c n : Int) (w : World) (h1 : 0 ≤ r) (h2 : r ≤ 100000) (h3 : 0 ≤ n) (h4 : n ≤ 100000) (h5 : 0 ≤ t) (h6 : t ≤ 1000000) :
    Calls Try.prog 54 #[.int .i64 t, .int .i64 r, .int .i64 c, .int .i64 n] w fun e w' => e = .returned (.int .i64 (least c (t + r * n))) ∧ w = w' := by
  have hm := mul_bound h1 h2 h3 h4
  by_cases h : c < t + r * n
  · have hR := Lib.hid (show least c (t + r * n) = c by simp [least, h])
    go_enter Try.func54, Try.ntmps54
    go_wp2
    go_ret
    exact ⟨by rw [hR.out]; rfl, rfl⟩
  · have hR := Lib.hid (show least c (t + r * n) = t + r * n by simp [least, h])
    go_enter Try.func54, Try.ntmps54
    go_wp2
    all_goals
      go_ret
      refine ⟨ret_i ?_, rfl⟩
      have := hR.out
      omega
theorem buFill_any (r c t n : Int) (w : World) (h1 : 0 ≤ r) (h2 : r ≤ 100000) (h3 : 0 ≤ n) (h4 : n ≤ 100000) (h5 : 0 ≤ t) (h6 : t ≤ 1000000) :
    Calls Try.prog 52 #[.agg #[.int .i64 r, .int .i64 c, .int .i64 t], .int .i64 n] w fun e w' => e = .returned (.agg #[.int .i64 r, .int .i64 c, .int .i64 (least c (t + r * n))]) ∧ Below w.heap.size w w' := by
  have hm := mul_bound h1 h2 h3 h4
  go_enter Try.func52, Try.ntmps52
  go_wp2_with (go_at_call 68; refine (l1Least_any _ _ _).mono ?_; rintro e w' ⟨rfl, rfl⟩)
  exact bodyPost_ret (v := .agg #[.int .i64 r, .int .i64 c, .int .i64 (least c (t + r * n))]) (by simp [results, Try.results52, go_sem]) rfl ⟨rfl, (by repeat (first | (with_reducible exact b0 _) | (with_reducible refine ba ?_ _) | (with_reducible refine bd ?_ _) | (with_reducible refine Below.drew ?_) | (with_reducible refine bs ?_ (by first | exact Nat.le_refl _ | exact Nat.le_add_right _ _ | omega) _) | (with_reducible refine bt ?_ (by assumption))))⟩
def fiR (r c t n : Int) : Int × Int × Int × Bool := if bok r c t && tok n then (r, c, least c (t + r * n), true) else (0, 0, 0, false)
theorem specFillBucket_any (r c t n : Int) (w : World) :
    Calls Try.prog 28 #[.agg #[.int .i64 r, .int .i64 c, .int .i64 t], .int .i64 n] w fun e w' => e = .returned (.tuple #[.agg #[.int .i64 (fiR r c t n).1, .int .i64 (fiR r c t n).2.1, .int .i64 (fiR r c t n).2.2.1], .bool (fiR r c t n).2.2.2]) ∧ Below w.heap.size w w' := by
  rcases h1 : bok r c t with _ | _
  · have hR := Lib.hid (show fiR r c t n = (0, 0, 0, false) by simp [fiR, h1])
    have G := Lib.hid (show tok n = decide (0 ≤ n ∧ n ≤ 100000) from rfl)
    go_enter Try.func28, Try.ntmps28
    go_wp2_with (first | (go_at_call 45; refine (buGood_any _ _ _ _).mono ?_; rintro e w1 ⟨rfl, hg⟩; have zhg := hg.size; (try simp at zhg); have c0hg := fun o => bkeep hg (w.heap.size) o (by first | omega | (simp; done) | (simp; omega)); have f0hg := fun o => bfree hg (w.heap.size) o (by first | omega | (simp; done) | (simp; omega)); have c1hg := fun o => bkeep hg (w.heap.size + 1) o (by first | omega | (simp; done) | (simp; omega)); have f1hg := fun o => bfree hg (w.heap.size + 1) o (by first | omega | (simp; done) | (simp; omega))) | (go_at_call 51; refine (l1In_any _ _ _ _).mono ?_; rintro e w' ⟨rfl, rfl⟩; rw [← G.out]))
    exact bodyPost_ret (v := .tuple #[.agg #[.int .i64 0, .int .i64 0, .int .i64 0], .bool false]) (by simp [results, Try.results28, go_sem, c1hg]) rfl ⟨by rw [hR.out], (by repeat (first | (with_reducible exact b0 _) | (with_reducible refine ba ?_ _) | (with_reducible refine bd ?_ _) | (with_reducible refine Below.drew ?_) | (with_reducible refine bs ?_ (by first | exact Nat.le_refl _ | exact Nat.le_add_right _ _ | omega) _) | (with_reducible refine bt ?_ (by assumption))))⟩
  rcases h2 : tok n with _ | _
  · have hR := Lib.hid (show fiR r c t n = (0, 0, 0, false) by simp [fiR, h1, h2])
    have G := Lib.hid (show tok n = decide (0 ≤ n ∧ n ≤ 100000) from rfl)
    go_enter Try.func28, Try.ntmps28
    go_wp2_with (first | (go_at_call 45; refine (buGood_any _ _ _ _).mono ?_; rintro e w1 ⟨rfl, hg⟩; have zhg := hg.size; (try simp at zhg); have c0hg := fun o => bkeep hg (w.heap.size) o (by first | omega | (simp; done) | (simp; omega)); have f0hg := fun o => bfree hg (w.heap.size) o (by first | omega | (simp; done) | (simp; omega)); have c1hg := fun o => bkeep hg (w.heap.size + 1) o (by first | omega | (simp; done) | (simp; omega)); have f1hg := fun o => bfree hg (w.heap.size + 1) o (by first | omega | (simp; done) | (simp; omega))) | (go_at_call 51; refine (l1In_any _ _ _ _).mono ?_; rintro e w' ⟨rfl, rfl⟩; rw [← G.out]))
    exact bodyPost_ret (v := .tuple #[.agg #[.int .i64 0, .int .i64 0, .int .i64 0], .bool false]) (by simp [results, Try.results28, go_sem, c1hg]) rfl ⟨by rw [hR.out], (by repeat (first | (with_reducible exact b0 _) | (with_reducible refine ba ?_ _) | (with_reducible refine bd ?_ _) | (with_reducible refine Below.drew ?_) | (with_reducible refine bs ?_ (by first | exact Nat.le_refl _ | exact Nat.le_add_right _ _ | omega) _) | (with_reducible refine bt ?_ (by assumption))))⟩
  have hR := Lib.hid (show fiR r c t n = (r, c, least c (t + r * n), true) by simp [fiR, h1, h2])
  have g := bok_iff.1 h1
  have g2 := tok_iff.1 h2
  go_enter Try.func28, Try.ntmps28
  go_wp2_with (first | (go_at_call 45; refine (buGood_any _ _ _ _).mono ?_; rintro e w1 ⟨rfl, hg⟩; have zhg := hg.size; (try simp at zhg); have c0hg := fun o => bkeep hg (w.heap.size) o (by first | omega | (simp; done) | (simp; omega)); have f0hg := fun o => bfree hg (w.heap.size) o (by first | omega | (simp; done) | (simp; omega)); have c1hg := fun o => bkeep hg (w.heap.size + 1) o (by first | omega | (simp; done) | (simp; omega)); have f1hg := fun o => bfree hg (w.heap.size + 1) o (by first | omega | (simp; done) | (simp; omega))) | (go_at_call 51; refine (l1In_any _ _ _ _).mono ?_; rintro e w' ⟨rfl, rfl⟩))
  refine (buFill_any _ _ _ _ _ (by omega) (by omega) (by omega) (by omega) (by omega) (by omega)).mono ?_
  rintro e w2 ⟨rfl, hw⟩
  have zhw := hw.size; (try simp at zhw); have c1hw := fun o => bkeep hw (w.heap.size + 1) o (by first | omega | (simp; done) | (simp; omega)); have f1hw := fun o => bfree hw (w.heap.size + 1) o (by first | omega | (simp; done) | (simp; omega))
  go_wp2
  exact bodyPost_ret (v := .tuple #[.agg #[.int .i64 r, .int .i64 c, .int .i64 (least c (t + r * n))], .bool true]) (by simp [results, Try.results28, go_sem, c1hg, c1hw]) rfl ⟨by rw [hR.out], (by repeat (first | (with_reducible exact b0 _) | (with_reducible refine ba ?_ _) | (with_reducible refine bd ?_ _) | (with_reducible refine Below.drew ?_) | (with_reducible refine bs ?_ (by first | exact Nat.le_refl _ | exact Nat.le_add_right _ _ | omega) _) | (with_reducible refine bt ?_ (by assumption))))⟩
theorem implFillBucket_any (r c t n : Int) (w : World) :
    Calls Try.prog 29 #[.agg #[.int .i64 r, .int .i64 c, .int .i64 t], .int .i64 n] w fun e w' => e = .returned (.tuple #[.agg #[.int .i64 (fiR r c t n).1, .int .i64 (fiR r c t n).2.1, .int .i64 (fiR r c t n).2.2.1], .bool (fiR r c t n).2.2.2]) ∧ Below w.heap.size w w' := by
  rcases h1 : bok r c t with _ | _
  · have hR := Lib.hid (show fiR r c t n = (0, 0, 0, false) by simp [fiR, h1])
    go_enter Try.func29, Try.ntmps29
    go_wp2_with (first | (go_at_call 16; refine (implIsBucket_any _ _ _ _).mono ?_; rintro e w1 ⟨rfl, hg⟩; have zhg := hg.size; (try simp at zhg); have c0hg := fun o => bkeep hg (w.heap.size) o (by first | omega | (simp; done) | (simp; omega)); have f0hg := fun o => bfree hg (w.heap.size) o (by first | omega | (simp; done) | (simp; omega)); have c1hg := fun o => bkeep hg (w.heap.size + 1) o (by first | omega | (simp; done) | (simp; omega)); have f1hg := fun o => bfree hg (w.heap.size + 1) o (by first | omega | (simp; done) | (simp; omega))) | (go_at_call 53; refine (isTicks_any _ _).mono ?_; rintro e w' ⟨rfl, rfl⟩))
    exact bodyPost_ret (v := .tuple #[.agg #[.int .i64 0, .int .i64 0, .int .i64 0], .bool false]) (by simp [results, Try.results29, go_sem, c1hg]) rfl ⟨by rw [hR.out], (by repeat (first | (with_reducible exact b0 _) | (with_reducible refine ba ?_ _) | (with_reducible refine bd ?_ _) | (with_reducible refine Below.drew ?_) | (with_reducible refine bs ?_ (by first | exact Nat.le_refl _ | exact Nat.le_add_right _ _ | omega) _) | (with_reducible refine bt ?_ (by assumption))))⟩
  rcases h2 : tok n with _ | _
  · have hR := Lib.hid (show fiR r c t n = (0, 0, 0, false) by simp [fiR, h1, h2])
    go_enter Try.func29, Try.ntmps29
    go_wp2_with (first | (go_at_call 16; refine (implIsBucket_any _ _ _ _).mono ?_; rintro e w1 ⟨rfl, hg⟩; have zhg := hg.size; (try simp at zhg); have c0hg := fun o => bkeep hg (w.heap.size) o (by first | omega | (simp; done) | (simp; omega)); have f0hg := fun o => bfree hg (w.heap.size) o (by first | omega | (simp; done) | (simp; omega)); have c1hg := fun o => bkeep hg (w.heap.size + 1) o (by first | omega | (simp; done) | (simp; omega)); have f1hg := fun o => bfree hg (w.heap.size + 1) o (by first | omega | (simp; done) | (simp; omega))) | (go_at_call 53; refine (isTicks_any _ _).mono ?_; rintro e w' ⟨rfl, rfl⟩))
    exact bodyPost_ret (v := .tuple #[.agg #[.int .i64 0, .int .i64 0, .int .i64 0], .bool false]) (by simp [results, Try.results29, go_sem, c1hg]) rfl ⟨by rw [hR.out], (by repeat (first | (with_reducible exact b0 _) | (with_reducible refine ba ?_ _) | (with_reducible refine bd ?_ _) | (with_reducible refine Below.drew ?_) | (with_reducible refine bs ?_ (by first | exact Nat.le_refl _ | exact Nat.le_add_right _ _ | omega) _) | (with_reducible refine bt ?_ (by assumption))))⟩
  have hR := Lib.hid (show fiR r c t n = (r, c, least c (t + r * n), true) by simp [fiR, h1, h2])
  have g := bok_iff.1 h1
  have g2 := tok_iff.1 h2
  go_enter Try.func29, Try.ntmps29
  go_wp2_with (first | (go_at_call 16; refine (implIsBucket_any _ _ _ _).mono ?_; rintro e w1 ⟨rfl, hg⟩; have zhg := hg.size; (try simp at zhg); have c0hg := fun o => bkeep hg (w.heap.size) o (by first | omega | (simp; done) | (simp; omega)); have f0hg := fun o => bfree hg (w.heap.size) o (by first | omega | (simp; done) | (simp; omega)); have c1hg := fun o => bkeep hg (w.heap.size + 1) o (by first | omega | (simp; done) | (simp; omega)); have f1hg := fun o => bfree hg (w.heap.size + 1) o (by first | omega | (simp; done) | (simp; omega))) | (go_at_call 53; refine (isTicks_any _ _).mono ?_; rintro e w' ⟨rfl, rfl⟩) | (go_at_call 54; refine (filled_any _ _ _ _ _ (by omega) (by omega) (by omega) (by omega) (by omega) (by omega)).mono ?_; rintro e w' ⟨rfl, rfl⟩))
  exact bodyPost_ret (v := .tuple #[.agg #[.int .i64 r, .int .i64 c, .int .i64 (least c (t + r * n))], .bool true]) (by simp [results, Try.results29, go_sem, c1hg]) rfl ⟨by rw [hR.out], (by repeat (first | (with_reducible exact b0 _) | (with_reducible refine ba ?_ _) | (with_reducible refine bd ?_ _) | (with_reducible refine Below.drew ?_) | (with_reducible refine bs ?_ (by first | exact Nat.le_refl _ | exact Nat.le_add_right _ _ | omega) _) | (with_reducible refine bt ?_ (by assumption))))⟩
end Go.Proofs.Ytleknfigikpacaa
