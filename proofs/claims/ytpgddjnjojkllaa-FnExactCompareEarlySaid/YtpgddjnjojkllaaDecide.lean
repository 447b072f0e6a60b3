/- The contracts of CompareEarly and DecideEarly: what the call returns; old memory is left as it was. -/
import Derived.Test.YtpgddjnjojkllaaChance
namespace Go.Proofs.Ytpgddjnjojkllaa
open Go.ChangeShapes Go.WideShapes Go.ChangeAt Go.RowKit
def sgn (x y : Int) : Int := if x < y then -1 else if y < x then 1 else 0
theorem l1Sign_any (x y : Int) (w : World) : Calls Try.prog 61 #[.int .i64 (x - y)] w fun e w' => e = .returned (.int .i64 (sgn x y)) ∧ w = w' := by
  by_cases h : x < y
  · have hR := Lib.hid (show sgn x y = -1 by simp [sgn, h])
    go_enter Try.func61, Try.ntmps61
    go_wp2
    go_ret
    exact ⟨by rw [hR.out]; rfl, rfl⟩
  by_cases h' : y < x
  · have hR := Lib.hid (show sgn x y = 1 by simp [sgn, h, h'])
    go_enter Try.func61, Try.ntmps61
    go_wp2
    go_ret
    exact ⟨by rw [hR.out]; rfl, rfl⟩
  · have hR := Lib.hid (show sgn x y = 0 by simp [sgn, h, h'])
    go_enter Try.func61, Try.ntmps61
    go_wp2
    go_ret
    exact ⟨by rw [hR.out]; rfl, rfl⟩
theorem compareInts_any (x y : Int) (w : World) : Calls Try.prog 62 #[.int .i64 x, .int .i64 y] w fun e w' => e = .returned (.int .i64 (sgn x y)) ∧ w = w' := by
  by_cases h : x < y
  · have hR := Lib.hid (show sgn x y = -1 by simp [sgn, h])
    go_enter Try.func62, Try.ntmps62
    go_wp2
    go_ret
    exact ⟨by rw [hR.out]; rfl, rfl⟩
  by_cases h' : y < x
  · have hR := Lib.hid (show sgn x y = 1 by simp [sgn, h, h'])
    go_enter Try.func62, Try.ntmps62
    go_wp2
    go_ret
    exact ⟨by rw [hR.out]; rfl, rfl⟩
  · have hR := Lib.hid (show sgn x y = 0 by simp [sgn, h, h'])
    go_enter Try.func62, Try.ntmps62
    go_wp2
    go_ret
    exact ⟨by rw [hR.out]; rfl, rfl⟩
def ceR (lo hi we mo lo' hi' we' mo' av : Int) : Int × Bool :=
  if good lo hi we mo && good lo' hi' we' mo' && isAv av then (sgn ((chance lo hi mo av 0).1 * (chance lo' hi' mo' av 0).2) ((chance lo' hi' mo' av 0).1 * (chance lo hi mo av 0).2), true) else (0, false)
theorem cmul_bound {a b : Int} (h1 : 0 ≤ a) (h2 : a ≤ 15360000) (h3 : 1 ≤ b) (h4 : b ≤ 15360000) : 0 ≤ a * b ∧ a * b ≤ 235929600000000 := by
  refine ⟨Int.mul_nonneg h1 (by omega), ?_⟩
  have := Int.mul_le_mul (a := a) (b := b) (c := 15360000) (d := 15360000) h2 h4 (by omega) (by omega)
  omega
theorem specCompareEarly_any (lo hi we mo lo' hi' we' mo' av : Int) (w : World) :
    Calls Try.prog 31 #[.agg #[.int .i64 lo, .int .i64 hi, .int .i64 we, .int .i64 mo], .agg #[.int .i64 lo', .int .i64 hi', .int .i64 we', .int .i64 mo'], .int .i64 av] w fun e w' => e = .returned (.tuple #[.int .i64 (ceR lo hi we mo lo' hi' we' mo' av).1, .bool (ceR lo hi we mo lo' hi' we' mo' av).2]) ∧ Below w.heap.size w w' := by
  rcases h1 : good lo hi we mo with _ | _
  · have hR := Lib.hid (show ceR lo hi we mo lo' hi' we' mo' av = (0, false) by simp [ceR, h1])
    go_enter Try.func31, Try.ntmps31
    go_wp2_with fail
    refine (rdGood_any _ _ _ _ _).mono ?_
    rintro e w1 ⟨rfl, hg⟩
    have zhg := hg.size; (try simp at zhg); have c0hg := fun o => bkeep hg (w.heap.size) o (by first | omega | (simp; done) | (simp; omega)); have f0hg := fun o => bfree hg (w.heap.size) o (by first | omega | (simp; done) | (simp; omega)); have c1hg := fun o => bkeep hg (w.heap.size + 1) o (by first | omega | (simp; done) | (simp; omega)); have f1hg := fun o => bfree hg (w.heap.size + 1) o (by first | omega | (simp; done) | (simp; omega))
    go_wp2_with (first | (go_at_call 41; refine (rdGood_any _ _ _ _ _).mono ?_; rintro e w2 ⟨rfl, hg2⟩) | (go_at_call 42; refine (rdAverage_any _ _).mono ?_; rintro e w' ⟨rfl, rfl⟩))
    go_ret2
    exact ⟨by rw [hR.out]; rfl, (by repeat (first | (with_reducible exact b0 _) | (with_reducible refine ba ?_ _) | (with_reducible refine bd ?_ _) | (with_reducible refine Below.drew ?_) | (with_reducible refine bs ?_ (by first | exact Nat.le_refl _ | exact Nat.le_add_right _ _ | omega) _) | (with_reducible refine bt ?_ (by assumption))))⟩
  rcases h2 : good lo' hi' we' mo' with _ | _
  · have hR := Lib.hid (show ceR lo hi we mo lo' hi' we' mo' av = (0, false) by simp [ceR, h1, h2])
    go_enter Try.func31, Try.ntmps31
    go_wp2_with fail
    refine (rdGood_any _ _ _ _ _).mono ?_
    rintro e w1 ⟨rfl, hg⟩
    have zhg := hg.size; (try simp at zhg); have c0hg := fun o => bkeep hg (w.heap.size) o (by first | omega | (simp; done) | (simp; omega)); have f0hg := fun o => bfree hg (w.heap.size) o (by first | omega | (simp; done) | (simp; omega)); have c1hg := fun o => bkeep hg (w.heap.size + 1) o (by first | omega | (simp; done) | (simp; omega)); have f1hg := fun o => bfree hg (w.heap.size + 1) o (by first | omega | (simp; done) | (simp; omega))
    go_wp2_with (first | (go_at_call 41; refine (rdGood_any _ _ _ _ _).mono ?_; rintro e w2 ⟨rfl, hg2⟩) | (go_at_call 42; refine (rdAverage_any _ _).mono ?_; rintro e w' ⟨rfl, rfl⟩))
    go_ret2
    exact ⟨by rw [hR.out]; rfl, (by repeat (first | (with_reducible exact b0 _) | (with_reducible refine ba ?_ _) | (with_reducible refine bd ?_ _) | (with_reducible refine Below.drew ?_) | (with_reducible refine bs ?_ (by first | exact Nat.le_refl _ | exact Nat.le_add_right _ _ | omega) _) | (with_reducible refine bt ?_ (by assumption))))⟩
  rcases h3 : isAv av with _ | _
  · have hR := Lib.hid (show ceR lo hi we mo lo' hi' we' mo' av = (0, false) by simp [ceR, h1, h2, h3])
    go_enter Try.func31, Try.ntmps31
    go_wp2_with fail
    refine (rdGood_any _ _ _ _ _).mono ?_
    rintro e w1 ⟨rfl, hg⟩
    have zhg := hg.size; (try simp at zhg); have c0hg := fun o => bkeep hg (w.heap.size) o (by first | omega | (simp; done) | (simp; omega)); have f0hg := fun o => bfree hg (w.heap.size) o (by first | omega | (simp; done) | (simp; omega)); have c1hg := fun o => bkeep hg (w.heap.size + 1) o (by first | omega | (simp; done) | (simp; omega)); have f1hg := fun o => bfree hg (w.heap.size + 1) o (by first | omega | (simp; done) | (simp; omega))
    go_wp2_with (first | (go_at_call 41; refine (rdGood_any _ _ _ _ _).mono ?_; rintro e w2 ⟨rfl, hg2⟩) | (go_at_call 42; refine (rdAverage_any _ _).mono ?_; rintro e w' ⟨rfl, rfl⟩))
    go_ret2
    exact ⟨by rw [hR.out]; rfl, (by repeat (first | (with_reducible exact b0 _) | (with_reducible refine ba ?_ _) | (with_reducible refine bd ?_ _) | (with_reducible refine Below.drew ?_) | (with_reducible refine bs ?_ (by first | exact Nat.le_refl _ | exact Nat.le_add_right _ _ | omega) _) | (with_reducible refine bt ?_ (by assumption))))⟩
  have hR := Lib.hid (show ceR lo hi we mo lo' hi' we' mo' av = (sgn ((chance lo hi mo av 0).1 * (chance lo' hi' mo' av 0).2) ((chance lo' hi' mo' av 0).1 * (chance lo hi mo av 0).2), true) by simp [ceR, h1, h2, h3])
  have g := good_iff.1 h1
  have g' := good_iff.1 h2
  have g2 : 0 ≤ av ∧ av ≤ 15360 := by simpa [isAv] using h3
  have cb := chance_bound (lo := lo) (hi := hi) (mo := mo) (av := av) (si := 0) (by omega) (by omega) (by omega) (by omega) (by omega) (by omega) (by omega) (by omega) (by omega)
  have cb' := chance_bound (lo := lo') (hi := hi') (mo := mo') (av := av) (si := 0) (by omega) (by omega) (by omega) (by omega) (by omega) (by omega) (by omega) (by omega) (by omega)
  have m1 := cmul_bound cb.1 cb.2.1 cb'.2.2.1 cb'.2.2.2
  have m2 := cmul_bound cb'.1 cb'.2.1 cb.2.2.1 cb.2.2.2
  go_enter Try.func31, Try.ntmps31
  go_wp2_with fail
  refine (rdGood_any _ _ _ _ _).mono ?_
  rintro e w1 ⟨rfl, hg⟩
  have zhg := hg.size; (try simp at zhg); have c0hg := fun o => bkeep hg (w.heap.size) o (by first | omega | (simp; done) | (simp; omega)); have f0hg := fun o => bfree hg (w.heap.size) o (by first | omega | (simp; done) | (simp; omega)); have c1hg := fun o => bkeep hg (w.heap.size + 1) o (by first | omega | (simp; done) | (simp; omega)); have f1hg := fun o => bfree hg (w.heap.size + 1) o (by first | omega | (simp; done) | (simp; omega))
  go_wp2_with (first | (go_at_call 41; refine (rdGood_any _ _ _ _ _).mono ?_; rintro e w2 ⟨rfl, hg2⟩; have zhg2 := hg2.size; (try simp at zhg2); have c0hg2 := fun o => bkeep hg2 (w.heap.size) o (by first | omega | (simp; done) | (simp; omega)); have f0hg2 := fun o => bfree hg2 (w.heap.size) o (by first | omega | (simp; done) | (simp; omega)); have c1hg2 := fun o => bkeep hg2 (w.heap.size + 1) o (by first | omega | (simp; done) | (simp; omega)); have f1hg2 := fun o => bfree hg2 (w.heap.size + 1) o (by first | omega | (simp; done) | (simp; omega))) | (go_at_call 42; refine (rdAverage_any _ _).mono ?_; rintro e w' ⟨rfl, rfl⟩))
  refine (rdChance_any _ _ _ _ _ _ _ (by omega) (by omega) (by omega) (by omega) (by omega) (by omega) (by omega) (by omega) (by omega)).mono ?_
  rintro e w3 ⟨rfl, hw3⟩
  have zhw3 := hw3.size; (try simp at zhw3); have c1hw3 := fun o => bkeep hw3 (w.heap.size + 1) o (by first | omega | (simp; done) | (simp; omega)); have f1hw3 := fun o => bfree hw3 (w.heap.size + 1) o (by first | omega | (simp; done) | (simp; omega))
  go_wp2_with fail
  refine (rdChance_any _ _ _ _ _ _ _ (by omega) (by omega) (by omega) (by omega) (by omega) (by omega) (by omega) (by omega) (by omega)).mono ?_
  rintro e w4 ⟨rfl, hw4⟩
  go_wp2_with fail
  refine (l1Sign_any _ _ _).mono ?_
  rintro e w5 ⟨rfl, rfl⟩
  go_wp2
  go_ret2
  exact ⟨by rw [hR.out]; rfl, (by repeat (first | (with_reducible exact b0 _) | (with_reducible refine ba ?_ _) | (with_reducible refine bd ?_ _) | (with_reducible refine Below.drew ?_) | (with_reducible refine bs ?_ (by first | exact Nat.le_refl _ | exact Nat.le_add_right _ _ | omega) _) | (with_reducible refine bt ?_ (by assumption))))⟩
theorem implCompareEarly_any (lo hi we mo lo' hi' we' mo' av : Int) (w : World) :
    Calls Try.prog 32 #[.agg #[.int .i64 lo, .int .i64 hi, .int .i64 we, .int .i64 mo], .agg #[.int .i64 lo', .int .i64 hi', .int .i64 we', .int .i64 mo'], .int .i64 av] w fun e w' => e = .returned (.tuple #[.int .i64 (ceR lo hi we mo lo' hi' we' mo' av).1, .bool (ceR lo hi we mo lo' hi' we' mo' av).2]) ∧ Below w.heap.size w w' := by
  rcases h1 : good lo hi we mo with _ | _
  · have hR := Lib.hid (show ceR lo hi we mo lo' hi' we' mo' av = (0, false) by simp [ceR, h1])
    go_enter Try.func32, Try.ntmps32
    go_wp2_with fail
    refine (implIsEarly_any _ _ _ _ _).mono ?_
    rintro e w1 ⟨rfl, hg⟩
    have zhg := hg.size; (try simp at zhg); have c0hg := fun o => bkeep hg (w.heap.size) o (by first | omega | (simp; done) | (simp; omega)); have f0hg := fun o => bfree hg (w.heap.size) o (by first | omega | (simp; done) | (simp; omega)); have c1hg := fun o => bkeep hg (w.heap.size + 1) o (by first | omega | (simp; done) | (simp; omega)); have f1hg := fun o => bfree hg (w.heap.size + 1) o (by first | omega | (simp; done) | (simp; omega))
    go_wp2_with (first | (go_at_call 16; refine (implIsEarly_any _ _ _ _ _).mono ?_; rintro e w2 ⟨rfl, hg2⟩) | (go_at_call 45; refine (isAverage_any _ _).mono ?_; rintro e w' ⟨rfl, rfl⟩))
    go_ret2
    exact ⟨by rw [hR.out]; rfl, (by repeat (first | (with_reducible exact b0 _) | (with_reducible refine ba ?_ _) | (with_reducible refine bd ?_ _) | (with_reducible refine Below.drew ?_) | (with_reducible refine bs ?_ (by first | exact Nat.le_refl _ | exact Nat.le_add_right _ _ | omega) _) | (with_reducible refine bt ?_ (by assumption))))⟩
  rcases h2 : good lo' hi' we' mo' with _ | _
  · have hR := Lib.hid (show ceR lo hi we mo lo' hi' we' mo' av = (0, false) by simp [ceR, h1, h2])
    go_enter Try.func32, Try.ntmps32
    go_wp2_with fail
    refine (implIsEarly_any _ _ _ _ _).mono ?_
    rintro e w1 ⟨rfl, hg⟩
    have zhg := hg.size; (try simp at zhg); have c0hg := fun o => bkeep hg (w.heap.size) o (by first | omega | (simp; done) | (simp; omega)); have f0hg := fun o => bfree hg (w.heap.size) o (by first | omega | (simp; done) | (simp; omega)); have c1hg := fun o => bkeep hg (w.heap.size + 1) o (by first | omega | (simp; done) | (simp; omega)); have f1hg := fun o => bfree hg (w.heap.size + 1) o (by first | omega | (simp; done) | (simp; omega))
    go_wp2_with (first | (go_at_call 16; refine (implIsEarly_any _ _ _ _ _).mono ?_; rintro e w2 ⟨rfl, hg2⟩) | (go_at_call 45; refine (isAverage_any _ _).mono ?_; rintro e w' ⟨rfl, rfl⟩))
    go_ret2
    exact ⟨by rw [hR.out]; rfl, (by repeat (first | (with_reducible exact b0 _) | (with_reducible refine ba ?_ _) | (with_reducible refine bd ?_ _) | (with_reducible refine Below.drew ?_) | (with_reducible refine bs ?_ (by first | exact Nat.le_refl _ | exact Nat.le_add_right _ _ | omega) _) | (with_reducible refine bt ?_ (by assumption))))⟩
  rcases h3 : isAv av with _ | _
  · have hR := Lib.hid (show ceR lo hi we mo lo' hi' we' mo' av = (0, false) by simp [ceR, h1, h2, h3])
    go_enter Try.func32, Try.ntmps32
    go_wp2_with fail
    refine (implIsEarly_any _ _ _ _ _).mono ?_
    rintro e w1 ⟨rfl, hg⟩
    have zhg := hg.size; (try simp at zhg); have c0hg := fun o => bkeep hg (w.heap.size) o (by first | omega | (simp; done) | (simp; omega)); have f0hg := fun o => bfree hg (w.heap.size) o (by first | omega | (simp; done) | (simp; omega)); have c1hg := fun o => bkeep hg (w.heap.size + 1) o (by first | omega | (simp; done) | (simp; omega)); have f1hg := fun o => bfree hg (w.heap.size + 1) o (by first | omega | (simp; done) | (simp; omega))
    go_wp2_with (first | (go_at_call 16; refine (implIsEarly_any _ _ _ _ _).mono ?_; rintro e w2 ⟨rfl, hg2⟩) | (go_at_call 45; refine (isAverage_any _ _).mono ?_; rintro e w' ⟨rfl, rfl⟩))
    go_ret2
    exact ⟨by rw [hR.out]; rfl, (by repeat (first | (with_reducible exact b0 _) | (with_reducible refine ba ?_ _) | (with_reducible refine bd ?_ _) | (with_reducible refine Below.drew ?_) | (with_reducible refine bs ?_ (by first | exact Nat.le_refl _ | exact Nat.le_add_right _ _ | omega) _) | (with_reducible refine bt ?_ (by assumption))))⟩
  have hR := Lib.hid (show ceR lo hi we mo lo' hi' we' mo' av = (sgn ((chance lo hi mo av 0).1 * (chance lo' hi' mo' av 0).2) ((chance lo' hi' mo' av 0).1 * (chance lo hi mo av 0).2), true) by simp [ceR, h1, h2, h3])
  have g := good_iff.1 h1
  have g' := good_iff.1 h2
  have g2 : 0 ≤ av ∧ av ≤ 15360 := by simpa [isAv] using h3
  have cb := chance_bound (lo := lo) (hi := hi) (mo := mo) (av := av) (si := 0) (by omega) (by omega) (by omega) (by omega) (by omega) (by omega) (by omega) (by omega) (by omega)
  have cb' := chance_bound (lo := lo') (hi := hi') (mo := mo') (av := av) (si := 0) (by omega) (by omega) (by omega) (by omega) (by omega) (by omega) (by omega) (by omega) (by omega)
  have m1 := cmul_bound cb.1 cb.2.1 cb'.2.2.1 cb'.2.2.2
  have m2 := cmul_bound cb'.1 cb'.2.1 cb.2.2.1 cb.2.2.2
  go_enter Try.func32, Try.ntmps32
  go_wp2_with fail
  refine (implIsEarly_any _ _ _ _ _).mono ?_
  rintro e w1 ⟨rfl, hg⟩
  have zhg := hg.size; (try simp at zhg); have c0hg := fun o => bkeep hg (w.heap.size) o (by first | omega | (simp; done) | (simp; omega)); have f0hg := fun o => bfree hg (w.heap.size) o (by first | omega | (simp; done) | (simp; omega)); have c1hg := fun o => bkeep hg (w.heap.size + 1) o (by first | omega | (simp; done) | (simp; omega)); have f1hg := fun o => bfree hg (w.heap.size + 1) o (by first | omega | (simp; done) | (simp; omega))
  go_wp2_with (first | (go_at_call 16; refine (implIsEarly_any _ _ _ _ _).mono ?_; rintro e w2 ⟨rfl, hg2⟩; have zhg2 := hg2.size; (try simp at zhg2); have c0hg2 := fun o => bkeep hg2 (w.heap.size) o (by first | omega | (simp; done) | (simp; omega)); have f0hg2 := fun o => bfree hg2 (w.heap.size) o (by first | omega | (simp; done) | (simp; omega)); have c1hg2 := fun o => bkeep hg2 (w.heap.size + 1) o (by first | omega | (simp; done) | (simp; omega)); have f1hg2 := fun o => bfree hg2 (w.heap.size + 1) o (by first | omega | (simp; done) | (simp; omega))) | (go_at_call 45; refine (isAverage_any _ _).mono ?_; rintro e w' ⟨rfl, rfl⟩))
  refine (dropChance_any _ _ _ _ _ _ _ (by omega) (by omega) (by omega) (by omega) (by omega) (by omega) (by omega) (by omega) (by omega)).mono ?_
  rintro e w3 ⟨rfl, hw3⟩
  have zhw3 := hw3.size; (try simp at zhw3); have c1hw3 := fun o => bkeep hw3 (w.heap.size + 1) o (by first | omega | (simp; done) | (simp; omega)); have f1hw3 := fun o => bfree hw3 (w.heap.size + 1) o (by first | omega | (simp; done) | (simp; omega))
  go_wp2_with fail
  refine (dropChance_any _ _ _ _ _ _ _ (by omega) (by omega) (by omega) (by omega) (by omega) (by omega) (by omega) (by omega) (by omega)).mono ?_
  rintro e w4 ⟨rfl, hw4⟩
  go_wp2_with fail
  refine (compareInts_any _ _ _).mono ?_
  rintro e w5 ⟨rfl, rfl⟩
  go_wp2
  go_ret2
  exact ⟨by rw [hR.out]; rfl, (by repeat (first | (with_reducible exact b0 _) | (with_reducible refine ba ?_ _) | (with_reducible refine bd ?_ _) | (with_reducible refine Below.drew ?_) | (with_reducible refine bs ?_ (by first | exact Nat.le_refl _ | exact Nat.le_add_right _ _ | omega) _) | (with_reducible refine bt ?_ (by assumption))))⟩
end Go.Proofs.Ytpgddjnjojkllaa
