/- The contracts of DecideEarly: what the call returns; old memory is left as it was. -/
import Derived.Test.YtpgddjnjojkllaaChance
namespace Go.Proofs.Ytpgddjnjojkllaa
open Go.ChangeShapes Go.WideShapes Go.ChangeAt Go.RowKit
def deci (lo hi mo av si key i : Int) : Int :=
  if 256 * hi ≤ av then 2 else if keyed key i * (chance lo hi mo av si).2 < 1000003 * (chance lo hi mo av si).1 then 1 else 0
theorem deci_bound (lo hi mo av si key i : Int) : 0 ≤ deci lo hi mo av si key i ∧ deci lo hi mo av si key i ≤ 2 := by
  unfold deci; split
  · omega
  · split <;> omega
theorem kmul2_bound {a b : Int} (h1 : 0 ≤ a) (h2 : a < 1000003) (h3 : 1 ≤ b) (h4 : b ≤ 15360000) : 0 ≤ a * b ∧ a * b ≤ 15360046080000 := by
  refine ⟨Int.mul_nonneg h1 (by omega), ?_⟩
  have := Int.mul_le_mul (a := a) (b := b) (c := 1000003) (d := 15360000) (by omega) h4 (by omega) (by omega)
  omega
theorem rdDecide_any (lo hi we mo av si key i : Int) (w : World) (h1 : 0 ≤ lo) (h2 : lo < hi) (h3 : hi ≤ 60) (h4 : 1 ≤ mo) (h5 : mo ≤ 1000) (h6 : 0 ≤ av) (h7 : av ≤ 15360) (h8 : 0 ≤ si) (h9 : si ≤ 1000) (k1 : 0 ≤ key) (k2 : key ≤ 1000000000) (k3 : 0 ≤ i) (k4 : i ≤ 1000) :
    Calls Try.prog 65 #[.agg #[.int .i64 lo, .int .i64 hi, .int .i64 we, .int .i64 mo], .int .i64 av, .int .i64 si, .int .i64 key, .int .i64 i] w fun e w' => e = .returned (.int .i64 (deci lo hi mo av si key i)) ∧ Below w.heap.size w w' := by
  have cb := chance_bound (lo := lo) (hi := hi) (mo := mo) (av := av) (si := si) (by omega) (by omega) (by omega) (by omega) (by omega) (by omega) (by omega) (by omega) (by omega)
  have kb := kst_bound (kst (kst 7919 key) i) 20
  have kb' : 0 ≤ keyed key i ∧ keyed key i < 1000003 := kb
  have m1 := kmul2_bound kb'.1 kb'.2 cb.2.2.1 cb.2.2.2
  clear kb
  by_cases g : 256 * hi ≤ av
  · have hR := Lib.hid (show deci lo hi mo av si key i = 2 by simp [deci, g])
    go_enter Try.func65, Try.ntmps65
    go_wp2_with fail
    go_ret
    exact ⟨by rw [hR.out]; rfl, (by repeat (first | (with_reducible exact b0 _) | (with_reducible refine ba ?_ _) | (with_reducible refine bd ?_ _) | (with_reducible refine Below.drew ?_) | (with_reducible refine bs ?_ (by first | exact Nat.le_refl _ | exact Nat.le_add_right _ _ | omega) _) | (with_reducible refine bt ?_ (by assumption))))⟩
  by_cases g2 : keyed key i * (chance lo hi mo av si).2 < 1000003 * (chance lo hi mo av si).1
  · have hR := Lib.hid (show deci lo hi mo av si key i = 1 by rw [deci, if_neg g, if_pos g2])
    go_enter Try.func65, Try.ntmps65
    go_wp2_with fail
    refine (rdChance_any _ _ _ _ _ _ _ (by omega) (by omega) (by omega) (by omega) (by omega) (by omega) (by omega) (by omega) (by omega)).mono ?_
    rintro e w1 ⟨rfl, hb1⟩
    go_wp2_with fail
    refine (rdKeyed_any _ _ _ (by omega) (by omega) (by omega) (by omega)).mono ?_
    rintro e w2 ⟨rfl, hb2⟩
    go_wp2
    go_ret
    exact ⟨by rw [hR.out]; rfl, (by repeat (first | (with_reducible exact b0 _) | (with_reducible refine ba ?_ _) | (with_reducible refine bd ?_ _) | (with_reducible refine Below.drew ?_) | (with_reducible refine bs ?_ (by first | exact Nat.le_refl _ | exact Nat.le_add_right _ _ | omega) _) | (with_reducible refine bt ?_ (by assumption))))⟩
  · have hR := Lib.hid (show deci lo hi mo av si key i = 0 by rw [deci, if_neg g, if_neg g2])
    go_enter Try.func65, Try.ntmps65
    go_wp2_with fail
    refine (rdChance_any _ _ _ _ _ _ _ (by omega) (by omega) (by omega) (by omega) (by omega) (by omega) (by omega) (by omega) (by omega)).mono ?_
    rintro e w1 ⟨rfl, hb1⟩
    go_wp2_with fail
    refine (rdKeyed_any _ _ _ (by omega) (by omega) (by omega) (by omega)).mono ?_
    rintro e w2 ⟨rfl, hb2⟩
    go_wp2
    go_ret
    exact ⟨by rw [hR.out]; rfl, (by repeat (first | (with_reducible exact b0 _) | (with_reducible refine ba ?_ _) | (with_reducible refine bd ?_ _) | (with_reducible refine Below.drew ?_) | (with_reducible refine bs ?_ (by first | exact Nat.le_refl _ | exact Nat.le_add_right _ _ | omega) _) | (with_reducible refine bt ?_ (by assumption))))⟩
theorem decideEarly_any (lo hi we mo av si key i : Int) (w : World) (h1 : 0 ≤ lo) (h2 : lo < hi) (h3 : hi ≤ 60) (h4 : 1 ≤ mo) (h5 : mo ≤ 1000) (h6 : 0 ≤ av) (h7 : av ≤ 15360) (h8 : 0 ≤ si) (h9 : si ≤ 1000) (k1 : 0 ≤ key) (k2 : key ≤ 1000000000) (k3 : 0 ≤ i) (k4 : i ≤ 1000) :
    Calls Try.prog 66 #[.agg #[.int .i64 lo, .int .i64 hi, .int .i64 we, .int .i64 mo], .int .i64 av, .int .i64 si, .int .i64 key, .int .i64 i] w fun e w' => e = .returned (.int .i64 (deci lo hi mo av si key i)) ∧ Below w.heap.size w w' := by
  have cb := chance_bound (lo := lo) (hi := hi) (mo := mo) (av := av) (si := si) (by omega) (by omega) (by omega) (by omega) (by omega) (by omega) (by omega) (by omega) (by omega)
  have kb := kst_bound (kst (kst 7919 key) i) 20
  have kb' : 0 ≤ keyed key i ∧ keyed key i < 1000003 := kb
  have m1 := kmul2_bound kb'.1 kb'.2 cb.2.2.1 cb.2.2.2
  clear kb
  by_cases g : 256 * hi ≤ av
  · have hR := Lib.hid (show deci lo hi mo av si key i = 2 by simp [deci, g])
    go_enter Try.func66, Try.ntmps66
    go_wp2_with fail
    go_ret
    exact ⟨by rw [hR.out]; rfl, (by repeat (first | (with_reducible exact b0 _) | (with_reducible refine ba ?_ _) | (with_reducible refine bd ?_ _) | (with_reducible refine Below.drew ?_) | (with_reducible refine bs ?_ (by first | exact Nat.le_refl _ | exact Nat.le_add_right _ _ | omega) _) | (with_reducible refine bt ?_ (by assumption))))⟩
  by_cases g2 : keyed key i * (chance lo hi mo av si).2 < 1000003 * (chance lo hi mo av si).1
  · have hR := Lib.hid (show deci lo hi mo av si key i = 1 by rw [deci, if_neg g, if_pos g2])
    go_enter Try.func66, Try.ntmps66
    go_wp2_with fail
    refine (dropChance_any _ _ _ _ _ _ _ (by omega) (by omega) (by omega) (by omega) (by omega) (by omega) (by omega) (by omega) (by omega)).mono ?_
    rintro e w1 ⟨rfl, hb1⟩
    go_wp2_with fail
    refine (keyedNumber_any _ _ _ (by omega) (by omega) (by omega) (by omega)).mono ?_
    rintro e w2 ⟨rfl, hb2⟩
    go_wp2
    go_ret
    exact ⟨by rw [hR.out]; rfl, (by repeat (first | (with_reducible exact b0 _) | (with_reducible refine ba ?_ _) | (with_reducible refine bd ?_ _) | (with_reducible refine Below.drew ?_) | (with_reducible refine bs ?_ (by first | exact Nat.le_refl _ | exact Nat.le_add_right _ _ | omega) _) | (with_reducible refine bt ?_ (by assumption))))⟩
  · have hR := Lib.hid (show deci lo hi mo av si key i = 0 by rw [deci, if_neg g, if_neg g2])
    go_enter Try.func66, Try.ntmps66
    go_wp2_with fail
    refine (dropChance_any _ _ _ _ _ _ _ (by omega) (by omega) (by omega) (by omega) (by omega) (by omega) (by omega) (by omega) (by omega)).mono ?_
    rintro e w1 ⟨rfl, hb1⟩
    go_wp2_with fail
    refine (keyedNumber_any _ _ _ (by omega) (by omega) (by omega) (by omega)).mono ?_
    rintro e w2 ⟨rfl, hb2⟩
    go_wp2
    go_ret
    exact ⟨by rw [hR.out]; rfl, (by repeat (first | (with_reducible exact b0 _) | (with_reducible refine ba ?_ _) | (with_reducible refine bd ?_ _) | (with_reducible refine Below.drew ?_) | (with_reducible refine bs ?_ (by first | exact Nat.le_refl _ | exact Nat.le_add_right _ _ | omega) _) | (with_reducible refine bt ?_ (by assumption))))⟩
def isKy (key i : Int) : Bool := decide (0 ≤ key ∧ key ≤ 1000000000 ∧ 0 ≤ i ∧ i ≤ 1000)
theorem isKy_iff {key i : Int} : isKy key i = true ↔ 0 ≤ key ∧ key ≤ 1000000000 ∧ 0 ≤ i ∧ i ≤ 1000 := by simp [isKy]
theorem rdKeyB_any (key i : Int) (w : World) : Calls Try.prog 48 #[.int .i64 key, .int .i64 i] w fun e w' => e = .returned (.bool (isKy key i)) ∧ w = w' := rdKey_any key i w
def deR (lo hi we mo av si key i : Int) : Int × Bool := if good lo hi we mo && isAv av && isSi si && isKy key i then (deci lo hi mo av si key i, true) else (0, false)
theorem specDecideEarly_any (lo hi we mo av si key i : Int) (w : World) :
    Calls Try.prog 37 #[.agg #[.int .i64 lo, .int .i64 hi, .int .i64 we, .int .i64 mo], .int .i64 av, .int .i64 si, .int .i64 key, .int .i64 i] w fun e w' => e = .returned (.tuple #[.int .i64 (deR lo hi we mo av si key i).1, .bool (deR lo hi we mo av si key i).2]) ∧ Below w.heap.size w w' := by
  rcases h1 : good lo hi we mo with _ | _
  · have hR := Lib.hid (show deR lo hi we mo av si key i = (0, false) by simp [deR, h1])
    go_enter Try.func37, Try.ntmps37
    go_wp2_with (first | (go_at_call 41; refine (rdGood_any _ _ _ _ _).mono ?_; rintro e w1 ⟨rfl, hg⟩; have zhg := hg.size; (try simp at zhg); have c0hg := fun o => bkeep hg (w.heap.size) o (by first | omega | (simp; done) | (simp; omega)); have f0hg := fun o => bfree hg (w.heap.size) o (by first | omega | (simp; done) | (simp; omega))) | (go_at_call 42; refine (rdAverage_any _ _).mono ?_; rintro e w' ⟨rfl, rfl⟩) | (go_at_call 57; refine (rdSince_any _ _).mono ?_; rintro e w' ⟨rfl, rfl⟩) | (go_at_call 48; refine (rdKeyB_any _ _ _).mono ?_; rintro e w' ⟨rfl, rfl⟩))
    go_ret2
    exact ⟨by rw [hR.out]; rfl, (by repeat (first | (with_reducible exact b0 _) | (with_reducible refine ba ?_ _) | (with_reducible refine bd ?_ _) | (with_reducible refine Below.drew ?_) | (with_reducible refine bs ?_ (by first | exact Nat.le_refl _ | exact Nat.le_add_right _ _ | omega) _) | (with_reducible refine bt ?_ (by assumption))))⟩
  rcases h2 : isAv av with _ | _
  · have hR := Lib.hid (show deR lo hi we mo av si key i = (0, false) by simp [deR, h1, h2])
    go_enter Try.func37, Try.ntmps37
    go_wp2_with (first | (go_at_call 41; refine (rdGood_any _ _ _ _ _).mono ?_; rintro e w1 ⟨rfl, hg⟩; have zhg := hg.size; (try simp at zhg); have c0hg := fun o => bkeep hg (w.heap.size) o (by first | omega | (simp; done) | (simp; omega)); have f0hg := fun o => bfree hg (w.heap.size) o (by first | omega | (simp; done) | (simp; omega))) | (go_at_call 42; refine (rdAverage_any _ _).mono ?_; rintro e w' ⟨rfl, rfl⟩) | (go_at_call 57; refine (rdSince_any _ _).mono ?_; rintro e w' ⟨rfl, rfl⟩) | (go_at_call 48; refine (rdKeyB_any _ _ _).mono ?_; rintro e w' ⟨rfl, rfl⟩))
    go_ret2
    exact ⟨by rw [hR.out]; rfl, (by repeat (first | (with_reducible exact b0 _) | (with_reducible refine ba ?_ _) | (with_reducible refine bd ?_ _) | (with_reducible refine Below.drew ?_) | (with_reducible refine bs ?_ (by first | exact Nat.le_refl _ | exact Nat.le_add_right _ _ | omega) _) | (with_reducible refine bt ?_ (by assumption))))⟩
  rcases h3 : isSi si with _ | _
  · have hR := Lib.hid (show deR lo hi we mo av si key i = (0, false) by simp [deR, h1, h2, h3])
    go_enter Try.func37, Try.ntmps37
    go_wp2_with (first | (go_at_call 41; refine (rdGood_any _ _ _ _ _).mono ?_; rintro e w1 ⟨rfl, hg⟩; have zhg := hg.size; (try simp at zhg); have c0hg := fun o => bkeep hg (w.heap.size) o (by first | omega | (simp; done) | (simp; omega)); have f0hg := fun o => bfree hg (w.heap.size) o (by first | omega | (simp; done) | (simp; omega))) | (go_at_call 42; refine (rdAverage_any _ _).mono ?_; rintro e w' ⟨rfl, rfl⟩) | (go_at_call 57; refine (rdSince_any _ _).mono ?_; rintro e w' ⟨rfl, rfl⟩) | (go_at_call 48; refine (rdKeyB_any _ _ _).mono ?_; rintro e w' ⟨rfl, rfl⟩))
    go_ret2
    exact ⟨by rw [hR.out]; rfl, (by repeat (first | (with_reducible exact b0 _) | (with_reducible refine ba ?_ _) | (with_reducible refine bd ?_ _) | (with_reducible refine Below.drew ?_) | (with_reducible refine bs ?_ (by first | exact Nat.le_refl _ | exact Nat.le_add_right _ _ | omega) _) | (with_reducible refine bt ?_ (by assumption))))⟩
  rcases h4 : isKy key i with _ | _
  · have hR := Lib.hid (show deR lo hi we mo av si key i = (0, false) by simp [deR, h1, h2, h3, h4])
    go_enter Try.func37, Try.ntmps37
    go_wp2_with (first | (go_at_call 41; refine (rdGood_any _ _ _ _ _).mono ?_; rintro e w1 ⟨rfl, hg⟩; have zhg := hg.size; (try simp at zhg); have c0hg := fun o => bkeep hg (w.heap.size) o (by first | omega | (simp; done) | (simp; omega)); have f0hg := fun o => bfree hg (w.heap.size) o (by first | omega | (simp; done) | (simp; omega))) | (go_at_call 42; refine (rdAverage_any _ _).mono ?_; rintro e w' ⟨rfl, rfl⟩) | (go_at_call 57; refine (rdSince_any _ _).mono ?_; rintro e w' ⟨rfl, rfl⟩) | (go_at_call 48; refine (rdKeyB_any _ _ _).mono ?_; rintro e w' ⟨rfl, rfl⟩))
    go_ret2
    exact ⟨by rw [hR.out]; rfl, (by repeat (first | (with_reducible exact b0 _) | (with_reducible refine ba ?_ _) | (with_reducible refine bd ?_ _) | (with_reducible refine Below.drew ?_) | (with_reducible refine bs ?_ (by first | exact Nat.le_refl _ | exact Nat.le_add_right _ _ | omega) _) | (with_reducible refine bt ?_ (by assumption))))⟩
  have hR := Lib.hid (show deR lo hi we mo av si key i = (deci lo hi mo av si key i, true) by simp [deR, h1, h2, h3, h4])
  have g := good_iff.1 h1
  have g2 : 0 ≤ av ∧ av ≤ 15360 := by simpa [isAv] using h2
  have g3 : 0 ≤ si ∧ si ≤ 1000 := by simpa [isSi] using h3
  have g4 := isKy_iff.1 h4
  go_enter Try.func37, Try.ntmps37
  go_wp2_with (first | (go_at_call 41; refine (rdGood_any _ _ _ _ _).mono ?_; rintro e w1 ⟨rfl, hg⟩; have zhg := hg.size; (try simp at zhg); have c0hg := fun o => bkeep hg (w.heap.size) o (by first | omega | (simp; done) | (simp; omega)); have f0hg := fun o => bfree hg (w.heap.size) o (by first | omega | (simp; done) | (simp; omega))) | (go_at_call 42; refine (rdAverage_any _ _).mono ?_; rintro e w' ⟨rfl, rfl⟩) | (go_at_call 57; refine (rdSince_any _ _).mono ?_; rintro e w' ⟨rfl, rfl⟩) | (go_at_call 48; refine (rdKeyB_any _ _ _).mono ?_; rintro e w' ⟨rfl, rfl⟩))
  refine (rdDecide_any _ _ _ _ _ _ _ _ _ (by omega) (by omega) (by omega) (by omega) (by omega) (by omega) (by omega) (by omega) (by omega) (by omega) (by omega) (by omega) (by omega)).mono ?_
  rintro e w2 ⟨rfl, hw⟩
  go_wp2
  go_ret2
  exact ⟨by rw [hR.out]; rfl, (by repeat (first | (with_reducible exact b0 _) | (with_reducible refine ba ?_ _) | (with_reducible refine bd ?_ _) | (with_reducible refine Below.drew ?_) | (with_reducible refine bs ?_ (by first | exact Nat.le_refl _ | exact Nat.le_add_right _ _ | omega) _) | (with_reducible refine bt ?_ (by assumption))))⟩
theorem implDecideEarly_any (lo hi we mo av si key i : Int) (w : World) :
    Calls Try.prog 38 #[.agg #[.int .i64 lo, .int .i64 hi, .int .i64 we, .int .i64 mo], .int .i64 av, .int .i64 si, .int .i64 key, .int .i64 i] w fun e w' => e = .returned (.tuple #[.int .i64 (deR lo hi we mo av si key i).1, .bool (deR lo hi we mo av si key i).2]) ∧ Below w.heap.size w w' := by
  rcases h1 : good lo hi we mo with _ | _
  · have hR := Lib.hid (show deR lo hi we mo av si key i = (0, false) by simp [deR, h1])
    have HK := Lib.hid (@isKy_iff key i)
    go_enter Try.func38, Try.ntmps38
    go_wp2_with (first | (go_at_call 16; refine (implIsEarly_any _ _ _ _ _).mono ?_; rintro e w1 ⟨rfl, hg⟩; have zhg := hg.size; (try simp at zhg); have c0hg := fun o => bkeep hg (w.heap.size) o (by first | omega | (simp; done) | (simp; omega)); have f0hg := fun o => bfree hg (w.heap.size) o (by first | omega | (simp; done) | (simp; omega))) | (go_at_call 45; refine (isAverage_any _ _).mono ?_; rintro e w' ⟨rfl, rfl⟩) | (go_at_call 59; refine (isSince_any _ _).mono ?_; rintro e w' ⟨rfl, rfl⟩) | (go_at_call 50; refine (isKey20_any _ _).mono ?_; rintro e w' ⟨rfl, rfl⟩))
    all_goals first | (go_ret2; exact ⟨by rw [hR.out]; rfl, (by repeat (first | (with_reducible exact b0 _) | (with_reducible refine ba ?_ _) | (with_reducible refine bd ?_ _) | (with_reducible refine Below.drew ?_) | (with_reducible refine bs ?_ (by first | exact Nat.le_refl _ | exact Nat.le_add_right _ _ | omega) _) | (with_reducible refine bt ?_ (by assumption))))⟩) | (exfalso; have hk := HK.out; (try simp_all); (try omega); done)
  rcases h2 : isAv av with _ | _
  · have hR := Lib.hid (show deR lo hi we mo av si key i = (0, false) by simp [deR, h1, h2])
    have HK := Lib.hid (@isKy_iff key i)
    go_enter Try.func38, Try.ntmps38
    go_wp2_with (first | (go_at_call 16; refine (implIsEarly_any _ _ _ _ _).mono ?_; rintro e w1 ⟨rfl, hg⟩; have zhg := hg.size; (try simp at zhg); have c0hg := fun o => bkeep hg (w.heap.size) o (by first | omega | (simp; done) | (simp; omega)); have f0hg := fun o => bfree hg (w.heap.size) o (by first | omega | (simp; done) | (simp; omega))) | (go_at_call 45; refine (isAverage_any _ _).mono ?_; rintro e w' ⟨rfl, rfl⟩) | (go_at_call 59; refine (isSince_any _ _).mono ?_; rintro e w' ⟨rfl, rfl⟩) | (go_at_call 50; refine (isKey20_any _ _).mono ?_; rintro e w' ⟨rfl, rfl⟩))
    all_goals first | (go_ret2; exact ⟨by rw [hR.out]; rfl, (by repeat (first | (with_reducible exact b0 _) | (with_reducible refine ba ?_ _) | (with_reducible refine bd ?_ _) | (with_reducible refine Below.drew ?_) | (with_reducible refine bs ?_ (by first | exact Nat.le_refl _ | exact Nat.le_add_right _ _ | omega) _) | (with_reducible refine bt ?_ (by assumption))))⟩) | (exfalso; have hk := HK.out; (try simp_all); (try omega); done)
  rcases h3 : isSi si with _ | _
  · have hR := Lib.hid (show deR lo hi we mo av si key i = (0, false) by simp [deR, h1, h2, h3])
    have HK := Lib.hid (@isKy_iff key i)
    go_enter Try.func38, Try.ntmps38
    go_wp2_with (first | (go_at_call 16; refine (implIsEarly_any _ _ _ _ _).mono ?_; rintro e w1 ⟨rfl, hg⟩; have zhg := hg.size; (try simp at zhg); have c0hg := fun o => bkeep hg (w.heap.size) o (by first | omega | (simp; done) | (simp; omega)); have f0hg := fun o => bfree hg (w.heap.size) o (by first | omega | (simp; done) | (simp; omega))) | (go_at_call 45; refine (isAverage_any _ _).mono ?_; rintro e w' ⟨rfl, rfl⟩) | (go_at_call 59; refine (isSince_any _ _).mono ?_; rintro e w' ⟨rfl, rfl⟩) | (go_at_call 50; refine (isKey20_any _ _).mono ?_; rintro e w' ⟨rfl, rfl⟩))
    all_goals first | (go_ret2; exact ⟨by rw [hR.out]; rfl, (by repeat (first | (with_reducible exact b0 _) | (with_reducible refine ba ?_ _) | (with_reducible refine bd ?_ _) | (with_reducible refine Below.drew ?_) | (with_reducible refine bs ?_ (by first | exact Nat.le_refl _ | exact Nat.le_add_right _ _ | omega) _) | (with_reducible refine bt ?_ (by assumption))))⟩) | (exfalso; have hk := HK.out; (try simp_all); (try omega); done)
  rcases h4 : isKy key i with _ | _
  · have hR := Lib.hid (show deR lo hi we mo av si key i = (0, false) by simp [deR, h1, h2, h3, h4])
    have HK := Lib.hid (@isKy_iff key i)
    go_enter Try.func38, Try.ntmps38
    go_wp2_with (first | (go_at_call 16; refine (implIsEarly_any _ _ _ _ _).mono ?_; rintro e w1 ⟨rfl, hg⟩; have zhg := hg.size; (try simp at zhg); have c0hg := fun o => bkeep hg (w.heap.size) o (by first | omega | (simp; done) | (simp; omega)); have f0hg := fun o => bfree hg (w.heap.size) o (by first | omega | (simp; done) | (simp; omega))) | (go_at_call 45; refine (isAverage_any _ _).mono ?_; rintro e w' ⟨rfl, rfl⟩) | (go_at_call 59; refine (isSince_any _ _).mono ?_; rintro e w' ⟨rfl, rfl⟩) | (go_at_call 50; refine (isKey20_any _ _).mono ?_; rintro e w' ⟨rfl, rfl⟩))
    all_goals first | (go_ret2; exact ⟨by rw [hR.out]; rfl, (by repeat (first | (with_reducible exact b0 _) | (with_reducible refine ba ?_ _) | (with_reducible refine bd ?_ _) | (with_reducible refine Below.drew ?_) | (with_reducible refine bs ?_ (by first | exact Nat.le_refl _ | exact Nat.le_add_right _ _ | omega) _) | (with_reducible refine bt ?_ (by assumption))))⟩) | (exfalso; have hk := HK.out; (try simp_all); (try omega); done)
  have hR := Lib.hid (show deR lo hi we mo av si key i = (deci lo hi mo av si key i, true) by simp [deR, h1, h2, h3, h4])
  have g := good_iff.1 h1
  have g2 : 0 ≤ av ∧ av ≤ 15360 := by simpa [isAv] using h2
  have g3 : 0 ≤ si ∧ si ≤ 1000 := by simpa [isSi] using h3
  have g4 := isKy_iff.1 h4
  go_enter Try.func38, Try.ntmps38
  go_wp2_with (first | (go_at_call 16; refine (implIsEarly_any _ _ _ _ _).mono ?_; rintro e w1 ⟨rfl, hg⟩; have zhg := hg.size; (try simp at zhg); have c0hg := fun o => bkeep hg (w.heap.size) o (by first | omega | (simp; done) | (simp; omega)); have f0hg := fun o => bfree hg (w.heap.size) o (by first | omega | (simp; done) | (simp; omega))) | (go_at_call 45; refine (isAverage_any _ _).mono ?_; rintro e w' ⟨rfl, rfl⟩) | (go_at_call 59; refine (isSince_any _ _).mono ?_; rintro e w' ⟨rfl, rfl⟩) | (go_at_call 50; refine (isKey20_any _ _).mono ?_; rintro e w' ⟨rfl, rfl⟩))
  refine (decideEarly_any _ _ _ _ _ _ _ _ _ (by omega) (by omega) (by omega) (by omega) (by omega) (by omega) (by omega) (by omega) (by omega) (by omega) (by omega) (by omega) (by omega)).mono ?_
  rintro e w2 ⟨rfl, hw⟩
  go_wp2
  go_ret2
  exact ⟨by rw [hR.out]; rfl, (by repeat (first | (with_reducible exact b0 _) | (with_reducible refine ba ?_ _) | (with_reducible refine bd ?_ _) | (with_reducible refine Below.drew ?_) | (with_reducible refine bs ?_ (by first | exact Nat.le_refl _ | exact Nat.le_add_right _ _ | omega) _) | (with_reducible refine bt ?_ (by assumption))))⟩
end Go.Proofs.Ytpgddjnjojkllaa
