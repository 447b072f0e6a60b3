/- The contracts of the functions of the early-drop chapter that only compute. Each says what the call returns for the given arguments; old memory is left as it was. No condition but those named in each. -/
import Derived.Test.YtpgddjnjojkllaaRows
import Derived.Test.YtpgddjnjojkllaaBase
namespace Go.Proofs.Ytpgddjnjojkllaa
open Go.ChangeShapes Go.WideShapes Go.ChangeAt Go.RowKit

def good (lo hi we mo : Int) : Bool := decide (0 ≤ lo ∧ lo < hi ∧ hi ≤ 60 ∧ 1 ≤ we ∧ we ≤ 256 ∧ 1 ≤ mo ∧ mo ≤ 1000)
theorem good_iff {lo hi we mo : Int} : good lo hi we mo = true ↔ 0 ≤ lo ∧ lo < hi ∧ hi ≤ 60 ∧ 1 ≤ we ∧ we ≤ 256 ∧ 1 ≤ mo ∧ mo ≤ 1000 := by simp [good]
theorem toEarly_any (a b c d : Int) (w : World) :
    Calls Try.prog 15 #[.agg #[.int .i64 a, .int .i64 b, .int .i64 c, .int .i64 d]] w fun e w' => e = .returned (.agg #[.int .i64 a, .int .i64 b, .int .i64 c, .int .i64 d]) ∧ Below w.heap.size w w' := by
  go_enter Try.func15, Try.ntmps15
  go_wp2
  exact bodyPost_ret (v := .agg #[.int .i64 a, .int .i64 b, .int .i64 c, .int .i64 d]) (by simp [results, Try.results15, go_sem]) rfl ⟨rfl, (by repeat (first | (with_reducible exact b0 _) | (with_reducible refine ba ?_ _) | (with_reducible refine bd ?_ _) | (with_reducible refine Below.drew ?_) | (with_reducible refine bs ?_ (by first | exact Nat.le_refl _ | exact Nat.le_add_right _ _ | omega) _) | (with_reducible refine bt ?_ (by assumption))))⟩
theorem l1In_any (a b c : Int) (w : World) :
    Calls Try.prog 43 #[.int .i64 a, .int .i64 b, .int .i64 c] w fun e w' => e = .returned (.bool (decide (b ≤ a ∧ a ≤ c))) ∧ w = w' := by
  go_enter Try.func43, Try.ntmps43
  go_wp2
  all_goals
    go_ret
    exact ⟨ret_b (by rw [Bool.eq_iff_iff]; simp; try omega), rfl⟩
theorem rdGood_any (a b c d : Int) (w : World) :
    Calls Try.prog 41 #[.agg #[.int .i64 a, .int .i64 b, .int .i64 c, .int .i64 d]] w fun e w' => e = .returned (.bool (good a b c d)) ∧ Below w.heap.size w w' := by
  go_enter Try.func41, Try.ntmps41
  go_wp2_with (go_at_call 43; refine (l1In_any _ _ _ _).mono ?_; rintro e w' ⟨rfl, rfl⟩)
  all_goals
    go_ret
    exact ⟨ret_b (by rw [Bool.eq_iff_iff]; simp [good]; try omega), (by repeat (first | (with_reducible exact b0 _) | (with_reducible refine ba ?_ _) | (with_reducible refine bd ?_ _) | (with_reducible refine Below.drew ?_) | (with_reducible refine bs ?_ (by first | exact Nat.le_refl _ | exact Nat.le_add_right _ _ | omega) _) | (with_reducible refine bt ?_ (by assumption))))⟩
theorem specIsEarly_any (a b c d : Int) (w : World) :
    Calls Try.prog 14 #[.agg #[.int .i64 a, .int .i64 b, .int .i64 c, .int .i64 d]] w fun e w' => e = .returned (.bool (good a b c d)) ∧ Below w.heap.size w w' := by
  go_enter Try.func14, Try.ntmps14
  go_wp2_with fail
  refine (rdGood_any _ _ _ _ _).mono ?_
  rintro e w1 ⟨rfl, hb1⟩
  have c1 := bkeep hb1
  have z1 := blk_lt rfl hb1
  go_wp2
  go_ret
  exact ⟨rfl, (by repeat (first | (with_reducible exact b0 _) | (with_reducible refine ba ?_ _) | (with_reducible refine bd ?_ _) | (with_reducible refine Below.drew ?_) | (with_reducible refine bs ?_ (by first | exact Nat.le_refl _ | exact Nat.le_add_right _ _ | omega) _) | (with_reducible refine bt ?_ (by assumption))))⟩
theorem implIsEarly_any (a b c d : Int) (w : World) :
    Calls Try.prog 16 #[.agg #[.int .i64 a, .int .i64 b, .int .i64 c, .int .i64 d]] w fun e w' => e = .returned (.bool (good a b c d)) ∧ Below w.heap.size w w' := by
  go_enter Try.func16, Try.ntmps16
  go_wp2
  all_goals
    go_ret
    exact ⟨ret_b (by rw [Bool.eq_iff_iff]; simp [good]; try omega), (by repeat (first | (with_reducible exact b0 _) | (with_reducible refine ba ?_ _) | (with_reducible refine bd ?_ _) | (with_reducible refine Below.drew ?_) | (with_reducible refine bs ?_ (by first | exact Nat.le_refl _ | exact Nat.le_add_right _ _ | omega) _) | (with_reducible refine bt ?_ (by assumption))))⟩

/-! ### The next average -/
def isAv (n : Int) : Bool := decide (0 ≤ n ∧ n ≤ 15360)
def isLe (n : Int) : Bool := decide (0 ≤ n ∧ n ≤ 60)
def nxt (we av le : Int) : Int := av + we * (256 * le - av) / 256
theorem prod_bound {we d : Int} (h1 : 1 ≤ we) (h2 : we ≤ 256) (h3 : -15360 ≤ d) (h4 : d ≤ 15360) : -3932160 ≤ we * d ∧ we * d ≤ 3932160 := by
  have a := Int.mul_nonneg (show 0 ≤ we by omega) (show 0 ≤ d + 15360 by omega)
  have b := Int.mul_nonneg (show 0 ≤ we by omega) (show 0 ≤ 15360 - d by omega)
  rw [Int.mul_add] at a
  rw [Int.mul_sub] at b
  constructor <;> omega
/-- The next average lies between the two that it is made of. -/
theorem nxt_bound {we av le : Int} (h1 : 1 ≤ we) (h2 : we ≤ 256) (h3 : 0 ≤ av) (h4 : av ≤ 15360) (h5 : 0 ≤ le) (h6 : le ≤ 60) : 0 ≤ nxt we av le ∧ nxt we av le ≤ 15360 := by
  unfold nxt
  have a := Int.mul_nonneg (show 0 ≤ we by omega) (show 0 ≤ 256 * le by omega)
  have b := Int.mul_nonneg (show 0 ≤ 256 - we by omega) h3
  have c := Int.mul_nonneg (show 0 ≤ we by omega) (show 0 ≤ 15360 - 256 * le by omega)
  have d := Int.mul_nonneg (show 0 ≤ 256 - we by omega) (show 0 ≤ 15360 - av by omega)
  rw [Int.sub_mul] at b
  rw [Int.mul_sub] at c
  rw [Int.sub_mul, Int.mul_sub, Int.mul_sub] at d
  rw [Int.mul_sub]
  constructor <;> omega
theorem rdAverage_any (a : Int) (w : World) : Calls Try.prog 42 #[.int .i64 a] w fun e w' => e = .returned (.bool (isAv a)) ∧ w = w' := by
  go_enter Try.func42, Try.ntmps42
  go_wp2_with (go_at_call 43; refine (l1In_any _ _ _ _).mono ?_; rintro e w' ⟨rfl, rfl⟩)
  go_ret
  exact ⟨ret_b (by rw [Bool.eq_iff_iff]; simp [isAv]), rfl⟩
theorem isAverage_any (a : Int) (w : World) : Calls Try.prog 45 #[.int .i64 a] w fun e w' => e = .returned (.bool (isAv a)) ∧ w = w' := by
  go_enter Try.func45, Try.ntmps45
  go_wp2
  all_goals
    go_ret
    exact ⟨ret_b (by rw [Bool.eq_iff_iff]; simp [isAv]; try omega), rfl⟩
theorem isLength_any (a : Int) (w : World) : Calls Try.prog 46 #[.int .i64 a] w fun e w' => e = .returned (.bool (isLe a)) ∧ w = w' := by
  go_enter Try.func46, Try.ntmps46
  go_wp2
  all_goals
    go_ret
    exact ⟨ret_b (by rw [Bool.eq_iff_iff]; simp [isLe]; try omega), rfl⟩
theorem floor_a (x : Int) (h : x.tmod 256 < 0) : x.tdiv 256 - 1 = x / 256 := by
  have h1 := Int.mul_tdiv_add_tmod x 256
  have h2 := Int.lt_tmod_of_pos x (show (0 : Int) < 256 by omega)
  omega
theorem floor_b (x : Int) (h : 0 ≤ x.tmod 256) : x.tdiv 256 = x / 256 := by
  have h1 := Int.mul_tdiv_add_tmod x 256
  have h2 := Int.tmod_lt_of_pos x (show (0 : Int) < 256 by omega)
  omega
theorem rdNext_any (lo hi we mo av le : Int) (w : World) (h1 : 1 ≤ we) (h2 : we ≤ 256) (h3 : 0 ≤ av) (h4 : av ≤ 15360) (h5 : 0 ≤ le) (h6 : le ≤ 60) :
    Calls Try.prog 44 #[.agg #[.int .i64 lo, .int .i64 hi, .int .i64 we, .int .i64 mo], .int .i64 av, .int .i64 le] w fun e w' => e = .returned (.int .i64 (nxt we av le)) ∧ Below w.heap.size w w' := by
  obtain ⟨hp1, hp2⟩ := prod_bound (d := 256 * le - av) h1 h2 (by omega) (by omega)
  have nb := nxt_bound h1 h2 h3 h4 h5 h6
  by_cases h : (we * (256 * le - av)).tmod 256 < 0
  · have hf := Lib.hid (floor_a _ h)
    go_enter Try.func44, Try.ntmps44
    go_wp2
    go_ret
    refine ⟨ret_i ?_, (by repeat (first | (with_reducible exact b0 _) | (with_reducible refine ba ?_ _) | (with_reducible refine bd ?_ _) | (with_reducible refine Below.drew ?_) | (with_reducible refine bs ?_ (by first | exact Nat.le_refl _ | exact Nat.le_add_right _ _ | omega) _) | (with_reducible refine bt ?_ (by assumption))))⟩
    have hf' := hf.out
    unfold nxt at nb ⊢
    show wrap64 (av + wrap64 (_ - 1)) = _
    rw [hf', IntWalk.wrap64_in (we * (256 * le - av) / 256) (by omega), IntWalk.wrap64_in _ (by omega)]
  · have h' : 0 ≤ (we * (256 * le - av)).tmod 256 := by omega
    have hf := Lib.hid (floor_b _ h')
    clear h
    go_enter Try.func44, Try.ntmps44
    go_wp2
    go_ret
    refine ⟨ret_i ?_, (by repeat (first | (with_reducible exact b0 _) | (with_reducible refine ba ?_ _) | (with_reducible refine bd ?_ _) | (with_reducible refine Below.drew ?_) | (with_reducible refine bs ?_ (by first | exact Nat.le_refl _ | exact Nat.le_add_right _ _ | omega) _) | (with_reducible refine bt ?_ (by assumption))))⟩
    have hf' := hf.out
    unfold nxt at nb ⊢
    show wrap64 (av + _) = _
    rw [hf', IntWalk.wrap64_in _ (by omega)]
theorem nextAverage_any (lo hi we mo av le : Int) (w : World) (h1 : 1 ≤ we) (h2 : we ≤ 256) (h3 : 0 ≤ av) (h4 : av ≤ 15360) (h5 : 0 ≤ le) (h6 : le ≤ 60) :
    Calls Try.prog 47 #[.agg #[.int .i64 lo, .int .i64 hi, .int .i64 we, .int .i64 mo], .int .i64 av, .int .i64 le] w fun e w' => e = .returned (.int .i64 (nxt we av le)) ∧ Below w.heap.size w w' := by
  obtain ⟨hp1, hp2⟩ := prod_bound (d := 256 * le - av) h1 h2 (by omega) (by omega)
  go_enter Try.func47, Try.ntmps47
  go_wp2
  go_ret
  exact ⟨rfl, (by repeat (first | (with_reducible exact b0 _) | (with_reducible refine ba ?_ _) | (with_reducible refine bd ?_ _) | (with_reducible refine Below.drew ?_) | (with_reducible refine bs ?_ (by first | exact Nat.le_refl _ | exact Nat.le_add_right _ _ | omega) _) | (with_reducible refine bt ?_ (by assumption))))⟩
def naOk (lo hi we mo av le : Int) : Bool := good lo hi we mo && isAv av && isLe le
def naR (lo hi we mo av le : Int) : Int × Bool := if naOk lo hi we mo av le then (nxt we av le, true) else (0, false)
theorem specNextAverage_any (lo hi we mo av le : Int) (w : World) :
    Calls Try.prog 17 #[.agg #[.int .i64 lo, .int .i64 hi, .int .i64 we, .int .i64 mo], .int .i64 av, .int .i64 le] w fun e w' => e = .returned (.tuple #[.int .i64 (naR lo hi we mo av le).1, .bool (naR lo hi we mo av le).2]) ∧ Below w.heap.size w w' := by
  by_cases h : naOk lo hi we mo av le = true
  · have hR := Lib.hid (show naR lo hi we mo av le = (nxt we av le, true) by simp [naR, h])
    simp only [naOk, Bool.and_eq_true] at h
    obtain ⟨⟨h1, h2⟩, h3⟩ := h
    have g := good_iff.1 h1
    have g2 : 0 ≤ av ∧ av ≤ 15360 := by simpa [isAv] using h2
    have g3 : 0 ≤ le ∧ le ≤ 60 := by simpa [isLe] using h3
    go_enter Try.func17, Try.ntmps17
    go_wp2_with (first | (go_at_call 41; refine (rdGood_any _ _ _ _ _).mono ?_; rintro e w1 ⟨rfl, hg⟩; have cg := bkeep hg; have zg := blk_lt rfl hg) | (go_at_call 42; refine (rdAverage_any _ _).mono ?_; rintro e w' ⟨rfl, rfl⟩) | (go_at_call 43; refine (l1In_any _ _ _ _).mono ?_; rintro e w' ⟨rfl, rfl⟩) | (go_at_call 44; refine (rdNext_any _ _ _ _ _ _ _ (by omega) (by omega) (by omega) (by omega) (by omega) (by omega)).mono ?_; rintro e w2 ⟨rfl, hn⟩))
    go_ret2
    exact ⟨by rw [hR.out]; rfl, (by repeat (first | (with_reducible exact b0 _) | (with_reducible refine ba ?_ _) | (with_reducible refine bd ?_ _) | (with_reducible refine Below.drew ?_) | (with_reducible refine bs ?_ (by first | exact Nat.le_refl _ | exact Nat.le_add_right _ _ | omega) _) | (with_reducible refine bt ?_ (by assumption))))⟩
  · have hR := Lib.hid (show naR lo hi we mo av le = (0, false) by simp [naR, h])
    have H := Lib.hid h
    clear h
    go_enter Try.func17, Try.ntmps17
    go_wp2_with (first | (go_at_call 41; refine (rdGood_any _ _ _ _ _).mono ?_; rintro e w1 ⟨rfl, hg⟩; have cg := bkeep hg; have zg := blk_lt rfl hg) | (go_at_call 42; refine (rdAverage_any _ _).mono ?_; rintro e w' ⟨rfl, rfl⟩) | (go_at_call 43; refine (l1In_any _ _ _ _).mono ?_; rintro e w' ⟨rfl, rfl⟩))
    all_goals first | (go_ret2; exact ⟨by rw [hR.out]; rfl, (by repeat (first | (with_reducible exact b0 _) | (with_reducible refine ba ?_ _) | (with_reducible refine bd ?_ _) | (with_reducible refine Below.drew ?_) | (with_reducible refine bs ?_ (by first | exact Nat.le_refl _ | exact Nat.le_add_right _ _ | omega) _) | (with_reducible refine bt ?_ (by assumption))))⟩) | (exfalso; apply H.out; simp_all [naOk, isLe])
theorem implNextAverage_any (lo hi we mo av le : Int) (w : World) :
    Calls Try.prog 18 #[.agg #[.int .i64 lo, .int .i64 hi, .int .i64 we, .int .i64 mo], .int .i64 av, .int .i64 le] w fun e w' => e = .returned (.tuple #[.int .i64 (naR lo hi we mo av le).1, .bool (naR lo hi we mo av le).2]) ∧ Below w.heap.size w w' := by
  by_cases h : naOk lo hi we mo av le = true
  · have hR := Lib.hid (show naR lo hi we mo av le = (nxt we av le, true) by simp [naR, h])
    simp only [naOk, Bool.and_eq_true] at h
    obtain ⟨⟨h1, h2⟩, h3⟩ := h
    have g := good_iff.1 h1
    have g2 : 0 ≤ av ∧ av ≤ 15360 := by simpa [isAv] using h2
    have g3 : 0 ≤ le ∧ le ≤ 60 := by simpa [isLe] using h3
    go_enter Try.func18, Try.ntmps18
    go_wp2_with (first | (go_at_call 16; refine (implIsEarly_any _ _ _ _ _).mono ?_; rintro e w1 ⟨rfl, hg⟩; have cg := bkeep hg; have zg := blk_lt rfl hg) | (go_at_call 45; refine (isAverage_any _ _).mono ?_; rintro e w' ⟨rfl, rfl⟩) | (go_at_call 46; refine (isLength_any _ _).mono ?_; rintro e w' ⟨rfl, rfl⟩) | (go_at_call 47; refine (nextAverage_any _ _ _ _ _ _ _ (by omega) (by omega) (by omega) (by omega) (by omega) (by omega)).mono ?_; rintro e w2 ⟨rfl, hn⟩))
    go_ret2
    exact ⟨by rw [hR.out]; rfl, (by repeat (first | (with_reducible exact b0 _) | (with_reducible refine ba ?_ _) | (with_reducible refine bd ?_ _) | (with_reducible refine Below.drew ?_) | (with_reducible refine bs ?_ (by first | exact Nat.le_refl _ | exact Nat.le_add_right _ _ | omega) _) | (with_reducible refine bt ?_ (by assumption))))⟩
  · have hR := Lib.hid (show naR lo hi we mo av le = (0, false) by simp [naR, h])
    have H := Lib.hid h
    clear h
    go_enter Try.func18, Try.ntmps18
    go_wp2_with (first | (go_at_call 16; refine (implIsEarly_any _ _ _ _ _).mono ?_; rintro e w1 ⟨rfl, hg⟩; have cg := bkeep hg; have zg := blk_lt rfl hg) | (go_at_call 45; refine (isAverage_any _ _).mono ?_; rintro e w' ⟨rfl, rfl⟩) | (go_at_call 46; refine (isLength_any _ _).mono ?_; rintro e w' ⟨rfl, rfl⟩))
    all_goals first | (go_ret2; exact ⟨by rw [hR.out]; rfl, (by repeat (first | (with_reducible exact b0 _) | (with_reducible refine ba ?_ _) | (with_reducible refine bd ?_ _) | (with_reducible refine Below.drew ?_) | (with_reducible refine bs ?_ (by first | exact Nat.le_refl _ | exact Nat.le_add_right _ _ | omega) _) | (with_reducible refine bt ?_ (by assumption))))⟩) | (exfalso; apply H.out; simp_all [naOk])
end Go.Proofs.Ytpgddjnjojkllaa
