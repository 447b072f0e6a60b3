/- The contracts of the token bucket's functions that only compute. Each says what the call returns for the given arguments; old memory is left as it was. No condition but those named in each. -/
import Derived.Test.YtleknfigikpacaaRows
import Derived.Test.YtleknfigikpacaaBase
namespace Go.Proofs.Ytleknfigikpacaa
open Go.ChangeShapes Go.WideShapes Go.ChangeAt Go.RowKit

def bok (r c t : Int) : Bool := decide (0 ≤ r ∧ r ≤ 100000 ∧ 0 ≤ c ∧ c ≤ 1000000 ∧ 0 ≤ t ∧ t ≤ c)
theorem bok_iff {r c t : Int} : bok r c t = true ↔ 0 ≤ r ∧ r ≤ 100000 ∧ 0 ≤ c ∧ c ≤ 1000000 ∧ 0 ≤ t ∧ t ≤ c := by simp [bok]
def sok (n : Int) : Bool := decide (1 ≤ n ∧ n ≤ 1500)
theorem sok_iff {n : Int} : sok n = true ↔ 1 ≤ n ∧ n ≤ 1500 := by simp [sok]
def tok (n : Int) : Bool := decide (0 ≤ n ∧ n ≤ 100000)
theorem tok_iff {n : Int} : tok n = true ↔ 0 ≤ n ∧ n ≤ 100000 := by simp [tok]
theorem toBucket_any (a b c : Int) (w : World) :
    Calls Try.prog 15 #[.agg #[.int .i64 a, .int .i64 b, .int .i64 c]] w fun e w' => e = .returned (.agg #[.int .i64 a, .int .i64 b, .int .i64 c]) ∧ Below w.heap.size w w' := by
  go_enter Try.func15, Try.ntmps15
  go_wp2
  exact bodyPost_ret (v := .agg #[.int .i64 a, .int .i64 b, .int .i64 c]) (by simp [results, Try.results15, go_sem]) rfl ⟨rfl, (by repeat (first | (with_reducible exact b0 _) | (with_reducible refine ba ?_ _) | (with_reducible refine bd ?_ _) | (with_reducible refine Below.drew ?_) | (with_reducible refine bs ?_ (by first | exact Nat.le_refl _ | exact Nat.le_add_right _ _ | omega) _) | (with_reducible refine bt ?_ (by assumption))))⟩
theorem eqBucket_any (a b c : Int) (w : World) :
    Calls Try.prog 21 #[.agg #[.int .i64 a, .int .i64 b, .int .i64 c], .agg #[.int .i64 a, .int .i64 b, .int .i64 c]] w fun e w' => e = .returned (.bool true) ∧ Below w.heap.size w w' := by
  go_enter Try.func21, Try.ntmps21
  go_wp2
  go_ret
  exact ⟨rfl, (by repeat (first | (with_reducible exact b0 _) | (with_reducible refine ba ?_ _) | (with_reducible refine bd ?_ _) | (with_reducible refine Below.drew ?_) | (with_reducible refine bs ?_ (by first | exact Nat.le_refl _ | exact Nat.le_add_right _ _ | omega) _) | (with_reducible refine bt ?_ (by assumption))))⟩
theorem l1In_any (a b c : Int) (w : World) :
    Calls Try.prog 51 #[.int .i64 a, .int .i64 b, .int .i64 c] w fun e w' => e = .returned (.bool (decide (b ≤ a ∧ a ≤ c))) ∧ w = w' := by
  go_enter Try.func51, Try.ntmps51
  go_wp2
  all_goals
    go_ret
    exact ⟨ret_b (by rw [Bool.eq_iff_iff]; simp; try omega), rfl⟩
theorem buRate_any (a : Int) (w : World) : Calls Try.prog 55 #[.int .i64 a] w fun e w' => e = .returned (.bool (decide (0 ≤ a ∧ a ≤ 100000))) ∧ w = w' := by
  go_enter Try.func55, Try.ntmps55
  go_wp2_with (go_at_call 51; refine (l1In_any _ _ _ _).mono ?_; rintro e w' ⟨rfl, rfl⟩)
  go_ret
  exact ⟨ret_b (by rw [Bool.eq_iff_iff]; simp), rfl⟩
theorem buSize_any (a : Int) (w : World) : Calls Try.prog 47 #[.int .i64 a] w fun e w' => e = .returned (.bool (sok a)) ∧ w = w' := by
  go_enter Try.func47, Try.ntmps47
  go_wp2_with (go_at_call 51; refine (l1In_any _ _ _ _).mono ?_; rintro e w' ⟨rfl, rfl⟩)
  go_ret
  exact ⟨ret_b (by rw [Bool.eq_iff_iff]; simp [sok]), rfl⟩
theorem buGood_any (a b c : Int) (w : World) :
    Calls Try.prog 45 #[.agg #[.int .i64 a, .int .i64 b, .int .i64 c]] w fun e w' => e = .returned (.bool (bok a b c)) ∧ Below w.heap.size w w' := by
  go_enter Try.func45, Try.ntmps45
  go_wp2_with (first | (go_at_call 51; refine (l1In_any _ _ _ _).mono ?_; rintro e w' ⟨rfl, rfl⟩) | (go_at_call 55; refine (buRate_any _ _).mono ?_; rintro e w' ⟨rfl, rfl⟩))
  all_goals
    go_ret
    exact ⟨ret_b (by rw [Bool.eq_iff_iff]; simp [bok]; try omega), (by repeat (first | (with_reducible exact b0 _) | (with_reducible refine ba ?_ _) | (with_reducible refine bd ?_ _) | (with_reducible refine Below.drew ?_) | (with_reducible refine bs ?_ (by first | exact Nat.le_refl _ | exact Nat.le_add_right _ _ | omega) _) | (with_reducible refine bt ?_ (by assumption))))⟩
theorem specIsBucket_any (a b c : Int) (w : World) :
    Calls Try.prog 14 #[.agg #[.int .i64 a, .int .i64 b, .int .i64 c]] w fun e w' => e = .returned (.bool (bok a b c)) ∧ Below w.heap.size w w' := by
  go_enter Try.func14, Try.ntmps14
  go_wp2_with fail
  refine (buGood_any _ _ _ _).mono ?_
  rintro e w1 ⟨rfl, hb1⟩
  have c1 := bkeep hb1
  have z1 := blk_lt rfl hb1
  go_wp2
  go_ret
  exact ⟨rfl, (by repeat (first | (with_reducible exact b0 _) | (with_reducible refine ba ?_ _) | (with_reducible refine bd ?_ _) | (with_reducible refine Below.drew ?_) | (with_reducible refine bs ?_ (by first | exact Nat.le_refl _ | exact Nat.le_add_right _ _ | omega) _) | (with_reducible refine bt ?_ (by assumption))))⟩
theorem isFlowRate_any (a : Int) (w : World) : Calls Try.prog 46 #[.int .i64 a] w fun e w' => e = .returned (.bool (decide (0 ≤ a ∧ a ≤ 100000))) ∧ w = w' := by
  go_enter Try.func46, Try.ntmps46
  go_wp2
  all_goals
    go_ret
    exact ⟨ret_b (by rw [Bool.eq_iff_iff]; simp; try omega), rfl⟩
theorem isSize_any (a : Int) (w : World) : Calls Try.prog 48 #[.int .i64 a] w fun e w' => e = .returned (.bool (sok a)) ∧ w = w' := by
  go_enter Try.func48, Try.ntmps48
  go_wp2
  all_goals
    go_ret
    exact ⟨ret_b (by rw [Bool.eq_iff_iff]; simp [sok]; try omega), rfl⟩
theorem isTicks_any (a : Int) (w : World) : Calls Try.prog 53 #[.int .i64 a] w fun e w' => e = .returned (.bool (tok a)) ∧ w = w' := by
  go_enter Try.func53, Try.ntmps53
  go_wp2
  all_goals
    go_ret
    exact ⟨ret_b (by rw [Bool.eq_iff_iff]; simp [tok]; try omega), rfl⟩
theorem implIsBucket_any (a b c : Int) (w : World) :
    Calls Try.prog 16 #[.agg #[.int .i64 a, .int .i64 b, .int .i64 c]] w fun e w' => e = .returned (.bool (bok a b c)) ∧ Below w.heap.size w w' := by
  go_enter Try.func16, Try.ntmps16
  go_wp2_with (go_at_call 46; refine (isFlowRate_any _ _).mono ?_; rintro e w' ⟨rfl, rfl⟩)
  all_goals
    go_ret
    exact ⟨ret_b (by rw [Bool.eq_iff_iff]; simp [bok]; try omega), (by repeat (first | (with_reducible exact b0 _) | (with_reducible refine ba ?_ _) | (with_reducible refine bd ?_ _) | (with_reducible refine Below.drew ?_) | (with_reducible refine bs ?_ (by first | exact Nat.le_refl _ | exact Nat.le_add_right _ _ | omega) _) | (with_reducible refine bt ?_ (by assumption))))⟩

/-! ### FullBucket -/
def fbR (r c : Int) : Int × Int × Bool := if bok r c c then (r, c, true) else (0, 0, false)
theorem specFullBucket_any (r c : Int) (w : World) :
    Calls Try.prog 19 #[.int .i64 r, .int .i64 c] w fun e w' => e = .returned (.tuple #[.agg #[.int .i64 (fbR r c).1, .int .i64 (fbR r c).2.1, .int .i64 (fbR r c).2.1], .bool (fbR r c).2.2]) ∧ Below w.heap.size w w' := by
  by_cases h : bok r c c = true
  · have hR := Lib.hid (show fbR r c = (r, c, true) by simp [fbR, h])
    go_enter Try.func19, Try.ntmps19
    go_wp2_with (go_at_call 45; refine (buGood_any _ _ _ _).mono ?_; rintro e w1 ⟨rfl, hg⟩; have zhg := hg.size; (try simp at zhg); have c0hg := fun o => bkeep hg (w.heap.size) o (by first | omega | (simp; done) | (simp; omega)); have f0hg := fun o => bfree hg (w.heap.size) o (by first | omega | (simp; done) | (simp; omega)); have c1hg := fun o => bkeep hg (w.heap.size + 1) o (by first | omega | (simp; done) | (simp; omega)); have f1hg := fun o => bfree hg (w.heap.size + 1) o (by first | omega | (simp; done) | (simp; omega)))
    exact bodyPost_ret (v := .tuple #[.agg #[.int .i64 r, .int .i64 c, .int .i64 c], .bool true]) (by simp [results, Try.results19, go_sem, c0hg]) rfl ⟨by rw [hR.out], (by repeat (first | (with_reducible exact b0 _) | (with_reducible refine ba ?_ _) | (with_reducible refine bd ?_ _) | (with_reducible refine Below.drew ?_) | (with_reducible refine bs ?_ (by first | exact Nat.le_refl _ | exact Nat.le_add_right _ _ | omega) _) | (with_reducible refine bt ?_ (by assumption))))⟩
  · have hR := Lib.hid (show fbR r c = (0, 0, false) by simp [fbR, h])
    go_enter Try.func19, Try.ntmps19
    go_wp2_with (go_at_call 45; refine (buGood_any _ _ _ _).mono ?_; rintro e w1 ⟨rfl, hg⟩; have zhg := hg.size; (try simp at zhg); have c0hg := fun o => bkeep hg (w.heap.size) o (by first | omega | (simp; done) | (simp; omega)); have f0hg := fun o => bfree hg (w.heap.size) o (by first | omega | (simp; done) | (simp; omega)); have c1hg := fun o => bkeep hg (w.heap.size + 1) o (by first | omega | (simp; done) | (simp; omega)); have f1hg := fun o => bfree hg (w.heap.size + 1) o (by first | omega | (simp; done) | (simp; omega)))
    exact bodyPost_ret (v := .tuple #[.agg #[.int .i64 0, .int .i64 0, .int .i64 0], .bool false]) (by simp [results, Try.results19, go_sem, c0hg]) rfl ⟨by rw [hR.out], (by repeat (first | (with_reducible exact b0 _) | (with_reducible refine ba ?_ _) | (with_reducible refine bd ?_ _) | (with_reducible refine Below.drew ?_) | (with_reducible refine bs ?_ (by first | exact Nat.le_refl _ | exact Nat.le_add_right _ _ | omega) _) | (with_reducible refine bt ?_ (by assumption))))⟩
theorem implFullBucket_any (r c : Int) (w : World) :
    Calls Try.prog 20 #[.int .i64 r, .int .i64 c] w fun e w' => e = .returned (.tuple #[.agg #[.int .i64 (fbR r c).1, .int .i64 (fbR r c).2.1, .int .i64 (fbR r c).2.1], .bool (fbR r c).2.2]) ∧ Below w.heap.size w w' := by
  by_cases h : bok r c c = true
  · have hR := Lib.hid (show fbR r c = (r, c, true) by simp [fbR, h])
    go_enter Try.func20, Try.ntmps20
    go_wp2_with (go_at_call 16; refine (implIsBucket_any _ _ _ _).mono ?_; rintro e w1 ⟨rfl, hg⟩; have zhg := hg.size; (try simp at zhg); have c0hg := fun o => bkeep hg (w.heap.size) o (by first | omega | (simp; done) | (simp; omega)); have f0hg := fun o => bfree hg (w.heap.size) o (by first | omega | (simp; done) | (simp; omega)); have c1hg := fun o => bkeep hg (w.heap.size + 1) o (by first | omega | (simp; done) | (simp; omega)); have f1hg := fun o => bfree hg (w.heap.size + 1) o (by first | omega | (simp; done) | (simp; omega)))
    exact bodyPost_ret (v := .tuple #[.agg #[.int .i64 r, .int .i64 c, .int .i64 c], .bool true]) (by simp [results, Try.results20, go_sem, c0hg]) rfl ⟨by rw [hR.out], (by repeat (first | (with_reducible exact b0 _) | (with_reducible refine ba ?_ _) | (with_reducible refine bd ?_ _) | (with_reducible refine Below.drew ?_) | (with_reducible refine bs ?_ (by first | exact Nat.le_refl _ | exact Nat.le_add_right _ _ | omega) _) | (with_reducible refine bt ?_ (by assumption))))⟩
  · have hR := Lib.hid (show fbR r c = (0, 0, false) by simp [fbR, h])
    go_enter Try.func20, Try.ntmps20
    go_wp2_with (go_at_call 16; refine (implIsBucket_any _ _ _ _).mono ?_; rintro e w1 ⟨rfl, hg⟩; have zhg := hg.size; (try simp at zhg); have c0hg := fun o => bkeep hg (w.heap.size) o (by first | omega | (simp; done) | (simp; omega)); have f0hg := fun o => bfree hg (w.heap.size) o (by first | omega | (simp; done) | (simp; omega)); have c1hg := fun o => bkeep hg (w.heap.size + 1) o (by first | omega | (simp; done) | (simp; omega)); have f1hg := fun o => bfree hg (w.heap.size + 1) o (by first | omega | (simp; done) | (simp; omega)))
    exact bodyPost_ret (v := .tuple #[.agg #[.int .i64 0, .int .i64 0, .int .i64 0], .bool false]) (by simp [results, Try.results20, go_sem, c0hg]) rfl ⟨by rw [hR.out], (by repeat (first | (with_reducible exact b0 _) | (with_reducible refine ba ?_ _) | (with_reducible refine bd ?_ _) | (with_reducible refine Below.drew ?_) | (with_reducible refine bs ?_ (by first | exact Nat.le_refl _ | exact Nat.le_add_right _ _ | omega) _) | (with_reducible refine bt ?_ (by assumption))))⟩

/-! ### CanSpend -/
def csR (r c t n : Int) : Bool × Bool := if bok r c t && sok n then (decide (n ≤ t), true) else (false, false)
theorem specCanSpend_any (r c t n : Int) (w : World) :
    Calls Try.prog 17 #[.agg #[.int .i64 r, .int .i64 c, .int .i64 t], .int .i64 n] w fun e w' => e = .returned (.tuple #[.bool (csR r c t n).1, .bool (csR r c t n).2]) ∧ Below w.heap.size w w' := by
  by_cases h : (bok r c t && sok n) = true
  · have hR := Lib.hid (show csR r c t n = (decide (n ≤ t), true) by rw [csR, if_pos h])
    simp only [Bool.and_eq_true] at h
    obtain ⟨h1, h2⟩ := h
    go_enter Try.func17, Try.ntmps17
    go_wp2_with (first | (go_at_call 45; refine (buGood_any _ _ _ _).mono ?_; rintro e w1 ⟨rfl, hg⟩; have zhg := hg.size; (try simp at zhg); have c0hg := fun o => bkeep hg (w.heap.size) o (by first | omega | (simp; done) | (simp; omega)); have f0hg := fun o => bfree hg (w.heap.size) o (by first | omega | (simp; done) | (simp; omega))) | (go_at_call 47; refine (buSize_any _ _).mono ?_; rintro e w' ⟨rfl, rfl⟩))
    go_ret2
    exact ⟨by rw [hR.out]; rfl, (by repeat (first | (with_reducible exact b0 _) | (with_reducible refine ba ?_ _) | (with_reducible refine bd ?_ _) | (with_reducible refine Below.drew ?_) | (with_reducible refine bs ?_ (by first | exact Nat.le_refl _ | exact Nat.le_add_right _ _ | omega) _) | (with_reducible refine bt ?_ (by assumption))))⟩
  · have hR := Lib.hid (show csR r c t n = (false, false) by rw [csR, if_neg h])
    have H := Lib.hid h
    clear h
    go_enter Try.func17, Try.ntmps17
    go_wp2_with (first | (go_at_call 45; refine (buGood_any _ _ _ _).mono ?_; rintro e w1 ⟨rfl, hg⟩; have zhg := hg.size; (try simp at zhg); have c0hg := fun o => bkeep hg (w.heap.size) o (by first | omega | (simp; done) | (simp; omega)); have f0hg := fun o => bfree hg (w.heap.size) o (by first | omega | (simp; done) | (simp; omega))) | (go_at_call 47; refine (buSize_any _ _).mono ?_; rintro e w' ⟨rfl, rfl⟩))
    all_goals first | (go_ret2; exact ⟨by rw [hR.out]; rfl, (by repeat (first | (with_reducible exact b0 _) | (with_reducible refine ba ?_ _) | (with_reducible refine bd ?_ _) | (with_reducible refine Below.drew ?_) | (with_reducible refine bs ?_ (by first | exact Nat.le_refl _ | exact Nat.le_add_right _ _ | omega) _) | (with_reducible refine bt ?_ (by assumption))))⟩) | (exfalso; apply H.out; simp_all)
theorem implCanSpend_any (r c t n : Int) (w : World) :
    Calls Try.prog 18 #[.agg #[.int .i64 r, .int .i64 c, .int .i64 t], .int .i64 n] w fun e w' => e = .returned (.tuple #[.bool (csR r c t n).1, .bool (csR r c t n).2]) ∧ Below w.heap.size w w' := by
  by_cases h : (bok r c t && sok n) = true
  · have hR := Lib.hid (show csR r c t n = (decide (n ≤ t), true) by rw [csR, if_pos h])
    simp only [Bool.and_eq_true] at h
    obtain ⟨h1, h2⟩ := h
    go_enter Try.func18, Try.ntmps18
    go_wp2_with (first | (go_at_call 16; refine (implIsBucket_any _ _ _ _).mono ?_; rintro e w1 ⟨rfl, hg⟩; have zhg := hg.size; (try simp at zhg); have c0hg := fun o => bkeep hg (w.heap.size) o (by first | omega | (simp; done) | (simp; omega)); have f0hg := fun o => bfree hg (w.heap.size) o (by first | omega | (simp; done) | (simp; omega))) | (go_at_call 48; refine (isSize_any _ _).mono ?_; rintro e w' ⟨rfl, rfl⟩))
    go_ret2
    exact ⟨by rw [hR.out]; rfl, (by repeat (first | (with_reducible exact b0 _) | (with_reducible refine ba ?_ _) | (with_reducible refine bd ?_ _) | (with_reducible refine Below.drew ?_) | (with_reducible refine bs ?_ (by first | exact Nat.le_refl _ | exact Nat.le_add_right _ _ | omega) _) | (with_reducible refine bt ?_ (by assumption))))⟩
  · have hR := Lib.hid (show csR r c t n = (false, false) by rw [csR, if_neg h])
    have H := Lib.hid h
    clear h
    go_enter Try.func18, Try.ntmps18
    go_wp2_with (first | (go_at_call 16; refine (implIsBucket_any _ _ _ _).mono ?_; rintro e w1 ⟨rfl, hg⟩; have zhg := hg.size; (try simp at zhg); have c0hg := fun o => bkeep hg (w.heap.size) o (by first | omega | (simp; done) | (simp; omega)); have f0hg := fun o => bfree hg (w.heap.size) o (by first | omega | (simp; done) | (simp; omega))) | (go_at_call 48; refine (isSize_any _ _).mono ?_; rintro e w' ⟨rfl, rfl⟩))
    all_goals first | (go_ret2; exact ⟨by rw [hR.out]; rfl, (by repeat (first | (with_reducible exact b0 _) | (with_reducible refine ba ?_ _) | (with_reducible refine bd ?_ _) | (with_reducible refine Below.drew ?_) | (with_reducible refine bs ?_ (by first | exact Nat.le_refl _ | exact Nat.le_add_right _ _ | omega) _) | (with_reducible refine bt ?_ (by assumption))))⟩) | (exfalso; apply H.out; simp_all)

/-! ### SpendFrom -/
def sfOk (r c t n : Int) : Bool := bok r c t && sok n && decide (n ≤ t)
def sfR (r c t n : Int) : Int × Int × Int × Bool := if sfOk r c t n then (r, c, t - n, true) else (0, 0, 0, false)
theorem specSpendFrom_any (r c t n : Int) (w : World) :
    Calls Try.prog 22 #[.agg #[.int .i64 r, .int .i64 c, .int .i64 t], .int .i64 n] w fun e w' => e = .returned (.tuple #[.agg #[.int .i64 (sfR r c t n).1, .int .i64 (sfR r c t n).2.1, .int .i64 (sfR r c t n).2.2.1], .bool (sfR r c t n).2.2.2]) ∧ Below w.heap.size w w' := by
  rcases h1 : bok r c t with _ | _
  · have hR := Lib.hid (show sfR r c t n = (0, 0, 0, false) by simp [sfR, sfOk, h1])
    go_enter Try.func22, Try.ntmps22
    go_wp2_with (first | (go_at_call 45; refine (buGood_any _ _ _ _).mono ?_; rintro e w1 ⟨rfl, hg⟩; have zhg := hg.size; (try simp at zhg); have c0hg := fun o => bkeep hg (w.heap.size) o (by first | omega | (simp; done) | (simp; omega)); have f0hg := fun o => bfree hg (w.heap.size) o (by first | omega | (simp; done) | (simp; omega)); have c1hg := fun o => bkeep hg (w.heap.size + 1) o (by first | omega | (simp; done) | (simp; omega)); have f1hg := fun o => bfree hg (w.heap.size + 1) o (by first | omega | (simp; done) | (simp; omega))) | (go_at_call 47; refine (buSize_any _ _).mono ?_; rintro e w' ⟨rfl, rfl⟩))
    exact bodyPost_ret (v := .tuple #[.agg #[.int .i64 0, .int .i64 0, .int .i64 0], .bool false]) (by simp [results, Try.results22, go_sem, c1hg]) rfl ⟨by rw [hR.out], (by repeat (first | (with_reducible exact b0 _) | (with_reducible refine ba ?_ _) | (with_reducible refine bd ?_ _) | (with_reducible refine Below.drew ?_) | (with_reducible refine bs ?_ (by first | exact Nat.le_refl _ | exact Nat.le_add_right _ _ | omega) _) | (with_reducible refine bt ?_ (by assumption))))⟩
  rcases h2 : sok n with _ | _
  · have hR := Lib.hid (show sfR r c t n = (0, 0, 0, false) by simp [sfR, sfOk, h1, h2])
    go_enter Try.func22, Try.ntmps22
    go_wp2_with (first | (go_at_call 45; refine (buGood_any _ _ _ _).mono ?_; rintro e w1 ⟨rfl, hg⟩; have zhg := hg.size; (try simp at zhg); have c0hg := fun o => bkeep hg (w.heap.size) o (by first | omega | (simp; done) | (simp; omega)); have f0hg := fun o => bfree hg (w.heap.size) o (by first | omega | (simp; done) | (simp; omega)); have c1hg := fun o => bkeep hg (w.heap.size + 1) o (by first | omega | (simp; done) | (simp; omega)); have f1hg := fun o => bfree hg (w.heap.size + 1) o (by first | omega | (simp; done) | (simp; omega))) | (go_at_call 47; refine (buSize_any _ _).mono ?_; rintro e w' ⟨rfl, rfl⟩))
    exact bodyPost_ret (v := .tuple #[.agg #[.int .i64 0, .int .i64 0, .int .i64 0], .bool false]) (by simp [results, Try.results22, go_sem, c1hg]) rfl ⟨by rw [hR.out], (by repeat (first | (with_reducible exact b0 _) | (with_reducible refine ba ?_ _) | (with_reducible refine bd ?_ _) | (with_reducible refine Below.drew ?_) | (with_reducible refine bs ?_ (by first | exact Nat.le_refl _ | exact Nat.le_add_right _ _ | omega) _) | (with_reducible refine bt ?_ (by assumption))))⟩
  by_cases h3 : n ≤ t
  rotate_left
  · have hR := Lib.hid (show sfR r c t n = (0, 0, 0, false) by simp [sfR, sfOk, h1, h2, h3])
    go_enter Try.func22, Try.ntmps22
    go_wp2_with (first | (go_at_call 45; refine (buGood_any _ _ _ _).mono ?_; rintro e w1 ⟨rfl, hg⟩; have zhg := hg.size; (try simp at zhg); have c0hg := fun o => bkeep hg (w.heap.size) o (by first | omega | (simp; done) | (simp; omega)); have f0hg := fun o => bfree hg (w.heap.size) o (by first | omega | (simp; done) | (simp; omega)); have c1hg := fun o => bkeep hg (w.heap.size + 1) o (by first | omega | (simp; done) | (simp; omega)); have f1hg := fun o => bfree hg (w.heap.size + 1) o (by first | omega | (simp; done) | (simp; omega))) | (go_at_call 47; refine (buSize_any _ _).mono ?_; rintro e w' ⟨rfl, rfl⟩))
    exact bodyPost_ret (v := .tuple #[.agg #[.int .i64 0, .int .i64 0, .int .i64 0], .bool false]) (by simp [results, Try.results22, go_sem, c1hg]) rfl ⟨by rw [hR.out], (by repeat (first | (with_reducible exact b0 _) | (with_reducible refine ba ?_ _) | (with_reducible refine bd ?_ _) | (with_reducible refine Below.drew ?_) | (with_reducible refine bs ?_ (by first | exact Nat.le_refl _ | exact Nat.le_add_right _ _ | omega) _) | (with_reducible refine bt ?_ (by assumption))))⟩
  have hR := Lib.hid (show sfR r c t n = (r, c, t - n, true) by simp [sfR, sfOk, h1, h2, h3])
  have g := bok_iff.1 h1
  have g2 := sok_iff.1 h2
  go_enter Try.func22, Try.ntmps22
  go_wp2_with (first | (go_at_call 45; refine (buGood_any _ _ _ _).mono ?_; rintro e w1 ⟨rfl, hg⟩; have zhg := hg.size; (try simp at zhg); have c0hg := fun o => bkeep hg (w.heap.size) o (by first | omega | (simp; done) | (simp; omega)); have f0hg := fun o => bfree hg (w.heap.size) o (by first | omega | (simp; done) | (simp; omega)); have c1hg := fun o => bkeep hg (w.heap.size + 1) o (by first | omega | (simp; done) | (simp; omega)); have f1hg := fun o => bfree hg (w.heap.size + 1) o (by first | omega | (simp; done) | (simp; omega))) | (go_at_call 47; refine (buSize_any _ _).mono ?_; rintro e w' ⟨rfl, rfl⟩))
  exact bodyPost_ret (v := .tuple #[.agg #[.int .i64 r, .int .i64 c, .int .i64 (t-n)], .bool true]) (by simp [results, Try.results22, go_sem, c1hg]) rfl ⟨by rw [hR.out], (by repeat (first | (with_reducible exact b0 _) | (with_reducible refine ba ?_ _) | (with_reducible refine bd ?_ _) | (with_reducible refine Below.drew ?_) | (with_reducible refine bs ?_ (by first | exact Nat.le_refl _ | exact Nat.le_add_right _ _ | omega) _) | (with_reducible refine bt ?_ (by assumption))))⟩
theorem implSpendFrom_any (r c t n : Int) (w : World) :
    Calls Try.prog 23 #[.agg #[.int .i64 r, .int .i64 c, .int .i64 t], .int .i64 n] w fun e w' => e = .returned (.tuple #[.agg #[.int .i64 (sfR r c t n).1, .int .i64 (sfR r c t n).2.1, .int .i64 (sfR r c t n).2.2.1], .bool (sfR r c t n).2.2.2]) ∧ Below w.heap.size w w' := by
  rcases h1 : bok r c t with _ | _
  · have hR := Lib.hid (show sfR r c t n = (0, 0, 0, false) by simp [sfR, sfOk, h1])
    go_enter Try.func23, Try.ntmps23
    go_wp2_with (first | (go_at_call 16; refine (implIsBucket_any _ _ _ _).mono ?_; rintro e w1 ⟨rfl, hg⟩; have zhg := hg.size; (try simp at zhg); have c0hg := fun o => bkeep hg (w.heap.size) o (by first | omega | (simp; done) | (simp; omega)); have f0hg := fun o => bfree hg (w.heap.size) o (by first | omega | (simp; done) | (simp; omega)); have c1hg := fun o => bkeep hg (w.heap.size + 1) o (by first | omega | (simp; done) | (simp; omega)); have f1hg := fun o => bfree hg (w.heap.size + 1) o (by first | omega | (simp; done) | (simp; omega))) | (go_at_call 48; refine (isSize_any _ _).mono ?_; rintro e w' ⟨rfl, rfl⟩))
    exact bodyPost_ret (v := .tuple #[.agg #[.int .i64 0, .int .i64 0, .int .i64 0], .bool false]) (by simp [results, Try.results23, go_sem, c1hg]) rfl ⟨by rw [hR.out], (by repeat (first | (with_reducible exact b0 _) | (with_reducible refine ba ?_ _) | (with_reducible refine bd ?_ _) | (with_reducible refine Below.drew ?_) | (with_reducible refine bs ?_ (by first | exact Nat.le_refl _ | exact Nat.le_add_right _ _ | omega) _) | (with_reducible refine bt ?_ (by assumption))))⟩
  rcases h2 : sok n with _ | _
  · have hR := Lib.hid (show sfR r c t n = (0, 0, 0, false) by simp [sfR, sfOk, h1, h2])
    go_enter Try.func23, Try.ntmps23
    go_wp2_with (first | (go_at_call 16; refine (implIsBucket_any _ _ _ _).mono ?_; rintro e w1 ⟨rfl, hg⟩; have zhg := hg.size; (try simp at zhg); have c0hg := fun o => bkeep hg (w.heap.size) o (by first | omega | (simp; done) | (simp; omega)); have f0hg := fun o => bfree hg (w.heap.size) o (by first | omega | (simp; done) | (simp; omega)); have c1hg := fun o => bkeep hg (w.heap.size + 1) o (by first | omega | (simp; done) | (simp; omega)); have f1hg := fun o => bfree hg (w.heap.size + 1) o (by first | omega | (simp; done) | (simp; omega))) | (go_at_call 48; refine (isSize_any _ _).mono ?_; rintro e w' ⟨rfl, rfl⟩))
    exact bodyPost_ret (v := .tuple #[.agg #[.int .i64 0, .int .i64 0, .int .i64 0], .bool false]) (by simp [results, Try.results23, go_sem, c1hg]) rfl ⟨by rw [hR.out], (by repeat (first | (with_reducible exact b0 _) | (with_reducible refine ba ?_ _) | (with_reducible refine bd ?_ _) | (with_reducible refine Below.drew ?_) | (with_reducible refine bs ?_ (by first | exact Nat.le_refl _ | exact Nat.le_add_right _ _ | omega) _) | (with_reducible refine bt ?_ (by assumption))))⟩
  by_cases h3 : n ≤ t
  rotate_left
  · have hR := Lib.hid (show sfR r c t n = (0, 0, 0, false) by simp [sfR, sfOk, h1, h2, h3])
    go_enter Try.func23, Try.ntmps23
    go_wp2_with (first | (go_at_call 16; refine (implIsBucket_any _ _ _ _).mono ?_; rintro e w1 ⟨rfl, hg⟩; have zhg := hg.size; (try simp at zhg); have c0hg := fun o => bkeep hg (w.heap.size) o (by first | omega | (simp; done) | (simp; omega)); have f0hg := fun o => bfree hg (w.heap.size) o (by first | omega | (simp; done) | (simp; omega)); have c1hg := fun o => bkeep hg (w.heap.size + 1) o (by first | omega | (simp; done) | (simp; omega)); have f1hg := fun o => bfree hg (w.heap.size + 1) o (by first | omega | (simp; done) | (simp; omega))) | (go_at_call 48; refine (isSize_any _ _).mono ?_; rintro e w' ⟨rfl, rfl⟩))
    exact bodyPost_ret (v := .tuple #[.agg #[.int .i64 0, .int .i64 0, .int .i64 0], .bool false]) (by simp [results, Try.results23, go_sem, c1hg]) rfl ⟨by rw [hR.out], (by repeat (first | (with_reducible exact b0 _) | (with_reducible refine ba ?_ _) | (with_reducible refine bd ?_ _) | (with_reducible refine Below.drew ?_) | (with_reducible refine bs ?_ (by first | exact Nat.le_refl _ | exact Nat.le_add_right _ _ | omega) _) | (with_reducible refine bt ?_ (by assumption))))⟩
  have hR := Lib.hid (show sfR r c t n = (r, c, t - n, true) by simp [sfR, sfOk, h1, h2, h3])
  have g := bok_iff.1 h1
  have g2 := sok_iff.1 h2
  go_enter Try.func23, Try.ntmps23
  go_wp2_with (first | (go_at_call 16; refine (implIsBucket_any _ _ _ _).mono ?_; rintro e w1 ⟨rfl, hg⟩; have zhg := hg.size; (try simp at zhg); have c0hg := fun o => bkeep hg (w.heap.size) o (by first | omega | (simp; done) | (simp; omega)); have f0hg := fun o => bfree hg (w.heap.size) o (by first | omega | (simp; done) | (simp; omega)); have c1hg := fun o => bkeep hg (w.heap.size + 1) o (by first | omega | (simp; done) | (simp; omega)); have f1hg := fun o => bfree hg (w.heap.size + 1) o (by first | omega | (simp; done) | (simp; omega))) | (go_at_call 48; refine (isSize_any _ _).mono ?_; rintro e w' ⟨rfl, rfl⟩))
  exact bodyPost_ret (v := .tuple #[.agg #[.int .i64 r, .int .i64 c, .int .i64 (t-n)], .bool true]) (by simp [results, Try.results23, go_sem, c1hg]) rfl ⟨by rw [hR.out], (by repeat (first | (with_reducible exact b0 _) | (with_reducible refine ba ?_ _) | (with_reducible refine bd ?_ _) | (with_reducible refine Below.drew ?_) | (with_reducible refine bs ?_ (by first | exact Nat.le_refl _ | exact Nat.le_add_right _ _ | omega) _) | (with_reducible refine bt ?_ (by assumption))))⟩
end Go.Proofs.Ytleknfigikpacaa
