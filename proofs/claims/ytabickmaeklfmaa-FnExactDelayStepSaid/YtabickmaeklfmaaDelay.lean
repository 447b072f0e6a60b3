/- The contracts of IsDelay and NewDelay: what the call returns; old memory is left as it was. -/
import Derived.Test.YtabickmaeklfmaaRoot
namespace Go.Proofs.Ytabickmaeklfmaa
open Go.ChangeShapes Go.WideShapes Go.ChangeAt Go.RowKit
def dok (t i s c n : Int) : Bool := decide (1 ≤ t ∧ t ≤ 10000 ∧ 1 ≤ i ∧ i ≤ 10000 ∧ -1 ≤ s ∧ s ≤ 110000 ∧ 0 ≤ c ∧ c ≤ 1000 ∧ 0 ≤ n ∧ n ≤ 200000)
theorem dok_iff {t i s c n : Int} : dok t i s c n = true ↔ 1 ≤ t ∧ t ≤ 10000 ∧ 1 ≤ i ∧ i ≤ 10000 ∧ -1 ≤ s ∧ s ≤ 110000 ∧ 0 ≤ c ∧ c ≤ 1000 ∧ 0 ≤ n ∧ n ≤ 200000 := by simp [dok]
theorem toDelay_any (t i s : Int) (d : Bool) (c n : Int) (w : World) :
    Calls Try.prog 13 #[.agg #[.int .i64 t, .int .i64 i, .int .i64 s, .bool d, .int .i64 c, .int .i64 n]] w fun e w' => e = .returned (.agg #[.int .i64 t, .int .i64 i, .int .i64 s, .bool d, .int .i64 c, .int .i64 n]) ∧ Below w.heap.size w w' := by
  go_enter Try.func13, Try.ntmps13
  go_wp2
  exact bodyPost_ret (v := .agg #[.int .i64 t, .int .i64 i, .int .i64 s, .bool d, .int .i64 c, .int .i64 n]) (by simp [results, Try.results13, go_sem]) rfl ⟨rfl, (by repeat (first | (with_reducible exact b0 _) | (with_reducible refine ba ?_ _) | (with_reducible refine bd ?_ _) | (with_reducible refine Below.drew ?_) | (with_reducible refine bs ?_ (by first | exact Nat.le_refl _ | exact Nat.le_add_right _ _ | omega) _) | (with_reducible refine bt ?_ (by assumption))))⟩
theorem eqDelay_any (t i s : Int) (d : Bool) (c n : Int) (w : World) :
    Calls Try.prog 23 #[.agg #[.int .i64 t, .int .i64 i, .int .i64 s, .bool d, .int .i64 c, .int .i64 n], .agg #[.int .i64 t, .int .i64 i, .int .i64 s, .bool d, .int .i64 c, .int .i64 n]] w fun e w' => e = .returned (.bool true) ∧ Below w.heap.size w w' := by
  go_enter Try.func23, Try.ntmps23
  go_wp2
  go_ret
  exact ⟨rfl, (by repeat (first | (with_reducible exact b0 _) | (with_reducible refine ba ?_ _) | (with_reducible refine bd ?_ _) | (with_reducible refine Below.drew ?_) | (with_reducible refine bs ?_ (by first | exact Nat.le_refl _ | exact Nat.le_add_right _ _ | omega) _) | (with_reducible refine bt ?_ (by assumption))))⟩
theorem cdGood_any (t i s : Int) (d : Bool) (c n : Int) (w : World) :
    Calls Try.prog 36 #[.agg #[.int .i64 t, .int .i64 i, .int .i64 s, .bool d, .int .i64 c, .int .i64 n]] w fun e w' => e = .returned (.bool (dok t i s c n)) ∧ Below w.heap.size w w' := by
  go_enter Try.func36, Try.ntmps36
  go_wp2_with (first | (go_at_call 38; refine (l1In_any _ _ _ _).mono ?_; rintro e w' ⟨rfl, rfl⟩) | (go_at_call 41; refine (cdInterval_any _ _).mono ?_; rintro e w' ⟨rfl, rfl⟩))
  all_goals
    go_ret
    exact ⟨ret_b (by rw [Bool.eq_iff_iff]; simp [dok]; try omega), (by repeat (first | (with_reducible exact b0 _) | (with_reducible refine ba ?_ _) | (with_reducible refine bd ?_ _) | (with_reducible refine Below.drew ?_) | (with_reducible refine bs ?_ (by first | exact Nat.le_refl _ | exact Nat.le_add_right _ _ | omega) _) | (with_reducible refine bt ?_ (by assumption))))⟩
theorem specIsDelay_any (t i s : Int) (d : Bool) (c n : Int) (w : World) :
    Calls Try.prog 12 #[.agg #[.int .i64 t, .int .i64 i, .int .i64 s, .bool d, .int .i64 c, .int .i64 n]] w fun e w' => e = .returned (.bool (dok t i s c n)) ∧ Below w.heap.size w w' := by
  go_enter Try.func12, Try.ntmps12
  go_wp2_with fail
  refine (cdGood_any _ _ _ _ _ _ _).mono ?_
  rintro e w1 ⟨rfl, hb1⟩
  have c1 := bkeep hb1
  have z1 := blk_lt rfl hb1
  go_wp2
  go_ret
  exact ⟨rfl, (by repeat (first | (with_reducible exact b0 _) | (with_reducible refine ba ?_ _) | (with_reducible refine bd ?_ _) | (with_reducible refine Below.drew ?_) | (with_reducible refine bs ?_ (by first | exact Nat.le_refl _ | exact Nat.le_add_right _ _ | omega) _) | (with_reducible refine bt ?_ (by assumption))))⟩
theorem implIsDelay_any (t i s : Int) (d : Bool) (c n : Int) (w : World) :
    Calls Try.prog 14 #[.agg #[.int .i64 t, .int .i64 i, .int .i64 s, .bool d, .int .i64 c, .int .i64 n]] w fun e w' => e = .returned (.bool (dok t i s c n)) ∧ Below w.heap.size w w' := by
  go_enter Try.func14, Try.ntmps14
  go_wp2_with (first | (go_at_call 37; refine (isInterval_any _ _).mono ?_; rintro e w' ⟨rfl, rfl⟩))
  all_goals
    go_ret
    exact ⟨ret_b (by rw [Bool.eq_iff_iff]; simp [dok]; try omega), (by repeat (first | (with_reducible exact b0 _) | (with_reducible refine ba ?_ _) | (with_reducible refine bd ?_ _) | (with_reducible refine Below.drew ?_) | (with_reducible refine bs ?_ (by first | exact Nat.le_refl _ | exact Nat.le_add_right _ _ | omega) _) | (with_reducible refine bt ?_ (by assumption))))⟩
def ndR (t i : Int) : Int × Int × Int × Bool := if dok t i (-1) 0 0 then (t, i, -1, true) else (0, 0, 0, false)
set_option maxHeartbeats 400000 in
theorem specNewDelay_any (t i : Int) (w : World) :
    Calls Try.prog 21 #[.int .i64 t, .int .i64 i] w fun e w' => e = .returned (.tuple #[.agg #[.int .i64 (ndR t i).1, .int .i64 (ndR t i).2.1, .int .i64 (ndR t i).2.2.1, .bool false, .int .i64 0, .int .i64 0], .bool (ndR t i).2.2.2]) ∧ Below w.heap.size w w' := by
  rcases h1 : dok t i (-1) 0 0 with _ | _
  · have hR := Lib.hid (show ndR t i = (0, 0, 0, false) by simp [ndR, h1])
    go_enter Try.func21, Try.ntmps21
    go_wp2_with (go_at_call 36; refine (cdGood_any _ _ _ _ _ _ _).mono ?_; rintro e w1 ⟨rfl, hg⟩; have zhg := hg.size; (try simp at zhg); have c0hg := fun o => bkeep hg (w.heap.size) o (by first | omega | (simp; done) | (simp; omega)); have f0hg := fun o => bfree hg (w.heap.size) o (by first | omega | (simp; done) | (simp; omega)); have c1hg := fun o => bkeep hg (w.heap.size + 1) o (by first | omega | (simp; done) | (simp; omega)); have f1hg := fun o => bfree hg (w.heap.size + 1) o (by first | omega | (simp; done) | (simp; omega)))
    exact bodyPost_ret (v := .tuple #[.agg #[.int .i64 0, .int .i64 0, .int .i64 0, .bool false, .int .i64 0, .int .i64 0], .bool false]) (by simp [results, Try.results21, go_sem, c0hg]) rfl ⟨by rw [hR.out], (by repeat (first | (with_reducible exact b0 _) | (with_reducible refine ba ?_ _) | (with_reducible refine bd ?_ _) | (with_reducible refine Below.drew ?_) | (with_reducible refine bs ?_ (by first | exact Nat.le_refl _ | exact Nat.le_add_right _ _ | omega) _) | (with_reducible refine bt ?_ (by assumption))))⟩
  have hR := Lib.hid (show ndR t i = (t, i, -1, true) by simp [ndR, h1])
  go_enter Try.func21, Try.ntmps21
  go_wp2_with (go_at_call 36; refine (cdGood_any _ _ _ _ _ _ _).mono ?_; rintro e w1 ⟨rfl, hg⟩; have zhg := hg.size; (try simp at zhg); have c0hg := fun o => bkeep hg (w.heap.size) o (by first | omega | (simp; done) | (simp; omega)); have f0hg := fun o => bfree hg (w.heap.size) o (by first | omega | (simp; done) | (simp; omega)); have c1hg := fun o => bkeep hg (w.heap.size + 1) o (by first | omega | (simp; done) | (simp; omega)); have f1hg := fun o => bfree hg (w.heap.size + 1) o (by first | omega | (simp; done) | (simp; omega)))
  exact bodyPost_ret (v := .tuple #[.agg #[.int .i64 t, .int .i64 i, .int .i64 (-1), .bool false, .int .i64 0, .int .i64 0], .bool true]) (by simp [results, Try.results21, go_sem, c0hg]) rfl ⟨by rw [hR.out], (by repeat (first | (with_reducible exact b0 _) | (with_reducible refine ba ?_ _) | (with_reducible refine bd ?_ _) | (with_reducible refine Below.drew ?_) | (with_reducible refine bs ?_ (by first | exact Nat.le_refl _ | exact Nat.le_add_right _ _ | omega) _) | (with_reducible refine bt ?_ (by assumption))))⟩
set_option maxHeartbeats 400000 in
theorem implNewDelay_any (t i : Int) (w : World) :
    Calls Try.prog 22 #[.int .i64 t, .int .i64 i] w fun e w' => e = .returned (.tuple #[.agg #[.int .i64 (ndR t i).1, .int .i64 (ndR t i).2.1, .int .i64 (ndR t i).2.2.1, .bool false, .int .i64 0, .int .i64 0], .bool (ndR t i).2.2.2]) ∧ Below w.heap.size w w' := by
  rcases h1 : dok t i (-1) 0 0 with _ | _
  · have hR := Lib.hid (show ndR t i = (0, 0, 0, false) by simp [ndR, h1])
    go_enter Try.func22, Try.ntmps22
    go_wp2_with (go_at_call 14; refine (implIsDelay_any _ _ _ _ _ _ _).mono ?_; rintro e w1 ⟨rfl, hg⟩; have zhg := hg.size; (try simp at zhg); have c0hg := fun o => bkeep hg (w.heap.size) o (by first | omega | (simp; done) | (simp; omega)); have f0hg := fun o => bfree hg (w.heap.size) o (by first | omega | (simp; done) | (simp; omega)); have c1hg := fun o => bkeep hg (w.heap.size + 1) o (by first | omega | (simp; done) | (simp; omega)); have f1hg := fun o => bfree hg (w.heap.size + 1) o (by first | omega | (simp; done) | (simp; omega)))
    exact bodyPost_ret (v := .tuple #[.agg #[.int .i64 0, .int .i64 0, .int .i64 0, .bool false, .int .i64 0, .int .i64 0], .bool false]) (by simp [results, Try.results22, go_sem, c0hg]) rfl ⟨by rw [hR.out], (by repeat (first | (with_reducible exact b0 _) | (with_reducible refine ba ?_ _) | (with_reducible refine bd ?_ _) | (with_reducible refine Below.drew ?_) | (with_reducible refine bs ?_ (by first | exact Nat.le_refl _ | exact Nat.le_add_right _ _ | omega) _) | (with_reducible refine bt ?_ (by assumption))))⟩
  have hR := Lib.hid (show ndR t i = (t, i, -1, true) by simp [ndR, h1])
  go_enter Try.func22, Try.ntmps22
  go_wp2_with (go_at_call 14; refine (implIsDelay_any _ _ _ _ _ _ _).mono ?_; rintro e w1 ⟨rfl, hg⟩; have zhg := hg.size; (try simp at zhg); have c0hg := fun o => bkeep hg (w.heap.size) o (by first | omega | (simp; done) | (simp; omega)); have f0hg := fun o => bfree hg (w.heap.size) o (by first | omega | (simp; done) | (simp; omega)); have c1hg := fun o => bkeep hg (w.heap.size + 1) o (by first | omega | (simp; done) | (simp; omega)); have f1hg := fun o => bfree hg (w.heap.size + 1) o (by first | omega | (simp; done) | (simp; omega)))
  exact bodyPost_ret (v := .tuple #[.agg #[.int .i64 t, .int .i64 i, .int .i64 (-1), .bool false, .int .i64 0, .int .i64 0], .bool true]) (by simp [results, Try.results22, go_sem, c0hg]) rfl ⟨by rw [hR.out], (by repeat (first | (with_reducible exact b0 _) | (with_reducible refine ba ?_ _) | (with_reducible refine bd ?_ _) | (with_reducible refine Below.drew ?_) | (with_reducible refine bs ?_ (by first | exact Nat.le_refl _ | exact Nat.le_add_right _ _ | omega) _) | (with_reducible refine bt ?_ (by assumption))))⟩
end Go.Proofs.Ytabickmaeklfmaa
