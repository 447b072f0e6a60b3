/- The contracts of WaitFor, TicksToFull and FillBucket: what the call returns; old memory is left as it was. -/
import Derived.Test.YtleknfigikpacaaBucket
namespace Go.Proofs.Ytleknfigikpacaa
open Go.ChangeShapes Go.WideShapes Go.ChangeAt Go.RowKit
/-- Ticks until there are n tokens, or -1. -/
def bwait (r c t n : Int) : Int := if n ≤ t then 0 else if c < n ∨ r = 0 then -1 else (n - t + r - 1) / r
theorem buWait_any (r c t n : Int) (w : World) (h1 : 0 ≤ r) (h2 : r ≤ 100000) (h3 : 0 ≤ t) (h4 : t ≤ 1000000) (h5 : 0 ≤ n) (h6 : n ≤ 1000000) :
    Calls Try.prog 49 #[.agg #[.int .i64 r, .int .i64 c, .int .i64 t], .int .i64 n] w fun e w' => e = .returned (.int .i64 (bwait r c t n)) ∧ Below w.heap.size w w' := by
  by_cases g1 : n ≤ t
  · have hR := Lib.hid (show bwait r c t n = 0 by simp [bwait, g1])
    go_enter Try.func49, Try.ntmps49
    go_wp2
    go_ret
    exact ⟨by rw [hR.out]; rfl, (by repeat (first | exact b0 _ | refine ba ?_ _ | refine bd ?_ _ | refine Below.drew ?_ | refine bs ?_ (Nat.le_refl _) _ | refine bs ?_ (Nat.le_add_right _ _) _ | refine bt ?_ (by assumption)))⟩
  by_cases g2 : c < n
  · have hR := Lib.hid (show bwait r c t n = -1 by simp [bwait, g1, g2])
    go_enter Try.func49, Try.ntmps49
    go_wp2
    go_ret
    exact ⟨by rw [hR.out]; rfl, (by repeat (first | exact b0 _ | refine ba ?_ _ | refine bd ?_ _ | refine Below.drew ?_ | refine bs ?_ (Nat.le_refl _) _ | refine bs ?_ (Nat.le_add_right _ _) _ | refine bt ?_ (by assumption)))⟩
  by_cases g3 : r = 0
  · have hR := Lib.hid (show bwait r c t n = -1 by simp [bwait, g1, g3])
    have g4 : (r == 0) = true := by simp [g3]
    clear g3
    go_enter Try.func49, Try.ntmps49
    go_wp2
    go_ret
    exact ⟨by rw [hR.out]; rfl, (by repeat (first | exact b0 _ | refine ba ?_ _ | refine bd ?_ _ | refine Below.drew ?_ | refine bs ?_ (Nat.le_refl _) _ | refine bs ?_ (Nat.le_add_right _ _) _ | refine bt ?_ (by assumption)))⟩
  have hR := Lib.hid (show bwait r c t n = (n - t + r - 1) / r by simp [bwait, g1, g2, g3])
  have g4 : (r == 0) = false := by simp [g3]
  have g5 : 1 ≤ r := by omega
  clear g3
  go_enter Try.func49, Try.ntmps49
  go_wp2
  go_ret
  exact ⟨by rw [hR.out]; rfl, (by repeat (first | exact b0 _ | refine ba ?_ _ | refine bd ?_ _ | refine Below.drew ?_ | refine bs ?_ (Nat.le_refl _) _ | refine bs ?_ (Nat.le_add_right _ _) _ | refine bt ?_ (by assumption)))⟩
theorem ticksFor_any (t r n : Int) (w : World) (h1 : 1 ≤ r) (h2 : r ≤ 100000) (h3 : 0 ≤ t) (h4 : t ≤ 1000000) (h5 : t < n) (h6 : n ≤ 1000000) :
    Calls Try.prog 50 #[.int .i64 t, .int .i64 r, .int .i64 n] w fun e w' => e = .returned (.int .i64 ((n - t + r - 1) / r)) ∧ w = w' := by
  go_enter Try.func50, Try.ntmps50
  go_wp2
  go_ret
  exact ⟨rfl, rfl⟩
theorem bwait_neg {r c t n : Int} (h1 : 0 ≤ r) : bwait r c t n < 0 ↔ t < n ∧ (c < n ∨ r = 0) := by
  unfold bwait
  split
  · omega
  · split
    · omega
    · have : 0 ≤ (n - t + r - 1) / r := Int.ediv_nonneg (by omega) h1
      omega
def wfR (r c t n : Int) : Int × Bool := if bok r c t && sok n && decide (0 ≤ bwait r c t n) then (bwait r c t n, true) else (0, false)
theorem specWaitFor_any (r c t n : Int) (w : World) :
    Calls Try.prog 26 #[.agg #[.int .i64 r, .int .i64 c, .int .i64 t], .int .i64 n] w fun e w' => e = .returned (.tuple #[.int .i64 (wfR r c t n).1, .bool (wfR r c t n).2]) ∧ Below w.heap.size w w' := by
  rcases h1 : bok r c t with _ | _
  · have hR := Lib.hid (show wfR r c t n = (0, false) by simp [wfR, h1])
    have g := fun h => bok_iff.1 (show bok r c t = true from h)
    have g2 := fun h => sok_iff.1 (show sok n = true from h)
    have G := Lib.hid g
    have G2 := Lib.hid g2
    clear g g2
    go_enter Try.func26, Try.ntmps26
    go_wp2_with (first | (go_at_call 45; refine (buGood_any _ _ _ _).mono ?_; rintro e w1 ⟨rfl, hg⟩; have zhg := hg.size; (try simp at zhg); have c0hg := fun o => bkeep hg (w.heap.size) o (by first | omega | (simp; done) | (simp; omega)); have f0hg := fun o => bfree hg (w.heap.size) o (by first | omega | (simp; done) | (simp; omega))) | (go_at_call 47; refine (buSize_any _ _).mono ?_; rintro e w' ⟨rfl, rfl⟩) | (go_at_call 49; have g := G.out (by assumption); have g2 := G2.out (by assumption); refine (buWait_any _ _ _ _ _ (by omega) (by omega) (by omega) (by omega) (by omega) (by omega)).mono ?_; rintro e w2 ⟨rfl, hw⟩))
    go_ret2
    exact ⟨by rw [hR.out]; rfl, (by repeat (first | exact b0 _ | refine ba ?_ _ | refine bd ?_ _ | refine Below.drew ?_ | refine bs ?_ (Nat.le_refl _) _ | refine bs ?_ (Nat.le_add_right _ _) _ | refine bt ?_ (by assumption)))⟩
  rcases h2 : sok n with _ | _
  · have hR := Lib.hid (show wfR r c t n = (0, false) by simp [wfR, h1, h2])
    have g := fun h => bok_iff.1 (show bok r c t = true from h)
    have g2 := fun h => sok_iff.1 (show sok n = true from h)
    have G := Lib.hid g
    have G2 := Lib.hid g2
    clear g g2
    go_enter Try.func26, Try.ntmps26
    go_wp2_with (first | (go_at_call 45; refine (buGood_any _ _ _ _).mono ?_; rintro e w1 ⟨rfl, hg⟩; have zhg := hg.size; (try simp at zhg); have c0hg := fun o => bkeep hg (w.heap.size) o (by first | omega | (simp; done) | (simp; omega)); have f0hg := fun o => bfree hg (w.heap.size) o (by first | omega | (simp; done) | (simp; omega))) | (go_at_call 47; refine (buSize_any _ _).mono ?_; rintro e w' ⟨rfl, rfl⟩) | (go_at_call 49; have g := G.out (by assumption); have g2 := G2.out (by assumption); refine (buWait_any _ _ _ _ _ (by omega) (by omega) (by omega) (by omega) (by omega) (by omega)).mono ?_; rintro e w2 ⟨rfl, hw⟩))
    go_ret2
    exact ⟨by rw [hR.out]; rfl, (by repeat (first | exact b0 _ | refine ba ?_ _ | refine bd ?_ _ | refine Below.drew ?_ | refine bs ?_ (Nat.le_refl _) _ | refine bs ?_ (Nat.le_add_right _ _) _ | refine bt ?_ (by assumption)))⟩
  by_cases h3 : 0 ≤ bwait r c t n
  rotate_left
  · have hR := Lib.hid (show wfR r c t n = (0, false) by simp [wfR, h1, h2, h3])
    have g := fun h => bok_iff.1 (show bok r c t = true from h)
    have g2 := fun h => sok_iff.1 (show sok n = true from h)
    have G := Lib.hid g
    have G2 := Lib.hid g2
    clear g g2
    go_enter Try.func26, Try.ntmps26
    go_wp2_with (first | (go_at_call 45; refine (buGood_any _ _ _ _).mono ?_; rintro e w1 ⟨rfl, hg⟩; have zhg := hg.size; (try simp at zhg); have c0hg := fun o => bkeep hg (w.heap.size) o (by first | omega | (simp; done) | (simp; omega)); have f0hg := fun o => bfree hg (w.heap.size) o (by first | omega | (simp; done) | (simp; omega))) | (go_at_call 47; refine (buSize_any _ _).mono ?_; rintro e w' ⟨rfl, rfl⟩) | (go_at_call 49; have g := G.out (by assumption); have g2 := G2.out (by assumption); refine (buWait_any _ _ _ _ _ (by omega) (by omega) (by omega) (by omega) (by omega) (by omega)).mono ?_; rintro e w2 ⟨rfl, hw⟩))
    go_ret2
    exact ⟨by rw [hR.out]; rfl, (by repeat (first | exact b0 _ | refine ba ?_ _ | refine bd ?_ _ | refine Below.drew ?_ | refine bs ?_ (Nat.le_refl _) _ | refine bs ?_ (Nat.le_add_right _ _) _ | refine bt ?_ (by assumption)))⟩
  have hR := Lib.hid (show wfR r c t n = (bwait r c t n, true) by simp [wfR, h1, h2, h3])
  have g := bok_iff.1 h1
  have g2 := sok_iff.1 h2
  go_enter Try.func26, Try.ntmps26
  go_wp2_with (first | (go_at_call 45; refine (buGood_any _ _ _ _).mono ?_; rintro e w1 ⟨rfl, hg⟩; have zhg := hg.size; (try simp at zhg); have c0hg := fun o => bkeep hg (w.heap.size) o (by first | omega | (simp; done) | (simp; omega)); have f0hg := fun o => bfree hg (w.heap.size) o (by first | omega | (simp; done) | (simp; omega))) | (go_at_call 47; refine (buSize_any _ _).mono ?_; rintro e w' ⟨rfl, rfl⟩))
  refine (buWait_any _ _ _ _ _ (by omega) (by omega) (by omega) (by omega) (by omega) (by omega)).mono ?_
  rintro e w2 ⟨rfl, hw⟩
  have zhw := hw.size; (try simp at zhw); have c0hw := fun o => bkeep hw (w.heap.size) o (by first | omega | (simp; done) | (simp; omega)); have f0hw := fun o => bfree hw (w.heap.size) o (by first | omega | (simp; done) | (simp; omega))
  go_wp2_with fail
  refine (buWait_any _ _ _ _ _ (by omega) (by omega) (by omega) (by omega) (by omega) (by omega)).mono ?_
  rintro e w3 ⟨rfl, hw3⟩
  go_wp2
  go_ret2
  exact ⟨by rw [hR.out]; rfl, (by repeat (first | exact b0 _ | refine ba ?_ _ | refine bd ?_ _ | refine Below.drew ?_ | refine bs ?_ (Nat.le_refl _) _ | refine bs ?_ (Nat.le_add_right _ _) _ | refine bt ?_ (by assumption)))⟩
theorem implWaitFor_any (r c t n : Int) (w : World) :
    Calls Try.prog 27 #[.agg #[.int .i64 r, .int .i64 c, .int .i64 t], .int .i64 n] w fun e w' => e = .returned (.tuple #[.int .i64 (wfR r c t n).1, .bool (wfR r c t n).2]) ∧ Below w.heap.size w w' := by
  rcases h1 : bok r c t with _ | _
  · have hR := Lib.hid (show wfR r c t n = (0, false) by simp [wfR, h1])
    go_enter Try.func27, Try.ntmps27
    go_wp2_with (first | (go_at_call 16; refine (implIsBucket_any _ _ _ _).mono ?_; rintro e w1 ⟨rfl, hg⟩; have zhg := hg.size; (try simp at zhg); have c0hg := fun o => bkeep hg (w.heap.size) o (by first | omega | (simp; done) | (simp; omega)); have f0hg := fun o => bfree hg (w.heap.size) o (by first | omega | (simp; done) | (simp; omega))) | (go_at_call 48; refine (isSize_any _ _).mono ?_; rintro e w' ⟨rfl, rfl⟩))
    go_ret2
    exact ⟨by rw [hR.out]; rfl, (by repeat (first | exact b0 _ | refine ba ?_ _ | refine bd ?_ _ | refine Below.drew ?_ | refine bs ?_ (Nat.le_refl _) _ | refine bs ?_ (Nat.le_add_right _ _) _ | refine bt ?_ (by assumption)))⟩
  rcases h2 : sok n with _ | _
  · have hR := Lib.hid (show wfR r c t n = (0, false) by simp [wfR, h1, h2])
    go_enter Try.func27, Try.ntmps27
    go_wp2_with (first | (go_at_call 16; refine (implIsBucket_any _ _ _ _).mono ?_; rintro e w1 ⟨rfl, hg⟩; have zhg := hg.size; (try simp at zhg); have c0hg := fun o => bkeep hg (w.heap.size) o (by first | omega | (simp; done) | (simp; omega)); have f0hg := fun o => bfree hg (w.heap.size) o (by first | omega | (simp; done) | (simp; omega))) | (go_at_call 48; refine (isSize_any _ _).mono ?_; rintro e w' ⟨rfl, rfl⟩))
    go_ret2
    exact ⟨by rw [hR.out]; rfl, (by repeat (first | exact b0 _ | refine ba ?_ _ | refine bd ?_ _ | refine Below.drew ?_ | refine bs ?_ (Nat.le_refl _) _ | refine bs ?_ (Nat.le_add_right _ _) _ | refine bt ?_ (by assumption)))⟩
  have hR := Lib.hid (show wfR r c t n = if 0 ≤ bwait r c t n then (bwait r c t n, true) else (0, false) by simp [wfR, h1, h2])
  have g := bok_iff.1 h1
  have g2 := sok_iff.1 h2
  by_cases g3 : n ≤ t
  · have hR2 := Lib.hid (show wfR r c t n = (0, true) by rw [hR.out]; simp [bwait, g3])
    go_enter Try.func27, Try.ntmps27
    go_wp2_with (first | (go_at_call 16; refine (implIsBucket_any _ _ _ _).mono ?_; rintro e w1 ⟨rfl, hg⟩; have zhg := hg.size; (try simp at zhg); have c0hg := fun o => bkeep hg (w.heap.size) o (by first | omega | (simp; done) | (simp; omega)); have f0hg := fun o => bfree hg (w.heap.size) o (by first | omega | (simp; done) | (simp; omega))) | (go_at_call 48; refine (isSize_any _ _).mono ?_; rintro e w' ⟨rfl, rfl⟩))
    go_ret2
    exact ⟨by rw [hR2.out]; rfl, (by repeat (first | exact b0 _ | refine ba ?_ _ | refine bd ?_ _ | refine Below.drew ?_ | refine bs ?_ (Nat.le_refl _) _ | refine bs ?_ (Nat.le_add_right _ _) _ | refine bt ?_ (by assumption)))⟩
  by_cases g4 : c < n
  · have hR2 := Lib.hid (show wfR r c t n = (0, false) by rw [hR.out]; simp [bwait, g3, g4])
    go_enter Try.func27, Try.ntmps27
    go_wp2_with (first | (go_at_call 16; refine (implIsBucket_any _ _ _ _).mono ?_; rintro e w1 ⟨rfl, hg⟩; have zhg := hg.size; (try simp at zhg); have c0hg := fun o => bkeep hg (w.heap.size) o (by first | omega | (simp; done) | (simp; omega)); have f0hg := fun o => bfree hg (w.heap.size) o (by first | omega | (simp; done) | (simp; omega))) | (go_at_call 48; refine (isSize_any _ _).mono ?_; rintro e w' ⟨rfl, rfl⟩))
    go_ret2
    exact ⟨by rw [hR2.out]; rfl, (by repeat (first | exact b0 _ | refine ba ?_ _ | refine bd ?_ _ | refine Below.drew ?_ | refine bs ?_ (Nat.le_refl _) _ | refine bs ?_ (Nat.le_add_right _ _) _ | refine bt ?_ (by assumption)))⟩
  by_cases g5 : r = 0
  · have hR2 := Lib.hid (show wfR r c t n = (0, false) by rw [hR.out]; simp [bwait, g3, g5])
    have g6 : (r == 0) = true := by simp [g5]
    clear g5
    go_enter Try.func27, Try.ntmps27
    go_wp2_with (first | (go_at_call 16; refine (implIsBucket_any _ _ _ _).mono ?_; rintro e w1 ⟨rfl, hg⟩; have zhg := hg.size; (try simp at zhg); have c0hg := fun o => bkeep hg (w.heap.size) o (by first | omega | (simp; done) | (simp; omega)); have f0hg := fun o => bfree hg (w.heap.size) o (by first | omega | (simp; done) | (simp; omega))) | (go_at_call 48; refine (isSize_any _ _).mono ?_; rintro e w' ⟨rfl, rfl⟩))
    go_ret2
    exact ⟨by rw [hR2.out]; rfl, (by repeat (first | exact b0 _ | refine ba ?_ _ | refine bd ?_ _ | refine Below.drew ?_ | refine bs ?_ (Nat.le_refl _) _ | refine bs ?_ (Nat.le_add_right _ _) _ | refine bt ?_ (by assumption)))⟩
  have g6 : (r == 0) = false := by simp [g5]
  have hR2 := Lib.hid (show wfR r c t n = ((n - t + r - 1) / r, true) by
    have e : bwait r c t n = (n - t + r - 1) / r := by simp [bwait, g3, g4, g5]
    rw [hR.out, e, if_pos (Int.ediv_nonneg (by omega) (by omega))])
  have g7 : 1 ≤ r := by omega
  clear g5
  go_enter Try.func27, Try.ntmps27
  go_wp2_with (first | (go_at_call 16; refine (implIsBucket_any _ _ _ _).mono ?_; rintro e w1 ⟨rfl, hg⟩; have zhg := hg.size; (try simp at zhg); have c0hg := fun o => bkeep hg (w.heap.size) o (by first | omega | (simp; done) | (simp; omega)); have f0hg := fun o => bfree hg (w.heap.size) o (by first | omega | (simp; done) | (simp; omega))) | (go_at_call 48; refine (isSize_any _ _).mono ?_; rintro e w' ⟨rfl, rfl⟩) | (go_at_call 50; refine (ticksFor_any _ _ _ _ (by omega) (by omega) (by omega) (by omega) (by omega) (by omega)).mono ?_; rintro e w2 ⟨rfl, rfl⟩))
  go_ret2
  exact ⟨by rw [hR2.out]; rfl, (by repeat (first | exact b0 _ | refine ba ?_ _ | refine bd ?_ _ | refine Below.drew ?_ | refine bs ?_ (Nat.le_refl _) _ | refine bs ?_ (Nat.le_add_right _ _) _ | refine bt ?_ (by assumption)))⟩
def ttR (r c t : Int) : Int × Bool := if bok r c t && decide (0 ≤ bwait r c t c) then (bwait r c t c, true) else (0, false)
theorem specTicksToFull_any (r c t : Int) (w : World) :
    Calls Try.prog 24 #[.agg #[.int .i64 r, .int .i64 c, .int .i64 t]] w fun e w' => e = .returned (.tuple #[.int .i64 (ttR r c t).1, .bool (ttR r c t).2]) ∧ Below w.heap.size w w' := by
  rcases h1 : bok r c t with _ | _
  · have hR := Lib.hid (show ttR r c t = (0, false) by simp [ttR, h1])
    have G := Lib.hid (fun h => bok_iff.1 (show bok r c t = true from h))
    go_enter Try.func24, Try.ntmps24
    go_wp2_with (first | (go_at_call 45; refine (buGood_any _ _ _ _).mono ?_; rintro e w1 ⟨rfl, hg⟩; have zhg := hg.size; (try simp at zhg); have c0hg := fun o => bkeep hg (w.heap.size) o (by first | omega | (simp; done) | (simp; omega)); have f0hg := fun o => bfree hg (w.heap.size) o (by first | omega | (simp; done) | (simp; omega))) | (go_at_call 49; have g := G.out (by assumption); refine (buWait_any _ _ _ _ _ (by omega) (by omega) (by omega) (by omega) (by omega) (by omega)).mono ?_; rintro e w2 ⟨rfl, hw⟩))
    go_ret2
    exact ⟨by rw [hR.out]; rfl, (by repeat (first | exact b0 _ | refine ba ?_ _ | refine bd ?_ _ | refine Below.drew ?_ | refine bs ?_ (Nat.le_refl _) _ | refine bs ?_ (Nat.le_add_right _ _) _ | refine bt ?_ (by assumption)))⟩
  by_cases h2 : 0 ≤ bwait r c t c
  rotate_left
  · have hR := Lib.hid (show ttR r c t = (0, false) by simp [ttR, h1, h2])
    have G := Lib.hid (fun h => bok_iff.1 (show bok r c t = true from h))
    go_enter Try.func24, Try.ntmps24
    go_wp2_with (first | (go_at_call 45; refine (buGood_any _ _ _ _).mono ?_; rintro e w1 ⟨rfl, hg⟩; have zhg := hg.size; (try simp at zhg); have c0hg := fun o => bkeep hg (w.heap.size) o (by first | omega | (simp; done) | (simp; omega)); have f0hg := fun o => bfree hg (w.heap.size) o (by first | omega | (simp; done) | (simp; omega))) | (go_at_call 49; have g := G.out (by assumption); refine (buWait_any _ _ _ _ _ (by omega) (by omega) (by omega) (by omega) (by omega) (by omega)).mono ?_; rintro e w2 ⟨rfl, hw⟩))
    go_ret2
    exact ⟨by rw [hR.out]; rfl, (by repeat (first | exact b0 _ | refine ba ?_ _ | refine bd ?_ _ | refine Below.drew ?_ | refine bs ?_ (Nat.le_refl _) _ | refine bs ?_ (Nat.le_add_right _ _) _ | refine bt ?_ (by assumption)))⟩
  have hR := Lib.hid (show ttR r c t = (bwait r c t c, true) by simp [ttR, h1, h2])
  have g := bok_iff.1 h1
  go_enter Try.func24, Try.ntmps24
  go_wp2_with (first | (go_at_call 45; refine (buGood_any _ _ _ _).mono ?_; rintro e w1 ⟨rfl, hg⟩; have zhg := hg.size; (try simp at zhg); have c0hg := fun o => bkeep hg (w.heap.size) o (by first | omega | (simp; done) | (simp; omega)); have f0hg := fun o => bfree hg (w.heap.size) o (by first | omega | (simp; done) | (simp; omega))))
  refine (buWait_any _ _ _ _ _ (by omega) (by omega) (by omega) (by omega) (by omega) (by omega)).mono ?_
  rintro e w2 ⟨rfl, hw⟩
  have zhw := hw.size; (try simp at zhw); have c0hw := fun o => bkeep hw (w.heap.size) o (by first | omega | (simp; done) | (simp; omega)); have f0hw := fun o => bfree hw (w.heap.size) o (by first | omega | (simp; done) | (simp; omega))
  go_wp2_with fail
  refine (buWait_any _ _ _ _ _ (by omega) (by omega) (by omega) (by omega) (by omega) (by omega)).mono ?_
  rintro e w3 ⟨rfl, hw3⟩
  go_wp2
  go_ret2
  exact ⟨by rw [hR.out]; rfl, (by repeat (first | exact b0 _ | refine ba ?_ _ | refine bd ?_ _ | refine Below.drew ?_ | refine bs ?_ (Nat.le_refl _) _ | refine bs ?_ (Nat.le_add_right _ _) _ | refine bt ?_ (by assumption)))⟩
theorem implTicksToFull_any (r c t : Int) (w : World) :
    Calls Try.prog 25 #[.agg #[.int .i64 r, .int .i64 c, .int .i64 t]] w fun e w' => e = .returned (.tuple #[.int .i64 (ttR r c t).1, .bool (ttR r c t).2]) ∧ Below w.heap.size w w' := by
  rcases h1 : bok r c t with _ | _
  · have hR := Lib.hid (show ttR r c t = (0, false) by simp [ttR, h1])
    go_enter Try.func25, Try.ntmps25
    go_wp2_with (first | (go_at_call 16; refine (implIsBucket_any _ _ _ _).mono ?_; rintro e w1 ⟨rfl, hg⟩; have zhg := hg.size; (try simp at zhg); have c0hg := fun o => bkeep hg (w.heap.size) o (by first | omega | (simp; done) | (simp; omega)); have f0hg := fun o => bfree hg (w.heap.size) o (by first | omega | (simp; done) | (simp; omega))))
    go_ret2
    exact ⟨by rw [hR.out]; rfl, (by repeat (first | exact b0 _ | refine ba ?_ _ | refine bd ?_ _ | refine Below.drew ?_ | refine bs ?_ (Nat.le_refl _) _ | refine bs ?_ (Nat.le_add_right _ _) _ | refine bt ?_ (by assumption)))⟩
  have hR := Lib.hid (show ttR r c t = if 0 ≤ bwait r c t c then (bwait r c t c, true) else (0, false) by simp [ttR, h1])
  have g := bok_iff.1 h1
  by_cases g3 : t = c
  · have hR2 := Lib.hid (show ttR r c t = (0, true) by rw [hR.out]; simp [bwait, g3])
    have g4 : (t == c) = true := by simp [g3]
    clear g3
    go_enter Try.func25, Try.ntmps25
    go_wp2_with (first | (go_at_call 16; refine (implIsBucket_any _ _ _ _).mono ?_; rintro e w1 ⟨rfl, hg⟩; have zhg := hg.size; (try simp at zhg); have c0hg := fun o => bkeep hg (w.heap.size) o (by first | omega | (simp; done) | (simp; omega)); have f0hg := fun o => bfree hg (w.heap.size) o (by first | omega | (simp; done) | (simp; omega))))
    go_ret2
    exact ⟨by rw [hR2.out]; rfl, (by repeat (first | exact b0 _ | refine ba ?_ _ | refine bd ?_ _ | refine Below.drew ?_ | refine bs ?_ (Nat.le_refl _) _ | refine bs ?_ (Nat.le_add_right _ _) _ | refine bt ?_ (by assumption)))⟩
  have g4 : (t == c) = false := by simp [g3]
  have g8 : t < c := by omega
  clear g3
  by_cases g5 : r = 0
  · have hR2 := Lib.hid (show ttR r c t = (0, false) by rw [hR.out, show bwait r c t c = -1 by rw [bwait, if_neg (by omega), if_pos (Or.inr g5)]]; rfl)
    have g6 : (r == 0) = true := by simp [g5]
    clear g5
    go_enter Try.func25, Try.ntmps25
    go_wp2_with (first | (go_at_call 16; refine (implIsBucket_any _ _ _ _).mono ?_; rintro e w1 ⟨rfl, hg⟩; have zhg := hg.size; (try simp at zhg); have c0hg := fun o => bkeep hg (w.heap.size) o (by first | omega | (simp; done) | (simp; omega)); have f0hg := fun o => bfree hg (w.heap.size) o (by first | omega | (simp; done) | (simp; omega))))
    go_ret2
    exact ⟨by rw [hR2.out]; rfl, (by repeat (first | exact b0 _ | refine ba ?_ _ | refine bd ?_ _ | refine Below.drew ?_ | refine bs ?_ (Nat.le_refl _) _ | refine bs ?_ (Nat.le_add_right _ _) _ | refine bt ?_ (by assumption)))⟩
  have g6 : (r == 0) = false := by simp [g5]
  have hR2 := Lib.hid (show ttR r c t = ((c - t + r - 1) / r, true) by
    have e : bwait r c t c = (c - t + r - 1) / r := by rw [bwait, if_neg (by omega), if_neg (by omega)]
    rw [hR.out, e, if_pos (Int.ediv_nonneg (by omega) (by omega))])
  have g7 : 1 ≤ r := by omega
  clear g5
  go_enter Try.func25, Try.ntmps25
  go_wp2_with (first | (go_at_call 16; refine (implIsBucket_any _ _ _ _).mono ?_; rintro e w1 ⟨rfl, hg⟩; have zhg := hg.size; (try simp at zhg); have c0hg := fun o => bkeep hg (w.heap.size) o (by first | omega | (simp; done) | (simp; omega)); have f0hg := fun o => bfree hg (w.heap.size) o (by first | omega | (simp; done) | (simp; omega))) | (go_at_call 50; refine (ticksFor_any _ _ _ _ (by omega) (by omega) (by omega) (by omega) (by omega) (by omega)).mono ?_; rintro e w2 ⟨rfl, rfl⟩))
  go_ret2
  exact ⟨by rw [hR2.out]; rfl, (by repeat (first | exact b0 _ | refine ba ?_ _ | refine bd ?_ _ | refine Below.drew ?_ | refine bs ?_ (Nat.le_refl _) _ | refine bs ?_ (Nat.le_add_right _ _) _ | refine bt ?_ (by assumption)))⟩
end Go.Proofs.Ytleknfigikpacaa
