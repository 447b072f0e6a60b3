/- The contracts of IdleUntil and LeastForced: what the call returns; old memory is left as it was. -/
import Derived.Test.YtpgddjnjojkllaaEarly
namespace Go.Proofs.Ytpgddjnjojkllaa
open Go.ChangeShapes Go.WideShapes Go.ChangeAt Go.RowKit
/-- The average behind n equal lengths. -/
def avAt (we le av : Int) : Nat → Int
  | 0 => av
  | n + 1 => nxt we (avAt we le av n) le
theorem avAt_bound {we le av : Int} (h1 : 1 ≤ we) (h2 : we ≤ 256) (h3 : 0 ≤ av) (h4 : av ≤ 15360) (h5 : 0 ≤ le) (h6 : le ≤ 60) (n : Nat) : 0 ≤ avAt we le av n ∧ avAt we le av n ≤ 15360 := by
  induction n with
  | zero => exact ⟨h3, h4⟩
  | succ n ih => exact nxt_bound h1 h2 ih.1 ih.2 h5 h6
def FirstAt (q : Nat → Prop) (k : Nat) : Prop := k ≤ 10000 ∧ q k ∧ ∀ j, j < k → ¬ q j
theorem FirstAt.unique {q : Nat → Prop} {k l : Nat} (h : FirstAt q k) (h' : FirstAt q l) : k = l := by
  rcases Nat.lt_trichotomy k l with hl | hl | hl
  · exact (h'.2.2 k hl h.2.1).elim
  · exact hl
  · exact (h.2.2 l hl h'.2.1).elim
open Classical in
noncomputable def uR (q : Nat → Prop) : Int × Bool := if h : ∃ k, FirstAt q k then ((Classical.choose h : Nat), true) else (0, false)
theorem uR_yes {q : Nat → Prop} {k : Nat} (h : FirstAt q k) : uR q = ((k : Int), true) := by
  have hx : ∃ k, FirstAt q k := ⟨k, h⟩
  unfold uR
  rw [dif_pos hx, (Classical.choose_spec hx).unique h]
theorem uR_no {q : Nat → Prop} (h : ∀ j, j < 10001 → ¬ q j) : uR q = (0, false) := by
  unfold uR
  rw [dif_neg]
  rintro ⟨k, h1, h2, _⟩
  exact h k (by omega) h2
theorem less_succ {q : Nat → Prop} {k : Nat} (h : ∀ j, j < k → ¬ q j) (hk : ¬ q k) : ∀ j, j < k + 1 → ¬ q j := fun j hj => by
  rcases Nat.lt_succ_iff_lt_or_eq.1 hj with h' | rfl
  · exact h j h'
  · exact hk
/-- -1 where there is none. -/
noncomputable def uN (q : Nat → Prop) : Int := if (uR q).2 then (uR q).1 else -1
def qL (we hi : Int) (k : Nat) : Prop := 256 * hi ≤ avAt we 60 0 k
def qI (we av lo : Int) (k : Nat) : Prop := avAt we 0 av k < 256 * lo
theorem rdSteps_least (lo hi we mo : Int) (w : World) (h1 : 1 ≤ we) (h2 : we ≤ 256) :
    Calls Try.prog 53 #[.agg #[.int .i64 lo, .int .i64 hi, .int .i64 we, .int .i64 mo], .int .i64 0, .int .i64 60, .int .i64 (256 * hi), .bool true] w fun e w' => e = .returned (.int .i64 (uN (qL we hi))) ∧ Below w.heap.size w w' := by
  go_enter Try.func53, Try.ntmps53
  go_wp2_with fail
  go_loopw [1, 11] (fun a n wr => ∃ k : Nat, k ≤ 10001 ∧ n = .int .i64 k ∧ a = .int .i64 (avAt we 60 0 k) ∧ (∀ j, j < k → ¬ qL we hi j) ∧ Below (w.alloc (.cells #[.int .i64 lo, .int .i64 hi, .int .i64 we, .int .i64 mo] 25)).heap.size (w.alloc (.cells #[.int .i64 lo, .int .i64 hi, .int .i64 we, .int .i64 mo] 25)) wr) (fun _ n _ => 10001 - (intOf n).toNat)
  case atStart => exact ⟨0, by omega, rfl, rfl, fun j hj => by omega, Below.refl _ _⟩
  case round =>
    obtain ⟨k, hk, rfl, rfl, hq, hb⟩ := hrel
    have HQ := Lib.hid hq
    clear hq
    have zhb := hb.size; (try simp at zhb); have c0hb := fun o => bkeep hb (w.heap.size) o (by first | omega | (simp; done) | (simp; omega)); have f0hb := fun o => bfree hb (w.heap.size) o (by first | omega | (simp; done) | (simp; omega))
    have ab := avAt_bound h1 h2 (show (0 : Int) ≤ 0 by omega) (show (0 : Int) ≤ 15360 by omega) (show (0 : Int) ≤ 60 by omega) (show (60 : Int) ≤ 60 by omega) k
    by_cases hlt : k < 10001
    · by_cases hc : 256 * hi ≤ avAt we 60 0 k
      · have hR := Lib.hid (show uN (qL we hi) = k by rw [uN, uR_yes ⟨by omega, hc, HQ.out⟩]; rfl)
        go_wp2_with fail
        go_ret
        exact ⟨by rw [hR.out]; rfl, bt (ba (b0 _) _) hb⟩
      · have HC := Lib.hid (show ¬ qL we hi k from hc)
        go_wp2_with (go_at_call 44; refine (rdNext_any _ _ _ _ _ _ _ (by omega) (by omega) (by omega) (by omega) (by omega) (by omega)).mono ?_; rintro e w2 ⟨rfl, hn⟩)
        go_roundw
        case rel => exact ⟨k + 1, by omega, by go_num, rfl, less_succ HQ.out HC.out, bt hb hn⟩
        case measure => simp [intOf]; omega
    · obtain rfl : k = 10001 := by omega
      have hR := Lib.hid (show uN (qL we hi) = -1 by rw [uN, uR_no HQ.out]; rfl)
      go_wp2_with fail
      go_ret
      exact ⟨by rw [hR.out]; rfl, bt (ba (b0 _) _) hb⟩
theorem rdSteps_idle (lo hi we mo av : Int) (w : World) (h1 : 1 ≤ we) (h2 : we ≤ 256) (h3 : 0 ≤ av) (h4 : av ≤ 15360) :
    Calls Try.prog 53 #[.agg #[.int .i64 lo, .int .i64 hi, .int .i64 we, .int .i64 mo], .int .i64 av, .int .i64 0, .int .i64 (256 * lo), .bool false] w fun e w' => e = .returned (.int .i64 (uN (qI we av lo))) ∧ Below w.heap.size w w' := by
  go_enter Try.func53, Try.ntmps53
  go_wp2_with fail
  go_loopw [1, 11] (fun a n wr => ∃ k : Nat, k ≤ 10001 ∧ n = .int .i64 k ∧ a = .int .i64 (avAt we 0 av k) ∧ (∀ j, j < k → ¬ qI we av lo j) ∧ Below (w.alloc (.cells #[.int .i64 lo, .int .i64 hi, .int .i64 we, .int .i64 mo] 25)).heap.size (w.alloc (.cells #[.int .i64 lo, .int .i64 hi, .int .i64 we, .int .i64 mo] 25)) wr) (fun _ n _ => 10001 - (intOf n).toNat)
  case atStart => exact ⟨0, by omega, rfl, rfl, fun j hj => by omega, Below.refl _ _⟩
  case round =>
    obtain ⟨k, hk, rfl, rfl, hq, hb⟩ := hrel
    have HQ := Lib.hid hq
    clear hq
    have zhb := hb.size; (try simp at zhb); have c0hb := fun o => bkeep hb (w.heap.size) o (by first | omega | (simp; done) | (simp; omega)); have f0hb := fun o => bfree hb (w.heap.size) o (by first | omega | (simp; done) | (simp; omega))
    have ab := avAt_bound h1 h2 h3 h4 (show (0 : Int) ≤ 0 by omega) (show (0 : Int) ≤ 60 by omega) k
    by_cases hlt : k < 10001
    · by_cases hc : avAt we 0 av k < 256 * lo
      · have hR := Lib.hid (show uN (qI we av lo) = k by rw [uN, uR_yes ⟨by omega, hc, HQ.out⟩]; rfl)
        have t1 : decide (256 * lo ≤ avAt we 0 av k) = false := by simp; omega
        go_wp2_with fail
        go_ret
        exact ⟨by rw [hR.out]; rfl, bt (ba (b0 _) _) hb⟩
      · have HC := Lib.hid (show ¬ qI we av lo k from hc)
        have t1 : decide (256 * lo ≤ avAt we 0 av k) = true := by simp; omega
        go_wp2_with (go_at_call 44; refine (rdNext_any _ _ _ _ _ _ _ (by omega) (by omega) (by omega) (by omega) (by omega) (by omega)).mono ?_; rintro e w2 ⟨rfl, hn⟩)
        go_roundw
        case rel => exact ⟨k + 1, by omega, by go_num, rfl, less_succ HQ.out HC.out, bt hb hn⟩
        case measure => simp [intOf]; omega
    · obtain rfl : k = 10001 := by omega
      have hR := Lib.hid (show uN (qI we av lo) = -1 by rw [uN, uR_no HQ.out]; rfl)
      go_wp2_with fail
      go_ret
      exact ⟨by rw [hR.out]; rfl, bt (ba (b0 _) _) hb⟩
theorem lengthsUntil_least (lo hi we mo : Int) (B : Nat) (w : World) (hB : w.cell? ⟨B, 1, none⟩ = some (.int .i64 hi)) (h1 : 1 ≤ we) (h2 : we ≤ 256) (v1 : 0 ≤ hi) (v2 : hi ≤ 60) :
    Calls Try.prog 54 #[.agg #[.int .i64 lo, .int .i64 hi, .int .i64 we, .int .i64 mo], .int .i64 0, .int .i64 60, .func (.func 55) #[] #[.pointer (some ⟨B, 0, none⟩)]] w fun e w' => e = .returned (.tuple #[.int .i64 (uR (qL we hi)).1, .bool (uR (qL we hi)).2]) ∧ Below w.heap.size w w' := by
  have hBlt := World.block_lt_of_cell? w _ hB
  simp only at hBlt
  go_enter Try.func54, Try.ntmps54
  go_wp2_with fail
  go_loopw [1, 10] (fun a n wr => ∃ k : Nat, k ≤ 10001 ∧ n = .int .i64 k ∧ a = .int .i64 (avAt we 60 0 k) ∧ (∀ j, j < k → ¬ qL we hi j) ∧ Below (w.alloc (.cells #[.int .i64 lo, .int .i64 hi, .int .i64 we, .int .i64 mo] 25)).heap.size (w.alloc (.cells #[.int .i64 lo, .int .i64 hi, .int .i64 we, .int .i64 mo] 25)) wr) (fun _ n _ => 10001 - (intOf n).toNat)
  case atStart => exact ⟨0, by omega, rfl, rfl, fun j hj => by omega, Below.refl _ _⟩
  case round =>
    obtain ⟨k, hk, rfl, rfl, hq, hb⟩ := hrel
    have HQ := Lib.hid hq
    clear hq
    have zhb := hb.size; (try simp at zhb); have c0hb := fun o => bkeep hb (w.heap.size) o (by first | omega | (simp; done) | (simp; omega)); have f0hb := fun o => bfree hb (w.heap.size) o (by first | omega | (simp; done) | (simp; omega))
    have cB : wr.cell? ⟨B, 1, none⟩ = some (.int .i64 hi) := by
      rw [bkeep hb B 1 (by simp; omega), World.cell?_alloc_past _ _ _ hBlt]
      exact hB
    have ab := avAt_bound h1 h2 (show (0 : Int) ≤ 0 by omega) (show (0 : Int) ≤ 15360 by omega) (show (0 : Int) ≤ 60 by omega) (show (60 : Int) ≤ 60 by omega) k
    by_cases hlt : k < 10001
    · by_cases hc : 256 * hi ≤ avAt we 60 0 k
      · have hR := Lib.hid (uR_yes (q := qL we hi) ⟨by omega, hc, HQ.out⟩)
        go_wp2
        go_ret2
        exact ⟨by rw [hR.out]; rfl, bt (ba (b0 _) _) hb⟩
      · have HC := Lib.hid (show ¬ qL we hi k from hc)
        go_wp2_with (first | (go_at_call 47; refine (nextAverage_any _ _ _ _ _ _ _ (by omega) (by omega) (by omega) (by omega) (by omega) (by omega)).mono ?_; rintro e w2 ⟨rfl, hn⟩) | go_in)
        go_roundw
        case rel => exact ⟨k + 1, by omega, by go_num, rfl, less_succ HQ.out HC.out, bt hb hn⟩
        case measure => simp [intOf]; omega
    · obtain rfl : k = 10001 := by omega
      have hR := Lib.hid (uR_no (q := qL we hi) HQ.out)
      go_wp2
      go_ret2
      exact ⟨by rw [hR.out]; rfl, bt (ba (b0 _) _) hb⟩
theorem lengthsUntil_idle (lo hi we mo av : Int) (B : Nat) (w : World) (hB : w.cell? ⟨B, 0, none⟩ = some (.int .i64 lo)) (h1 : 1 ≤ we) (h2 : we ≤ 256) (v1 : 0 ≤ lo) (v2 : lo ≤ 60) (h3 : 0 ≤ av) (h4 : av ≤ 15360) :
    Calls Try.prog 54 #[.agg #[.int .i64 lo, .int .i64 hi, .int .i64 we, .int .i64 mo], .int .i64 av, .int .i64 0, .func (.func 56) #[] #[.pointer (some ⟨B, 0, none⟩)]] w fun e w' => e = .returned (.tuple #[.int .i64 (uR (qI we av lo)).1, .bool (uR (qI we av lo)).2]) ∧ Below w.heap.size w w' := by
  have hBlt := World.block_lt_of_cell? w _ hB
  simp only at hBlt
  go_enter Try.func54, Try.ntmps54
  go_wp2_with fail
  go_loopw [1, 10] (fun a n wr => ∃ k : Nat, k ≤ 10001 ∧ n = .int .i64 k ∧ a = .int .i64 (avAt we 0 av k) ∧ (∀ j, j < k → ¬ qI we av lo j) ∧ Below (w.alloc (.cells #[.int .i64 lo, .int .i64 hi, .int .i64 we, .int .i64 mo] 25)).heap.size (w.alloc (.cells #[.int .i64 lo, .int .i64 hi, .int .i64 we, .int .i64 mo] 25)) wr) (fun _ n _ => 10001 - (intOf n).toNat)
  case atStart => exact ⟨0, by omega, rfl, rfl, fun j hj => by omega, Below.refl _ _⟩
  case round =>
    obtain ⟨k, hk, rfl, rfl, hq, hb⟩ := hrel
    have HQ := Lib.hid hq
    clear hq
    have zhb := hb.size; (try simp at zhb); have c0hb := fun o => bkeep hb (w.heap.size) o (by first | omega | (simp; done) | (simp; omega)); have f0hb := fun o => bfree hb (w.heap.size) o (by first | omega | (simp; done) | (simp; omega))
    have cB : wr.cell? ⟨B, 0, none⟩ = some (.int .i64 lo) := by
      rw [bkeep hb B 0 (by simp; omega), World.cell?_alloc_past _ _ _ hBlt]
      exact hB
    have ab := avAt_bound h1 h2 h3 h4 (show (0 : Int) ≤ 0 by omega) (show (0 : Int) ≤ 60 by omega) k
    by_cases hlt : k < 10001
    · by_cases hc : avAt we 0 av k < 256 * lo
      · have hR := Lib.hid (uR_yes (q := qI we av lo) ⟨by omega, hc, HQ.out⟩)
        go_wp2
        go_ret2
        exact ⟨by rw [hR.out]; rfl, bt (ba (b0 _) _) hb⟩
      · have HC := Lib.hid (show ¬ qI we av lo k from hc)
        go_wp2_with (first | (go_at_call 47; refine (nextAverage_any _ _ _ _ _ _ _ (by omega) (by omega) (by omega) (by omega) (by omega) (by omega)).mono ?_; rintro e w2 ⟨rfl, hn⟩) | go_in)
        go_roundw
        case rel => exact ⟨k + 1, by omega, by go_num, rfl, less_succ HQ.out HC.out, bt hb hn⟩
        case measure => simp [intOf]; omega
    · obtain rfl : k = 10001 := by omega
      have hR := Lib.hid (uR_no (q := qI we av lo) HQ.out)
      go_wp2
      go_ret2
      exact ⟨by rw [hR.out]; rfl, bt (ba (b0 _) _) hb⟩
open Classical in
noncomputable def lfR (lo hi we mo : Int) : Int × Bool := if good lo hi we mo then uR (qL we hi) else (0, false)
open Classical in
noncomputable def iuR (lo hi we mo av : Int) : Int × Bool := if good lo hi we mo && isAv av then uR (qI we av lo) else (0, false)
theorem uR_fst (q : Nat → Prop) : 0 ≤ (uR q).1 := by
  unfold uR
  split
  · exact Int.natCast_nonneg _
  · decide
theorem uR_snd (q : Nat → Prop) (h : (uR q).2 = false) : (uR q).1 = 0 := by
  unfold uR at h ⊢
  split at h
  · cases h
  · rename_i h'
    rw [dif_neg h']
theorem specLeastForced_any (lo hi we mo : Int) (w : World) :
    Calls Try.prog 25 #[.agg #[.int .i64 lo, .int .i64 hi, .int .i64 we, .int .i64 mo]] w fun e w' => e = .returned (.tuple #[.int .i64 (lfR lo hi we mo).1, .bool (lfR lo hi we mo).2]) ∧ Below w.heap.size w w' := by
  rcases h1 : good lo hi we mo with _ | _
  · have hR := Lib.hid (show lfR lo hi we mo = (0, false) by simp [lfR, h1])
    go_enter Try.func25, Try.ntmps25
    go_wp2_with (go_at_call 41; refine (rdGood_any _ _ _ _ _).mono ?_; rintro e w1 ⟨rfl, hg⟩; have zhg := hg.size; (try simp at zhg); have c0hg := fun o => bkeep hg (w.heap.size) o (by first | omega | (simp; done) | (simp; omega)); have f0hg := fun o => bfree hg (w.heap.size) o (by first | omega | (simp; done) | (simp; omega)))
    go_ret2
    exact ⟨by rw [hR.out]; rfl, (by repeat (first | (with_reducible exact b0 _) | (with_reducible refine ba ?_ _) | (with_reducible refine bd ?_ _) | (with_reducible refine Below.drew ?_) | (with_reducible refine bs ?_ (by first | exact Nat.le_refl _ | exact Nat.le_add_right _ _ | omega) _) | (with_reducible refine bt ?_ (by assumption))))⟩
  have hR := Lib.hid (show lfR lo hi we mo = uR (qL we hi) by simp [lfR, h1])
  have g := good_iff.1 h1
  have hf := uR_fst (qL we hi)
  rcases hu : (uR (qL we hi)).2 with _ | _
  · have hN := Lib.hid (show uN (qL we hi) = -1 by simp [uN, hu])
    have hF := Lib.hid (uR_snd _ hu)
    have HU := Lib.hid hu
    clear hu hf
    go_enter Try.func25, Try.ntmps25
    go_wp2_with (go_at_call 41; refine (rdGood_any _ _ _ _ _).mono ?_; rintro e w1 ⟨rfl, hg⟩; have zhg := hg.size; (try simp at zhg); have c0hg := fun o => bkeep hg (w.heap.size) o (by first | omega | (simp; done) | (simp; omega)); have f0hg := fun o => bfree hg (w.heap.size) o (by first | omega | (simp; done) | (simp; omega)))
    refine (rdSteps_least _ _ _ _ _ (by omega) (by omega)).mono ?_
    rw [hN.out]
    rintro e w2 ⟨rfl, hw⟩
    go_wp2
    go_ret2
    exact ⟨by rw [hR.out, hF.out, HU.out]; rfl, (by repeat (first | (with_reducible exact b0 _) | (with_reducible refine ba ?_ _) | (with_reducible refine bd ?_ _) | (with_reducible refine Below.drew ?_) | (with_reducible refine bs ?_ (by first | exact Nat.le_refl _ | exact Nat.le_add_right _ _ | omega) _) | (with_reducible refine bt ?_ (by assumption))))⟩
  · have hN := Lib.hid (show uN (qL we hi) = (uR (qL we hi)).1 by simp [uN, hu])
    have HU := Lib.hid hu
    clear hu
    go_enter Try.func25, Try.ntmps25
    go_wp2_with (go_at_call 41; refine (rdGood_any _ _ _ _ _).mono ?_; rintro e w1 ⟨rfl, hg⟩; have zhg := hg.size; (try simp at zhg); have c0hg := fun o => bkeep hg (w.heap.size) o (by first | omega | (simp; done) | (simp; omega)); have f0hg := fun o => bfree hg (w.heap.size) o (by first | omega | (simp; done) | (simp; omega)))
    refine (rdSteps_least _ _ _ _ _ (by omega) (by omega)).mono ?_
    rw [hN.out]
    rintro e w2 ⟨rfl, hw⟩
    go_wp2
    go_ret2
    exact ⟨by rw [hR.out, HU.out]; rfl, (by repeat (first | (with_reducible exact b0 _) | (with_reducible refine ba ?_ _) | (with_reducible refine bd ?_ _) | (with_reducible refine Below.drew ?_) | (with_reducible refine bs ?_ (by first | exact Nat.le_refl _ | exact Nat.le_add_right _ _ | omega) _) | (with_reducible refine bt ?_ (by assumption))))⟩
theorem specIdleUntil_any (lo hi we mo av : Int) (w : World) :
    Calls Try.prog 27 #[.agg #[.int .i64 lo, .int .i64 hi, .int .i64 we, .int .i64 mo], .int .i64 av] w fun e w' => e = .returned (.tuple #[.int .i64 (iuR lo hi we mo av).1, .bool (iuR lo hi we mo av).2]) ∧ Below w.heap.size w w' := by
  rcases h1 : good lo hi we mo with _ | _
  · have hR := Lib.hid (show iuR lo hi we mo av = (0, false) by simp [iuR, h1])
    go_enter Try.func27, Try.ntmps27
    go_wp2_with (first | (go_at_call 41; refine (rdGood_any _ _ _ _ _).mono ?_; rintro e w1 ⟨rfl, hg⟩; have zhg := hg.size; (try simp at zhg); have c0hg := fun o => bkeep hg (w.heap.size) o (by first | omega | (simp; done) | (simp; omega)); have f0hg := fun o => bfree hg (w.heap.size) o (by first | omega | (simp; done) | (simp; omega))) | (go_at_call 42; refine (rdAverage_any _ _).mono ?_; rintro e w' ⟨rfl, rfl⟩))
    go_ret2
    exact ⟨by rw [hR.out]; rfl, (by repeat (first | (with_reducible exact b0 _) | (with_reducible refine ba ?_ _) | (with_reducible refine bd ?_ _) | (with_reducible refine Below.drew ?_) | (with_reducible refine bs ?_ (by first | exact Nat.le_refl _ | exact Nat.le_add_right _ _ | omega) _) | (with_reducible refine bt ?_ (by assumption))))⟩
  rcases h2 : isAv av with _ | _
  · have hR := Lib.hid (show iuR lo hi we mo av = (0, false) by simp [iuR, h1, h2])
    go_enter Try.func27, Try.ntmps27
    go_wp2_with (first | (go_at_call 41; refine (rdGood_any _ _ _ _ _).mono ?_; rintro e w1 ⟨rfl, hg⟩; have zhg := hg.size; (try simp at zhg); have c0hg := fun o => bkeep hg (w.heap.size) o (by first | omega | (simp; done) | (simp; omega)); have f0hg := fun o => bfree hg (w.heap.size) o (by first | omega | (simp; done) | (simp; omega))) | (go_at_call 42; refine (rdAverage_any _ _).mono ?_; rintro e w' ⟨rfl, rfl⟩))
    go_ret2
    exact ⟨by rw [hR.out]; rfl, (by repeat (first | (with_reducible exact b0 _) | (with_reducible refine ba ?_ _) | (with_reducible refine bd ?_ _) | (with_reducible refine Below.drew ?_) | (with_reducible refine bs ?_ (by first | exact Nat.le_refl _ | exact Nat.le_add_right _ _ | omega) _) | (with_reducible refine bt ?_ (by assumption))))⟩
  have hR := Lib.hid (show iuR lo hi we mo av = uR (qI we av lo) by simp [iuR, h1, h2])
  have g := good_iff.1 h1
  have g2 : 0 ≤ av ∧ av ≤ 15360 := by simpa [isAv] using h2
  have hf := uR_fst (qI we av lo)
  rcases hu : (uR (qI we av lo)).2 with _ | _
  · have hN := Lib.hid (show uN (qI we av lo) = -1 by simp [uN, hu])
    have hF := Lib.hid (uR_snd _ hu)
    have HU := Lib.hid hu
    clear hu hf
    go_enter Try.func27, Try.ntmps27
    go_wp2_with (first | (go_at_call 41; refine (rdGood_any _ _ _ _ _).mono ?_; rintro e w1 ⟨rfl, hg⟩; have zhg := hg.size; (try simp at zhg); have c0hg := fun o => bkeep hg (w.heap.size) o (by first | omega | (simp; done) | (simp; omega)); have f0hg := fun o => bfree hg (w.heap.size) o (by first | omega | (simp; done) | (simp; omega))) | (go_at_call 42; refine (rdAverage_any _ _).mono ?_; rintro e w' ⟨rfl, rfl⟩))
    refine (rdSteps_idle _ _ _ _ _ _ (by omega) (by omega) (by omega) (by omega)).mono ?_
    rw [hN.out]
    rintro e w2 ⟨rfl, hw⟩
    go_wp2
    go_ret2
    exact ⟨by rw [hR.out, hF.out, HU.out]; rfl, (by repeat (first | (with_reducible exact b0 _) | (with_reducible refine ba ?_ _) | (with_reducible refine bd ?_ _) | (with_reducible refine Below.drew ?_) | (with_reducible refine bs ?_ (by first | exact Nat.le_refl _ | exact Nat.le_add_right _ _ | omega) _) | (with_reducible refine bt ?_ (by assumption))))⟩
  · have hN := Lib.hid (show uN (qI we av lo) = (uR (qI we av lo)).1 by simp [uN, hu])
    have HU := Lib.hid hu
    clear hu
    go_enter Try.func27, Try.ntmps27
    go_wp2_with (first | (go_at_call 41; refine (rdGood_any _ _ _ _ _).mono ?_; rintro e w1 ⟨rfl, hg⟩; have zhg := hg.size; (try simp at zhg); have c0hg := fun o => bkeep hg (w.heap.size) o (by first | omega | (simp; done) | (simp; omega)); have f0hg := fun o => bfree hg (w.heap.size) o (by first | omega | (simp; done) | (simp; omega))) | (go_at_call 42; refine (rdAverage_any _ _).mono ?_; rintro e w' ⟨rfl, rfl⟩))
    refine (rdSteps_idle _ _ _ _ _ _ (by omega) (by omega) (by omega) (by omega)).mono ?_
    rw [hN.out]
    rintro e w2 ⟨rfl, hw⟩
    go_wp2
    go_ret2
    exact ⟨by rw [hR.out, HU.out]; rfl, (by repeat (first | (with_reducible exact b0 _) | (with_reducible refine ba ?_ _) | (with_reducible refine bd ?_ _) | (with_reducible refine Below.drew ?_) | (with_reducible refine bs ?_ (by first | exact Nat.le_refl _ | exact Nat.le_add_right _ _ | omega) _) | (with_reducible refine bt ?_ (by assumption))))⟩
theorem implLeastForced_any (lo hi we mo : Int) (w : World) :
    Calls Try.prog 26 #[.agg #[.int .i64 lo, .int .i64 hi, .int .i64 we, .int .i64 mo]] w fun e w' => e = .returned (.tuple #[.int .i64 (lfR lo hi we mo).1, .bool (lfR lo hi we mo).2]) ∧ Below w.heap.size w w' := by
  rcases h1 : good lo hi we mo with _ | _
  · have hR := Lib.hid (show lfR lo hi we mo = (0, false) by simp [lfR, h1])
    go_enter Try.func26, Try.ntmps26
    go_wp2_with (go_at_call 16; refine (implIsEarly_any _ _ _ _ _).mono ?_; rintro e w1 ⟨rfl, hg⟩; have zhg := hg.size; (try simp at zhg); have c0hg := fun o => bkeep hg (w.heap.size) o (by first | omega | (simp; done) | (simp; omega)); have f0hg := fun o => bfree hg (w.heap.size) o (by first | omega | (simp; done) | (simp; omega)))
    go_ret2
    exact ⟨by rw [hR.out]; rfl, (by repeat (first | (with_reducible exact b0 _) | (with_reducible refine ba ?_ _) | (with_reducible refine bd ?_ _) | (with_reducible refine Below.drew ?_) | (with_reducible refine bs ?_ (by first | exact Nat.le_refl _ | exact Nat.le_add_right _ _ | omega) _) | (with_reducible refine bt ?_ (by assumption))))⟩
  have hR := Lib.hid (show lfR lo hi we mo = uR (qL we hi) by simp [lfR, h1])
  have g := good_iff.1 h1
  go_enter Try.func26, Try.ntmps26
  go_wp2_with (go_at_call 16; refine (implIsEarly_any _ _ _ _ _).mono ?_; rintro e w1 ⟨rfl, hg⟩; have zhg := hg.size; (try simp at zhg); have c0hg := fun o => bkeep hg (w.heap.size) o (by first | omega | (simp; done) | (simp; omega)); have f0hg := fun o => bfree hg (w.heap.size) o (by first | omega | (simp; done) | (simp; omega)))
  refine (lengthsUntil_least lo hi we mo w.heap.size w1 (by rw [c0hg]; simp) (by omega) (by omega) (by omega) (by omega)).mono ?_
  rintro e w2 ⟨rfl, hw⟩
  go_wp2
  go_ret2
  exact ⟨by rw [hR.out]; rfl, (by repeat (first | (with_reducible exact b0 _) | (with_reducible refine ba ?_ _) | (with_reducible refine bd ?_ _) | (with_reducible refine Below.drew ?_) | (with_reducible refine bs ?_ (by first | exact Nat.le_refl _ | exact Nat.le_add_right _ _ | omega) _) | (with_reducible refine bt ?_ (by assumption))))⟩
theorem implIdleUntil_any (lo hi we mo av : Int) (w : World) :
    Calls Try.prog 28 #[.agg #[.int .i64 lo, .int .i64 hi, .int .i64 we, .int .i64 mo], .int .i64 av] w fun e w' => e = .returned (.tuple #[.int .i64 (iuR lo hi we mo av).1, .bool (iuR lo hi we mo av).2]) ∧ Below w.heap.size w w' := by
  rcases h1 : good lo hi we mo with _ | _
  · have hR := Lib.hid (show iuR lo hi we mo av = (0, false) by simp [iuR, h1])
    go_enter Try.func28, Try.ntmps28
    go_wp2_with (first | (go_at_call 16; refine (implIsEarly_any _ _ _ _ _).mono ?_; rintro e w1 ⟨rfl, hg⟩; have zhg := hg.size; (try simp at zhg); have c0hg := fun o => bkeep hg (w.heap.size) o (by first | omega | (simp; done) | (simp; omega)); have f0hg := fun o => bfree hg (w.heap.size) o (by first | omega | (simp; done) | (simp; omega))) | (go_at_call 45; refine (isAverage_any _ _).mono ?_; rintro e w' ⟨rfl, rfl⟩))
    go_ret2
    exact ⟨by rw [hR.out]; rfl, (by repeat (first | (with_reducible exact b0 _) | (with_reducible refine ba ?_ _) | (with_reducible refine bd ?_ _) | (with_reducible refine Below.drew ?_) | (with_reducible refine bs ?_ (by first | exact Nat.le_refl _ | exact Nat.le_add_right _ _ | omega) _) | (with_reducible refine bt ?_ (by assumption))))⟩
  rcases h2 : isAv av with _ | _
  · have hR := Lib.hid (show iuR lo hi we mo av = (0, false) by simp [iuR, h1, h2])
    go_enter Try.func28, Try.ntmps28
    go_wp2_with (first | (go_at_call 16; refine (implIsEarly_any _ _ _ _ _).mono ?_; rintro e w1 ⟨rfl, hg⟩; have zhg := hg.size; (try simp at zhg); have c0hg := fun o => bkeep hg (w.heap.size) o (by first | omega | (simp; done) | (simp; omega)); have f0hg := fun o => bfree hg (w.heap.size) o (by first | omega | (simp; done) | (simp; omega))) | (go_at_call 45; refine (isAverage_any _ _).mono ?_; rintro e w' ⟨rfl, rfl⟩))
    go_ret2
    exact ⟨by rw [hR.out]; rfl, (by repeat (first | (with_reducible exact b0 _) | (with_reducible refine ba ?_ _) | (with_reducible refine bd ?_ _) | (with_reducible refine Below.drew ?_) | (with_reducible refine bs ?_ (by first | exact Nat.le_refl _ | exact Nat.le_add_right _ _ | omega) _) | (with_reducible refine bt ?_ (by assumption))))⟩
  have hR := Lib.hid (show iuR lo hi we mo av = uR (qI we av lo) by simp [iuR, h1, h2])
  have g := good_iff.1 h1
  have g2 : 0 ≤ av ∧ av ≤ 15360 := by simpa [isAv] using h2
  go_enter Try.func28, Try.ntmps28
  go_wp2_with (first | (go_at_call 16; refine (implIsEarly_any _ _ _ _ _).mono ?_; rintro e w1 ⟨rfl, hg⟩; have zhg := hg.size; (try simp at zhg); have c0hg := fun o => bkeep hg (w.heap.size) o (by first | omega | (simp; done) | (simp; omega)); have f0hg := fun o => bfree hg (w.heap.size) o (by first | omega | (simp; done) | (simp; omega))) | (go_at_call 45; refine (isAverage_any _ _).mono ?_; rintro e w' ⟨rfl, rfl⟩))
  refine (lengthsUntil_idle lo hi we mo av w.heap.size w1 (by rw [c0hg]; simp) (by omega) (by omega) (by omega) (by omega) (by omega) (by omega)).mono ?_
  rintro e w2 ⟨rfl, hw⟩
  go_wp2
  go_ret2
  exact ⟨by rw [hR.out]; rfl, (by repeat (first | (with_reducible exact b0 _) | (with_reducible refine ba ?_ _) | (with_reducible refine bd ?_ _) | (with_reducible refine Below.drew ?_) | (with_reducible refine bs ?_ (by first | exact Nat.le_refl _ | exact Nat.le_add_right _ _ | omega) _) | (with_reducible refine bt ?_ (by assumption))))⟩
end Go.Proofs.Ytpgddjnjojkllaa
