/- The contracts of the root's and the gap's functions: what the call returns; old memory is left as it was. -/
import Derived.Test.YthpcangfbpoglaaRows
import Derived.Test.YthpcangfbpoglaaBase
namespace Go.Proofs.Ythpcangfbpoglaa
open Go.ChangeShapes Go.WideShapes Go.ChangeAt Go.RowKit
def IsRoot (n r : Int) : Prop := 0 ≤ r ∧ r * r ≤ n ∧ n < (r + 1) * (r + 1)
theorem sq_mono {a b : Int} (h0 : 0 ≤ a) (h : a ≤ b) : a * a ≤ b * b := Int.mul_le_mul h h h0 (by omega)
theorem IsRoot.unique {n r s : Int} (h : IsRoot n r) (k : IsRoot n s) : r = s := by
  obtain ⟨h0, h1, h2⟩ := h
  obtain ⟨k0, k1, k2⟩ := k
  rcases Int.lt_trichotomy r s with hl | hl | hl
  · have := sq_mono (a := r + 1) (b := s) (by omega) (by omega); omega
  · exact hl
  · have := sq_mono (a := s + 1) (b := r) (by omega) (by omega); omega
open Classical in
noncomputable def iroot (n : Int) : Int := if h : ∃ r, IsRoot n r then Classical.choose h else 0
theorem iroot_eq {n r : Int} (h : IsRoot n r) : iroot n = r := by
  have hx : ∃ r, IsRoot n r := ⟨r, h⟩
  unfold iroot
  rw [dif_pos hx]
  exact (Classical.choose_spec hx).unique h
theorem l1In_any (a b c : Int) (w : World) :
    Calls Try.prog 13 #[.int .i64 a, .int .i64 b, .int .i64 c] w fun e w' => e = .returned (.bool (decide (b ≤ a ∧ a ≤ c))) ∧ w = w' := by
  go_enter Try.func13, Try.ntmps13
  go_wp2
  all_goals
    go_ret
    exact ⟨ret_b (by rw [Bool.eq_iff_iff]; simp; try omega), rfl⟩
theorem sq_lt {a n : Int} (h : a * a ≤ n) (hn : n ≤ 1000000000) : a ≤ 31622 := by
  rcases Int.lt_or_le 31622 a with hl | hl
  · have := sq_mono (a := 31623) (b := a) (by omega) (by omega); omega
  · exact hl
theorem cdRoot_any (n : Int) (w : World) (h1 : 0 ≤ n) (h2 : n ≤ 1000000000) :
    Calls Try.prog 29 #[.int .i64 n] w fun e w' => e = .returned (.int .i64 (iroot n)) ∧ w = w' := by
  go_enter Try.func29, Try.ntmps29
  go_wp2
  go_loop [3, 4] (fun o b => ∃ (out c : Int) (j : Nat), j ≤ 16 ∧ c = 2 ^ j ∧ o = .int .i64 out ∧ b = .int .i64 (c / 2) ∧ 0 ≤ out ∧ out * out ≤ n ∧ n < (out + c) * (out + c)) (fun _ b => (intOf b).toNat)
  case atStart => exact ⟨0, 65536, 16, by omega, by decide, rfl, rfl, by omega, by omega, by omega⟩
  case round =>
    obtain ⟨out, c, j, hj, hc, rfl, rfl, h3, h4, h5⟩ := hrel
    have h6 := sq_lt h4 h2
    rcases j with _ | j
    · obtain rfl : c = 1 := by simpa using hc
      have hR := Lib.hid (iroot_eq ⟨h3, h4, h5⟩)
      clear hc
      go_wp2
      go_ret
      exact ⟨by rw [hR.out]; rfl, rfl⟩
    · obtain ⟨d, hd⟩ : ∃ d : Int, d = 2 ^ j := ⟨_, rfl⟩
      have hcd : c = 2 * d := by rw [hc, Int.pow_succ, hd]; omega
      have hd1 : 1 ≤ d := by have : (0 : Int) < 2 ^ j := Int.pow_pos (by decide); omega
      have hd2 : d ≤ 32768 := by
        rw [hd]
        have : (2 : Int) ^ j ≤ 2 ^ 15 := by
          have := Nat.pow_le_pow_right (show 0 < 2 by omega) (show j ≤ 15 by omega)
          exact_mod_cast this
        omega
      obtain rfl := hcd
      have hq : 2 * d / 2 = d := by omega
      rw [hq]
      have hm0 := Int.mul_nonneg (show 0 ≤ out + d by omega) (show 0 ≤ out + d by omega)
      have hm1 := sq_mono (a := out + d) (b := 65536) (by omega) (by omega)
      have HD := Lib.hid hd
      clear hq hd hc
      by_cases hle : (out + d) * (out + d) ≤ n
      · go_wp2
        go_round
        case rel => exact ⟨out + d, d, j, by omega, HD.out, rfl, rfl, by omega, hle, by rw [show out + d + d = out + 2 * d by omega]; exact h5⟩
        case measure => simp [intOf]; omega
      · go_wp2
        go_round
        case rel => exact ⟨out, d, j, by omega, HD.out, rfl, rfl, by omega, h4, by omega⟩
        case measure => simp [intOf]; omega
theorem firstTime_any (B : Nat) (n : Int) (w : World) (hc : w.cell? ⟨B, 0, none⟩ = some (.int .i64 n)) (h1 : 0 ≤ n) (h2 : n ≤ 1000000000) :
    Calls Try.prog 31 #[.int .i64 0, .int .i64 31623, .func (.func 32) #[] #[.pointer (some ⟨B, 0, none⟩)]] w fun e w' => e = .returned (.int .i64 (iroot n + 1)) ∧ w = w' := by
  go_enter Try.func31, Try.ntmps31
  go_wp2
  go_loop [0, 1] (fun a b => ∃ lo hi : Int, a = .int .i64 lo ∧ b = .int .i64 hi ∧ 0 ≤ lo ∧ lo ≤ hi + 1 ∧ hi ≤ 31623 ∧ (lo = 0 ∨ (lo - 1) * (lo - 1) ≤ n) ∧ (hi = 31623 ∨ n < (hi + 1) * (hi + 1))) (fun a b => (intOf b - intOf a + 1).toNat)
  case atStart => exact ⟨0, 31623, rfl, rfl, by omega, by omega, by omega, .inl rfl, .inl rfl⟩
  case round =>
    obtain ⟨lo, hi, rfl, rfl, h3, h4, h5, h6, h7⟩ := hrel
    have H6 := Lib.hid h6
    have H7 := Lib.hid h7
    clear h6 h7
    by_cases hlt : lo ≤ hi
    · obtain ⟨m, hm⟩ : ∃ m : Int, m = (lo + hi) / 2 := ⟨_, rfl⟩
      have hm1 : lo ≤ m := by omega
      have hm2 : m ≤ hi := by omega
      have hm3 := Int.mul_nonneg (show 0 ≤ m by omega) (show 0 ≤ m by omega)
      have hm4 := sq_mono (a := m) (b := 31623) (by omega) (by omega)
      by_cases hs : n < m * m
      · have HM := Lib.hid hm
        obtain rfl := hm
        go_wp2
        go_round
        case rel => exact ⟨lo, (lo + hi) / 2 - 1, rfl, rfl, h3, by omega, by omega, H6.out, .inr (by rw [show (lo + hi) / 2 - 1 + 1 = (lo + hi) / 2 by omega]; exact hs)⟩
        case measure => simp [intOf]; omega
      · obtain rfl := hm
        go_wp2
        go_round
        case rel => exact ⟨(lo + hi) / 2 + 1, hi, rfl, rfl, by omega, by omega, h5, .inr (by rw [show (lo + hi) / 2 + 1 - 1 = (lo + hi) / 2 by omega]; omega), H7.out⟩
        case measure => simp [intOf]; omega
    · have hR := Lib.hid (show iroot n = lo - 1 by
        obtain rfl : lo = hi + 1 := by omega
        refine iroot_eq ⟨?_, ?_, ?_⟩
        · rcases H7.out with h | h
          · omega
          · rcases H6.out with h' | h'
            · obtain rfl : hi = -1 := by omega
              simp at h
              omega
            · rcases Int.lt_or_le hi 0 with h8 | h8
              · obtain rfl : hi = -1 := by omega
                simp at h
                omega
              · omega
        · rcases H6.out with h | h
          · obtain rfl : hi = -1 := by omega
            rcases H7.out with h' | h'
            · omega
            · simp at h'
              omega
          · exact h
        · rcases H7.out with h | h
          · subst h
            rcases H6.out with h' | h'
            · omega
            · simp at h'
              omega
          · rw [show hi + 1 - 1 + 1 = hi + 1 by omega]
            exact h)
      go_wp2
      go_ret
      exact ⟨ret_i (by have := hR.out; omega), rfl⟩
theorem iroot_ex (n : Nat) : ∃ r : Int, IsRoot n r := by
  induction n with
  | zero => exact ⟨0, by omega, by omega, by omega⟩
  | succ n ih =>
    obtain ⟨r, h0, h1, h2⟩ := ih
    have e : (r + 1 + 1) * (r + 1 + 1) = (r + 1) * (r + 1) + 2 * r + 3 := by
      rw [Int.add_mul (r + 1) 1, Int.mul_add (r + 1) (r + 1) 1]; omega
    by_cases h : (r + 1) * (r + 1) ≤ (n + 1 : Nat)
    · exact ⟨r + 1, by omega, h, by omega⟩
    · exact ⟨r, h0, by omega, by omega⟩
theorem iroot_is {n : Int} (h : 0 ≤ n) : IsRoot n (iroot n) := by
  obtain ⟨m, rfl⟩ := Int.eq_ofNat_of_zero_le h
  obtain ⟨r, hr⟩ := iroot_ex m
  rw [iroot_eq hr]
  exact hr
theorem iroot_bound {n : Int} (h1 : 0 ≤ n) (h2 : n ≤ 1000000000) : 0 ≤ iroot n ∧ iroot n ≤ 31622 := ⟨(iroot_is h1).1, sq_lt (iroot_is h1).2.1 h2⟩
theorem iroot_pos {n : Int} (h1 : 1 ≤ n) : 1 ≤ iroot n := by
  obtain ⟨a, b, c⟩ := iroot_is (show 0 ≤ n by omega)
  rcases Int.lt_or_le 0 (iroot n) with h | h
  · omega
  · have h0 : iroot n = 0 := by omega
    rw [h0] at c
    omega
theorem rootOf_any (n : Int) (w : World) (h1 : 0 ≤ n) (h2 : n ≤ 1000000000) :
    Calls Try.prog 30 #[.int .i64 n] w fun e w' => e = .returned (.int .i64 (iroot n)) ∧ Below w.heap.size w w' := by
  have hb := iroot_bound h1 h2
  go_enter Try.func30, Try.ntmps30
  go_wp2_with fail
  refine (firstTime_any _ n _ (by simp) h1 h2).mono ?_
  rintro e w1 ⟨rfl, rfl⟩
  go_wp2
  go_ret
  exact ⟨ret_i (by omega), (by repeat (first | (with_reducible exact b0 _) | (with_reducible refine ba ?_ _) | (with_reducible refine bd ?_ _) | (with_reducible refine Below.drew ?_) | (with_reducible refine bs ?_ (by first | exact Nat.le_refl _ | exact Nat.le_add_right _ _ | omega) _) | (with_reducible refine bt ?_ (by assumption))))⟩
def rtR (n : Int) : Bool := decide (0 ≤ n ∧ n ≤ 1000000000)
noncomputable def rootR (n : Int) : Int × Bool := if 0 ≤ n ∧ n ≤ 1000000000 then (iroot n, true) else (0, false)
/-! ### The gap -/
def most (a b : Int) : Int := if b < a then a else b
noncomputable def gap (i c : Int) : Int := most 1 (i / iroot c)
theorem gap_bound {i c : Int} (h1 : 1 ≤ i) (h2 : i ≤ 10000) (h3 : 1 ≤ c) : 1 ≤ gap i c ∧ gap i c ≤ 10000 := by
  have hr := iroot_pos h3
  have := Int.ediv_le_self (iroot c) (show 0 ≤ i by omega)
  unfold gap most
  split <;> omega
theorem l1Most_any (a b : Int) (w : World) : Calls Try.prog 28 #[.int .i64 a, .int .i64 b] w fun e w' => e = .returned (.int .i64 (most a b)) ∧ w = w' := by
  by_cases h : b < a
  · have hR := Lib.hid (show most a b = a by simp [most, h])
    go_enter Try.func28, Try.ntmps28
    go_wp2
    go_ret
    exact ⟨by rw [hR.out]; rfl, rfl⟩
  · have hR := Lib.hid (show most a b = b by simp [most, h])
    go_enter Try.func28, Try.ntmps28
    go_wp2
    go_ret
    exact ⟨by rw [hR.out]; rfl, rfl⟩
theorem cdGap_any (i c : Int) (w : World) (h1 : 1 ≤ i) (h2 : i ≤ 10000) (h3 : 1 ≤ c) (h4 : c ≤ 1000) :
    Calls Try.prog 26 #[.int .i64 i, .int .i64 c] w fun e w' => e = .returned (.int .i64 (gap i c)) ∧ w = w' := by
  have hb := iroot_pos h3
  go_enter Try.func26, Try.ntmps26
  go_wp2_with (first | (go_at_call 29; refine (cdRoot_any _ _ (by omega) (by omega)).mono ?_; rintro e w' ⟨rfl, rfl⟩) | (go_at_call 28; refine (l1Most_any _ _ _).mono ?_; rintro e w' ⟨rfl, rfl⟩))
  go_ret
  exact ⟨rfl, rfl⟩
theorem gapAfter_any (i c : Int) (w : World) (h1 : 1 ≤ i) (h2 : i ≤ 10000) (h3 : 1 ≤ c) (h4 : c ≤ 1000) :
    Calls Try.prog 27 #[.int .i64 i, .int .i64 c] w fun e w' => e = .returned (.int .i64 (gap i c)) ∧ Below w.heap.size w w' := by
  have hb := iroot_pos h3
  by_cases h : i / iroot c < 1
  · have hR := Lib.hid (show gap i c = 1 by simp [gap, most, h])
    go_enter Try.func27, Try.ntmps27
    go_wp2_with (go_at_call 30; refine (rootOf_any _ _ (by omega) (by omega)).mono ?_; rintro e w' ⟨rfl, hr⟩)
    all_goals
      go_ret
      refine ⟨ret_i ?_, (by repeat (first | (with_reducible exact b0 _) | (with_reducible refine ba ?_ _) | (with_reducible refine bd ?_ _) | (with_reducible refine Below.drew ?_) | (with_reducible refine bs ?_ (by first | exact Nat.le_refl _ | exact Nat.le_add_right _ _ | omega) _) | (with_reducible refine bt ?_ (by assumption))))⟩
      have := hR.out
      omega
  · have hR := Lib.hid (show gap i c = i / iroot c by simp [gap, most, h])
    go_enter Try.func27, Try.ntmps27
    go_wp2_with (go_at_call 30; refine (rootOf_any _ _ (by omega) (by omega)).mono ?_; rintro e w' ⟨rfl, hr⟩)
    all_goals
      go_ret
      refine ⟨ret_i ?_, (by repeat (first | (with_reducible exact b0 _) | (with_reducible refine ba ?_ _) | (with_reducible refine bd ?_ _) | (with_reducible refine Below.drew ?_) | (with_reducible refine bs ?_ (by first | exact Nat.le_refl _ | exact Nat.le_add_right _ _ | omega) _) | (with_reducible refine bt ?_ (by assumption))))⟩
      have := hR.out
      omega
theorem cdInterval_any (a : Int) (w : World) : Calls Try.prog 19 #[.int .i64 a] w fun e w' => e = .returned (.bool (decide (1 ≤ a ∧ a ≤ 10000))) ∧ w = w' := by
  go_enter Try.func19, Try.ntmps19
  go_wp2_with (go_at_call 13; refine (l1In_any _ _ _ _).mono ?_; rintro e w' ⟨rfl, rfl⟩)
  go_ret
  exact ⟨ret_b (by rw [Bool.eq_iff_iff]; simp), rfl⟩
theorem isInterval_any (a : Int) (w : World) : Calls Try.prog 22 #[.int .i64 a] w fun e w' => e = .returned (.bool (decide (1 ≤ a ∧ a ≤ 10000))) ∧ w = w' := by
  go_enter Try.func22, Try.ntmps22
  go_wp2
  all_goals
    go_ret
    exact ⟨ret_b (by rw [Bool.eq_iff_iff]; simp; try omega), rfl⟩
noncomputable def gaR (i c : Int) : Int × Bool := if (1 ≤ i ∧ i ≤ 10000) ∧ 1 ≤ c ∧ c ≤ 1000 then (gap i c, true) else (0, false)
end Go.Proofs.Ythpcangfbpoglaa
