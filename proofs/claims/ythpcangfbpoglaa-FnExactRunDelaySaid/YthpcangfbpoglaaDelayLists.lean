/- The contracts of DropsIn, WaitsOfRun and DropTimes: what the call returns; old memory is left as it was. -/
import Derived.Test.YthpcangfbpoglaaInts
import Derived.Test.YthpcangfbpoglaaDelay
namespace Go.Proofs.Ythpcangfbpoglaa
open Go.ChangeShapes Go.WideShapes Go.ChangeAt Go.RowKit
set_option linter.unusedVariables false
/-! ### DropsIn -/
def neg (l : List Int) (k : Nat) : Nat := ((l.take k).filter fun x => decide (x < 0)).length
theorem neg_le (l : List Int) (k : Nat) : neg l k ≤ k := by
  unfold neg
  exact Nat.le_trans (List.length_filter_le _ _) (List.length_take_le _ _)
theorem neg_succ {l : List Int} {k : Nat} (h : k < l.length) : neg l (k + 1) = neg l k + if l[k]?.getD 0 < 0 then 1 else 0 := by
  unfold neg
  rw [List.take_succ_eq_append_getElem h, List.filter_append, List.length_append, List.getElem?_eq_getElem h]
  by_cases h' : l[k] < 0 <;> simp [h']
def diR (l : List Int) : Int × Bool := if l.length ≤ 40 then (neg l l.length, true) else (0, false)
/-! ### Arrivals -/
def tickP (n : Int) : Bool := decide (0 ≤ n ∧ n ≤ 100000)
theorem cdTick_any (a : Int) (w : World) : Calls Try.prog 20 #[.int .i64 a] w fun e w' => e = .returned (.bool (tickP a)) ∧ w = w' := by
  go_enter Try.func20, Try.ntmps20
  go_wp2_with (go_at_call 13; refine (l1In_any _ _ _ _).mono ?_; rintro e w' ⟨rfl, rfl⟩)
  go_ret
  exact ⟨ret_b (by rw [Bool.eq_iff_iff]; simp [tickP]), rfl⟩
theorem isTicks_any (a : Int) (w : World) : Calls Try.prog 23 #[.int .i64 a] w fun e w' => e = .returned (.bool (tickP a)) ∧ w = w' := by
  go_enter Try.func23, Try.ntmps23
  go_wp2
  all_goals
    go_ret
    exact ⟨ret_b (by rw [Bool.eq_iff_iff]; simp [tickP]; try omega), rfl⟩
def Arr (l : List Int) (k : Nat) : Prop := ∀ i, i < k → tickP (l[i]?.getD 0) = true ∧ (0 < i → l[i - 1]?.getD 0 ≤ l[i]?.getD 0)
open Classical in
noncomputable def arrB (l : List Int) : Bool := decide (l.length ≤ 40) && decide (Arr l l.length)
theorem Arr.succ {l : List Int} {k : Nat} (h : Arr l k) (h1 : tickP (l[k]?.getD 0) = true) (h2 : 0 < k → l[k - 1]?.getD 0 ≤ l[k]?.getD 0) : Arr l (k + 1) := fun i hi => by
  rcases Nat.lt_succ_iff_lt_or_eq.1 hi with h' | rfl
  · exact h i h'
  · exact ⟨h1, h2⟩
theorem arrB_false {l : List Int} {k : Nat} (hk : k < l.length) (h : ¬ (tickP (l[k]?.getD 0) = true ∧ (0 < k → l[k - 1]?.getD 0 ≤ l[k]?.getD 0))) : arrB l = false := by
  have : ¬ Arr l l.length := fun ha => h (ha k hk)
  simp [arrB, this]
theorem arrB_true {l : List Int} (h : Arr l l.length) : arrB l = decide (l.length ≤ 40) := by simp [arrB, h]
theorem arrB_iff {l : List Int} : arrB l = true ↔ l.length ≤ 40 ∧ Arr l l.length := by simp [arrB]
theorem cdArrivals_any (A : Option Addr) (n cap : Nat) (l : List Int) (w : World) (hl : l.length = n) (hr : IRow w A l) (hn : n ≤ 9223372036854775807) :
    Calls Try.prog 12 #[.slice A n cap] w fun e w' => e = .returned (.bool (arrB l)) ∧ w = w' := by
  have HL := Lib.hid hl
  have HR := Lib.hid hr
  clear hl hr
  go_enter Try.func12, Try.ntmps12
  go_wp2_with fail
  go_loop [7] (fun i => ∃ k : Nat, k ≤ n ∧ i = .int .i64 k ∧ Arr l k) (fun i => n - (intOf i).toNat)
  case atStart => exact ⟨0, Nat.zero_le _, rfl, fun j hj => by omega⟩
  case round =>
    obtain ⟨k, hk, rfl, hall⟩ := hrel
    have HA := Lib.hid hall
    clear hall
    by_cases hlt : k < n
    · obtain ⟨g, off, rfl, hg, hc⟩ := HR.out.at_ (k := k) (by rw [HL.out]; exact hlt)
      have hck := hc k (by rw [HL.out]; exact hlt)
      have hck1 := hc (k - 1) (by rw [HL.out]; omega)
      clear hc
      rcases ht : tickP (l[k]?.getD 0) with _ | _
      · have hR := Lib.hid (arrB_false (k := k) (by rw [HL.out]; exact hlt) (by rw [ht]; simp))
        go_wp2_with (go_at_call 20; refine (cdTick_any _ _).mono ?_; rintro e w' ⟨rfl, rfl⟩)
        go_ret
        exact ⟨by rw [hR.out]; rfl, rfl⟩
      by_cases h0 : 0 < k
      · have h0' : 0 < (k : Int) := by omega
        have h1' : (k : Int) - 1 < (n : Int) := by omega
        by_cases hle : l[k - 1]?.getD 0 ≤ l[k]?.getD 0
        · have HS := Lib.hid (HA.out.succ ht (fun _ => hle))
          go_wp2_with (go_at_call 20; refine (cdTick_any _ _).mono ?_; rintro e w' ⟨rfl, rfl⟩)
          go_round
          case rel => exact ⟨k + 1, by omega, by go_num, HS.out⟩
          case measure => simp [intOf]; omega
        · have hR := Lib.hid (arrB_false (k := k) (by rw [HL.out]; exact hlt) (fun h => hle (h.2 h0)))
          have hle' : l[k]?.getD 0 < l[k - 1]?.getD 0 := by omega
          go_wp2_with (go_at_call 20; refine (cdTick_any _ _).mono ?_; rintro e w' ⟨rfl, rfl⟩)
          go_ret
          exact ⟨by rw [hR.out]; rfl, rfl⟩
      · have HS := Lib.hid (HA.out.succ ht (fun h => (h0 h).elim))
        have h0' : ¬ 0 < (k : Int) := by omega
        go_wp2_with (go_at_call 20; refine (cdTick_any _ _).mono ?_; rintro e w' ⟨rfl, rfl⟩)
        go_round
        case rel => exact ⟨k + 1, by omega, by go_num, HS.out⟩
        case measure => simp [intOf]; omega
    · obtain rfl : k = n := by omega
      have hR := Lib.hid (show arrB l = decide ((k : Int) ≤ 40) by rw [arrB_true (by rw [HL.out]; exact HA.out), HL.out]; exact decide_eq_decide.2 (by omega))
      go_wp2_with fail
      go_ret
      exact ⟨by rw [hR.out]; rfl, rfl⟩
theorem areArrivals_any (A : Option Addr) (n cap : Nat) (l : List Int) (w : World) (hl : l.length = n) (hr : IRow w A l) (hn : n ≤ 9223372036854775807) :
    Calls Try.prog 16 #[.slice A n cap] w fun e w' => e = .returned (.bool (arrB l)) ∧ w = w' := by
  have HL := Lib.hid hl
  have HR := Lib.hid hr
  clear hl hr
  go_enter Try.func16, Try.ntmps16
  go_wp2_with fail
  go_loop [7] (fun i => ∃ k : Nat, k ≤ n ∧ i = .int .i64 k ∧ Arr l k) (fun i => n - (intOf i).toNat)
  case atStart => exact ⟨0, Nat.zero_le _, rfl, fun j hj => by omega⟩
  case round =>
    obtain ⟨k, hk, rfl, hall⟩ := hrel
    have HA := Lib.hid hall
    clear hall
    by_cases hlt : k < n
    · obtain ⟨g, off, rfl, hg, hc⟩ := HR.out.at_ (k := k) (by rw [HL.out]; exact hlt)
      have hck := hc k (by rw [HL.out]; exact hlt)
      have hck1 := hc (k - 1) (by rw [HL.out]; omega)
      clear hc
      rcases ht : tickP (l[k]?.getD 0) with _ | _
      · have hR := Lib.hid (arrB_false (k := k) (by rw [HL.out]; exact hlt) (by rw [ht]; simp))
        go_wp2_with (go_at_call 23; refine (isTicks_any _ _).mono ?_; rintro e w' ⟨rfl, rfl⟩)
        go_ret
        exact ⟨by rw [hR.out]; rfl, rfl⟩
      by_cases h0 : 0 < k
      · have h0' : 0 < (k : Int) := by omega
        have h1' : (k : Int) - 1 < (n : Int) := by omega
        by_cases hle : l[k - 1]?.getD 0 ≤ l[k]?.getD 0
        · have HS := Lib.hid (HA.out.succ ht (fun _ => hle))
          go_wp2_with (go_at_call 23; refine (isTicks_any _ _).mono ?_; rintro e w' ⟨rfl, rfl⟩)
          go_round
          case rel => exact ⟨k + 1, by omega, by go_num, HS.out⟩
          case measure => simp [intOf]; omega
        · have hR := Lib.hid (arrB_false (k := k) (by rw [HL.out]; exact hlt) (fun h => hle (h.2 h0)))
          have hle' : l[k]?.getD 0 < l[k - 1]?.getD 0 := by omega
          go_wp2_with (go_at_call 23; refine (isTicks_any _ _).mono ?_; rintro e w' ⟨rfl, rfl⟩)
          go_ret
          exact ⟨by rw [hR.out]; rfl, rfl⟩
      · have HS := Lib.hid (HA.out.succ ht (fun h => (h0 h).elim))
        have h0' : ¬ 0 < (k : Int) := by omega
        go_wp2_with (go_at_call 23; refine (isTicks_any _ _).mono ?_; rintro e w' ⟨rfl, rfl⟩)
        go_round
        case rel => exact ⟨k + 1, by omega, by go_num, HS.out⟩
        case measure => simp [intOf]; omega
    · obtain rfl : k = n := by omega
      have hR := Lib.hid (show arrB l = decide ((k : Int) ≤ 40) by rw [arrB_true (by rw [HL.out]; exact HA.out), HL.out]; exact decide_eq_decide.2 (by omega))
      go_wp2_with fail
      go_ret
      exact ⟨by rw [hR.out]; rfl, rfl⟩
end Go.Proofs.Ythpcangfbpoglaa
