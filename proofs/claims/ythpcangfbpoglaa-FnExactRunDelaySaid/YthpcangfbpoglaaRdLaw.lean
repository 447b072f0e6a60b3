/- The plain laws of a run of a controlled delay: both programs' ways of reckoning the ticks. No program in sight. -/
import Derived.Test.YthpcangfbpoglaaStep4
namespace Go.Proofs.Ythpcangfbpoglaa
open Go.ChangeShapes Go.WideShapes Go.ChangeAt Go.RowKit
set_option linter.unusedVariables false
/-- The least multiple of sv that is not below x. -/
def upTo (x sv : Int) : Int := (x + sv - 1) / sv * sv
theorem upTo_ge {x sv : Int} (h : 1 ≤ sv) : x ≤ upTo x sv ∧ upTo x sv ≤ x + sv - 1 := by
  unfold upTo
  have h1 := Int.ediv_mul_le (x + sv - 1) (show sv ≠ 0 by omega)
  have h2 := Int.lt_ediv_add_one_mul_self (x + sv - 1) (show 0 < sv by omega)
  rw [Int.add_mul] at h2
  omega
theorem upTo_dvd (x sv : Int) : sv ∣ upTo x sv := ⟨(x + sv - 1) / sv, by rw [upTo, Int.mul_comm]⟩
theorem upTo_hi {x y sv : Int} (h : 1 ≤ sv) (hy : sv ∣ y) (hx : y < x) : y + sv ≤ upTo x sv := by
  obtain ⟨m, rfl⟩ := hy
  obtain ⟨q, hq⟩ := upTo_dvd x sv
  have h1 := (upTo_ge (x := x) h).1
  rw [hq] at h1 ⊢
  have h2 : sv * m < sv * q := by omega
  have h3 : m < q := Int.lt_of_mul_lt_mul_left h2 (by omega)
  have h4 : sv * (m + 1) ≤ sv * q := Int.mul_le_mul_of_nonneg_left (by omega) (by omega)
  rw [Int.mul_add] at h4
  omega
theorem upTo_lo {x y sv : Int} (h : 1 ≤ sv) (hy : sv ∣ y) (hx : x ≤ y) : upTo x sv ≤ y := by
  obtain ⟨m, rfl⟩ := hy
  obtain ⟨q, hq⟩ := upTo_dvd x sv
  have h1 := (upTo_ge (x := x) h).2
  rw [hq] at h1 ⊢
  have h2 : sv * q < sv * (m + 1) := by rw [Int.mul_add]; omega
  have h3 : q < m + 1 := Int.lt_of_mul_lt_mul_left h2 (by omega)
  exact Int.mul_le_mul_of_nonneg_left (by omega) (by omega)
/-- The tick at which the next step is taken. -/
def nwn (nw x sv : Int) : Int := if nw < x then upTo x sv else nw
theorem nwn_b {nw x sv : Int} (h : 1 ≤ sv) (h0 : 0 ≤ nw) (hx : 0 ≤ x) : 0 ≤ nwn nw x sv ∧ x ≤ nwn nw x sv ∧ nw ≤ nwn nw x sv ∧ (nwn nw x sv ≤ x + sv - 1 ∨ nwn nw x sv = nw) := by
  have := upTo_ge (x := x) h
  unfold nwn
  split <;> omega
theorem nwn_dvd {nw x sv : Int} (h : sv ∣ nw) : sv ∣ nwn nw x sv := by
  unfold nwn
  split
  · exact upTo_dvd _ _
  · exact h
/-- How many numbers from k on, one behind the other, are at most t. -/
def upn (a : List Int) (k : Nat) (t : Int) : Nat := ((a.drop k).takeWhile fun x => decide (x ≤ t)).length
theorem upn_zero {a : List Int} {k : Nat} {t : Int} (h : a.length ≤ k) : upn a k t = 0 := by
  rw [upn, List.drop_eq_nil_of_le h]
  rfl
theorem upn_yes {a : List Int} {k : Nat} {t : Int} (h : k < a.length) (ht : a[k]?.getD 0 ≤ t) : upn a k t = upn a (k + 1) t + 1 := by
  rw [List.getElem?_eq_getElem h] at ht
  rw [upn, List.drop_eq_getElem_cons h, List.takeWhile_cons_of_pos (by simpa using ht)]
  rfl
theorem upn_no {a : List Int} {k : Nat} {t : Int} (h : k < a.length) (ht : t < a[k]?.getD 0) : upn a k t = 0 := by
  rw [List.getElem?_eq_getElem h] at ht
  rw [upn, List.drop_eq_getElem_cons h, List.takeWhile_cons_of_neg (by simp at ht ⊢; omega)]
  rfl
theorem upn_le (a : List Int) (k : Nat) (t : Int) : upn a k t ≤ a.length - k := by
  unfold upn
  have := (List.takeWhile_sublist (fun x => decide (x ≤ t)) (l := a.drop k)).length_le
  simp at this
  omega
theorem upn_from {a : List Int} {t : Int} : ∀ k, k ≤ upn a 0 t → upn a k t = upn a 0 t - k
  | 0, _ => by simp
  | k + 1, h => by
    have h1 := upn_from (a := a) (t := t) k (by omega)
    have hk : k < a.length := by have := upn_le a 0 t; omega
    rcases Int.lt_or_le t (a[k]?.getD 0) with h2 | h2
    · have := upn_no hk h2
      omega
    · have := upn_yes hk h2
      omega
theorem upn_at {a : List Int} {t : Int} {k : Nat} (h : k < upn a 0 t) : a[k]?.getD 0 ≤ t := by
  have h1 := upn_from (a := a) (t := t) k (by omega)
  have hk : k < a.length := by have := upn_le a 0 t; omega
  rcases Int.lt_or_le t (a[k]?.getD 0) with h2 | h2
  · have := upn_no hk h2
    omega
  · exact h2
theorem upn_end {a : List Int} {t : Int} (h : upn a 0 t < a.length) : t < a[upn a 0 t]?.getD 0 := by
  have h1 := upn_from (a := a) (t := t) _ (Nat.le_refl _)
  rcases Int.lt_or_le t (a[upn a 0 t]?.getD 0) with h2 | h2
  · exact h2
  · have := upn_yes h h2
    omega
theorem upn_add {a : List Int} {t : Int} {k0 : Nat} : ∀ j, j ≤ upn a k0 t → upn a (k0 + j) t = upn a k0 t - j
  | 0, _ => by simp
  | j + 1, h => by
    have h1 := upn_add (a := a) (t := t) (k0 := k0) j (by omega)
    have hk : k0 + j < a.length := by have := upn_le a k0 t; omega
    rcases Int.lt_or_le t (a[k0 + j]?.getD 0) with h2 | h2
    · have := upn_no hk h2
      omega
    · have := upn_yes hk h2
      rw [show k0 + (j + 1) = k0 + j + 1 by omega]
      omega
theorem upn_in {a : List Int} {t : Int} {k0 j : Nat} (h : j < upn a k0 t) : k0 + j < a.length ∧ a[k0 + j]?.getD 0 ≤ t := by
  have h1 := upn_add (a := a) (t := t) (k0 := k0) j (by omega)
  have hk : k0 + j < a.length := by have := upn_le a k0 t; omega
  refine ⟨hk, ?_⟩
  rcases Int.lt_or_le t (a[k0 + j]?.getD 0) with h2 | h2
  · have := upn_no hk h2
    omega
  · exact h2
theorem upn_out {a : List Int} {t : Int} {k0 b : Nat} (hb : upn a k0 t = b) (h : k0 + b < a.length) : t < a[k0 + b]?.getD 0 := by
  have h1 := upn_add (a := a) (t := t) (k0 := k0) b (by omega)
  rcases Int.lt_or_le t (a[k0 + b]?.getD 0) with h2 | h2
  · exact h2
  · have := upn_yes h h2
    omega
theorem Arr.mono {a : List Int} {m : Nat} (h : Arr a m) : ∀ {i j : Nat}, i ≤ j → j < m → a[i]?.getD 0 ≤ a[j]?.getD 0
  | i, 0, h1, _ => by obtain rfl : i = 0 := by omega
                      exact Int.le_refl _
  | i, j + 1, h1, h2 => by
    rcases Nat.lt_succ_iff_lt_or_eq.1 (Nat.lt_succ_of_le h1) with h3 | rfl
    · have h4 := h.mono (i := i) (j := j) (by omega) (by omega)
      have h5 := (h (j + 1) h2).2 (by omega)
      simp at h5
      omega
    · exact Int.le_refl _
theorem upn_gt {a : List Int} {t : Int} {k : Nat} (h : Arr a a.length) (hk : k < a.length) (ht : a[k]?.getD 0 ≤ t) : k < upn a 0 t := by
  rcases Nat.lt_or_ge k (upn a 0 t) with h1 | h1
  · exact h1
  · have h2 := upn_end (a := a) (t := t) (by omega)
    have h3 := h.mono h1 hk
    omega
/-- The controller's and the clock's state, and what has left, before the step for arrival k; none: a step has failed. -/
noncomputable def rdN (a : List Int) (t i sv : Int) (k : Nat) (nw s : Int) (dr : Bool) (c n : Int) (out : List Int) : Option (Int × Int × Bool × Int × Int × List Int) :=
  if tickP (nwn nw (a[k]?.getD 0) sv) && dok t i (stepD t i s dr c n (nwn nw (a[k]?.getD 0) sv) (nwn nw (a[k]?.getD 0) sv - a[k]?.getD 0) (upn a (k + 1) (nwn nw (a[k]?.getD 0) sv))).1 (stepD t i s dr c n (nwn nw (a[k]?.getD 0) sv) (nwn nw (a[k]?.getD 0) sv - a[k]?.getD 0) (upn a (k + 1) (nwn nw (a[k]?.getD 0) sv))).2.2.1 (stepD t i s dr c n (nwn nw (a[k]?.getD 0) sv) (nwn nw (a[k]?.getD 0) sv - a[k]?.getD 0) (upn a (k + 1) (nwn nw (a[k]?.getD 0) sv))).2.2.2.1 then
    match stepD t i s dr c n (nwn nw (a[k]?.getD 0) sv) (nwn nw (a[k]?.getD 0) sv - a[k]?.getD 0) (upn a (k + 1) (nwn nw (a[k]?.getD 0) sv)) with
    | (s', dr', c', n', true) => some (nwn nw (a[k]?.getD 0) sv, s', dr', c', n', out ++ [-1 - nwn nw (a[k]?.getD 0) sv])
    | (s', dr', c', n', false) => some (nwn nw (a[k]?.getD 0) sv + sv, s', dr', c', n', out ++ [nwn nw (a[k]?.getD 0) sv])
  else none
noncomputable def rdS (a : List Int) (t i sv s : Int) (dr : Bool) (c n : Int) : Nat → Option (Int × Int × Bool × Int × Int × List Int)
  | 0 => some (0, s, dr, c, n, [])
  | k + 1 => (rdS a t i sv s dr c n k).bind fun x => rdN a t i sv k x.1 x.2.1 x.2.2.1 x.2.2.2.1 x.2.2.2.2.1 x.2.2.2.2.2
noncomputable def rdR (a : List Int) (t i s : Int) (dr : Bool) (c n sv : Int) : List Int × Bool :=
  if dok t i s c n && arrB a && decide (1 ≤ sv ∧ sv ≤ 1000) then
    match rdS a t i sv s dr c n a.length with
    | some x => (x.2.2.2.2.2, true)
    | none => ([], false)
  else ([], false)
theorem rdS_none {a : List Int} {t i sv s : Int} {dr : Bool} {c n : Int} {k : Nat} (h : rdS a t i sv s dr c n k = none) : ∀ m, k ≤ m → rdS a t i sv s dr c n m = none
  | 0, hm => by obtain rfl : k = 0 := by omega
                exact h
  | m + 1, hm => by
    rcases Nat.lt_succ_iff_lt_or_eq.1 (Nat.lt_succ_of_le hm) with h1 | rfl
    · rw [rdS, rdS_none h m (by omega)]
      rfl
    · exact h
theorem rdS_len {a : List Int} {t i sv s : Int} {dr : Bool} {c n : Int} : ∀ {k : Nat} {x}, rdS a t i sv s dr c n k = some x → x.2.2.2.2.2.length = k
  | 0, x, h => by cases h; rfl
  | k + 1, x, h => by
    rw [rdS, Option.bind_eq_some_iff] at h
    obtain ⟨y, hy, h⟩ := h
    have hl := rdS_len hy
    unfold rdN at h
    split at h
    · split at h <;> (cases h; simp [hl])
    · cases h
theorem rdR_len (a : List Int) (t i s : Int) (dr : Bool) (c n sv : Int) : (rdR a t i s dr c n sv).1.length ≤ a.length := by
  unfold rdR
  split
  · split
    · rename_i x hx; rw [rdS_len hx]; exact Nat.le_refl _
    · simp
  · simp
section
variable {a : List Int} {t i sv s0 : Int} {dr0 : Bool} {c0 n0 : Int} {k : Nat} {nw s : Int} {dr : Bool} {c n : Int} {out : List Int} {now : Int} {b : Nat}
/-- One step that fails. -/
theorem rd_fail (hS : rdS a t i sv s0 dr0 c0 n0 k = some (nw, s, dr, c, n, out)) (hnow : nwn nw (a[k]?.getD 0) sv = now) (hb : upn a (k + 1) now = b) {r : Int × Bool × Int × Int × Bool} (hr : stepD t i s dr c n now (now - a[k]?.getD 0) b = r)
    (h : (tickP now && dok t i r.1 r.2.2.1 r.2.2.2.1) = false) (hk : k < a.length) (hg : (dok t i s0 c0 n0 && arrB a && decide (1 ≤ sv ∧ sv ≤ 1000)) = true) : rdR a t i s0 dr0 c0 n0 sv = ([], false) := by
  subst hnow hb hr
  have h1 : rdS a t i sv s0 dr0 c0 n0 (k + 1) = none := by
    rw [rdS, hS]
    show rdN a t i sv k nw s dr c n out = none
    rw [rdN, h]
    rfl
  rw [rdR, if_pos hg, rdS_none h1 _ (by omega)]
/-- One step that drops. -/
theorem rd_drop (hS : rdS a t i sv s0 dr0 c0 n0 k = some (nw, s, dr, c, n, out)) (hnow : nwn nw (a[k]?.getD 0) sv = now) (hb : upn a (k + 1) now = b) {s' : Int} {dr' : Bool} {c' n' : Int} (hr : stepD t i s dr c n now (now - a[k]?.getD 0) b = (s', dr', c', n', true))
    (h1 : tickP now = true) (h2 : dok t i s' c' n' = true) : rdS a t i sv s0 dr0 c0 n0 (k + 1) = some (now, s', dr', c', n', out ++ [-1 - now]) := by
  subst hnow hb
  rw [rdS, hS]
  show rdN a t i sv k nw s dr c n out = _
  rw [rdN, hr, h1, h2]
  rfl
/-- One step that sends. -/
theorem rd_send (hS : rdS a t i sv s0 dr0 c0 n0 k = some (nw, s, dr, c, n, out)) (hnow : nwn nw (a[k]?.getD 0) sv = now) (hb : upn a (k + 1) now = b) {s' : Int} {dr' : Bool} {c' n' : Int} (hr : stepD t i s dr c n now (now - a[k]?.getD 0) b = (s', dr', c', n', false))
    (h1 : tickP now = true) (h2 : dok t i s' c' n' = true) : rdS a t i sv s0 dr0 c0 n0 (k + 1) = some (now + sv, s', dr', c', n', out ++ [now]) := by
  subst hnow hb
  rw [rdS, hS]
  show rdN a t i sv k nw s dr c n out = _
  rw [rdN, hr, h1, h2]
  rfl
theorem rd_end (hS : rdS a t i sv s0 dr0 c0 n0 a.length = some (nw, s, dr, c, n, out)) (hg : (dok t i s0 c0 n0 && arrB a && decide (1 ≤ sv ∧ sv ≤ 1000)) = true) : rdR a t i s0 dr0 c0 n0 sv = (out, true) := by
  rw [rdR, if_pos hg, hS]
end
/-- The program's next tick: the greater one of 'next' and the arrival's. -/
theorem nwn_max {next nw x sv : Int} (h : 1 ≤ sv) (hd : sv ∣ nw) (h1 : next = nw ∨ next = nw + sv ∧ nw < x) : (if next < upTo x sv then upTo x sv else next) = nwn nw x sv := by
  have hge := upTo_ge (x := x) h
  unfold nwn
  rcases h1 with rfl | ⟨rfl, h1⟩
  · by_cases h2 : next < x
    · have := upTo_hi h hd h2
      rw [if_pos h2, if_pos (by omega)]
    · have := upTo_lo h hd (show x ≤ next by omega)
      rw [if_neg h2, if_neg (by omega)]
  · have := upTo_hi h hd h1
    rw [if_pos h1]
    split <;> omega
end Go.Proofs.Ythpcangfbpoglaa
