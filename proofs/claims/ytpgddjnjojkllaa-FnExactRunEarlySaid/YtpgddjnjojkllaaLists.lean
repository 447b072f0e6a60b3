/- The contracts of DropsOf and of what looks at a list of ints: what the call returns; old memory is left as it was. -/
import Derived.Test.YtpgddjnjojkllaaInts
import Derived.Test.YtpgddjnjojkllaaEarly
namespace Go.Proofs.Ytpgddjnjojkllaa
open Go.ChangeShapes Go.WideShapes Go.ChangeAt Go.RowKit
set_option linter.unusedVariables false
def allIn (l : List Int) (a b : Int) : Bool := l.all fun x => decide (a ≤ x ∧ x ≤ b)
theorem allIn_true {l : List Int} {a b : Int} (h : ∀ j, j < l.length → a ≤ l[j]?.getD 0 ∧ l[j]?.getD 0 ≤ b) : allIn l a b = true := by
  unfold allIn
  rw [List.all_eq_true]
  intro x hx
  obtain ⟨j, hj, rfl⟩ := List.getElem_of_mem hx
  have := h j hj
  rw [List.getElem?_eq_getElem hj] at this
  simpa using this
theorem allIn_get {l : List Int} {a b : Int} (h : allIn l a b = true) {j : Nat} (hj : j < l.length) : a ≤ l[j]?.getD 0 ∧ l[j]?.getD 0 ≤ b := by
  unfold allIn at h
  rw [List.all_eq_true] at h
  have := h l[j] (List.getElem_mem hj)
  rw [List.getElem?_eq_getElem hj]
  simpa using this
theorem allIn_false {l : List Int} {a b : Int} {j : Nat} (hj : j < l.length) (h : ¬ (a ≤ l[j]?.getD 0 ∧ l[j]?.getD 0 ≤ b)) : allIn l a b = false := by
  rcases hx : allIn l a b with _ | _
  · rfl
  · exact (h (allIn_get hx hj)).elim
theorem all_succ {l : List Int} {a b : Int} {k : Nat} (h : ∀ j, j < k → a ≤ l[j]?.getD 0 ∧ l[j]?.getD 0 ≤ b) (hk : a ≤ l[k]?.getD 0 ∧ l[k]?.getD 0 ≤ b) : ∀ j, j < k + 1 → a ≤ l[j]?.getD 0 ∧ l[j]?.getD 0 ≤ b := fun j hj => by
  rcases Nat.lt_succ_iff_lt_or_eq.1 hj with h' | rfl
  · exact h j h'
  · exact hk
theorem l1All_any (A : Option Addr) (n cap : Nat) (l : List Int) (a b : Int) (w : World) (hl : l.length = n) (hr : IRow w A l) (hn : n ≤ 9223372036854775807) :
    Calls Try.prog 52 #[.slice A n cap, .int .i64 a, .int .i64 b] w fun e w' => e = .returned (.bool (allIn l a b)) ∧ w = w' := by
  have HL := Lib.hid hl
  have HR := Lib.hid hr
  clear hl hr
  go_enter Try.func52, Try.ntmps52
  go_wp2_with fail
  go_loop [11] (fun i => ∃ k : Nat, k ≤ n ∧ i = .int .i64 k ∧ ∀ j, j < k → a ≤ l[j]?.getD 0 ∧ l[j]?.getD 0 ≤ b) (fun i => n - (intOf i).toNat)
  case atStart => exact ⟨0, Nat.zero_le _, rfl, fun j hj => by omega⟩
  case round =>
    obtain ⟨k, hk, rfl, hall⟩ := hrel
    have HA := Lib.hid hall
    clear hall
    by_cases hlt : k < n
    · obtain ⟨g, off, rfl, hg, hc⟩ := HR.out.at_ (k := k) (by rw [HL.out]; exact hlt)
      have hck := hc k (by rw [HL.out]; exact hlt)
      clear hc
      by_cases hin : a ≤ l[k]?.getD 0 ∧ l[k]?.getD 0 ≤ b
      · go_wp2_with (go_at_call 43; refine (l1In_any _ _ _ _).mono ?_; rintro e w' ⟨rfl, rfl⟩)
        go_round
        case rel => exact ⟨k + 1, by omega, by go_num, all_succ HA.out hin⟩
        case measure => simp [intOf]; omega
      · have hR := Lib.hid (allIn_false (by rw [HL.out]; exact hlt) hin)
        have hd : decide (a ≤ l[k]?.getD 0 ∧ l[k]?.getD 0 ≤ b) = false := by simpa using hin
        go_wp2_with (go_at_call 43; refine (l1In_any _ _ _ _).mono ?_; rw [hd]; rintro e w' ⟨rfl, rfl⟩)
        go_ret
        exact ⟨by rw [hR.out]; rfl, rfl⟩
    · obtain rfl : k = n := by omega
      have hR := Lib.hid (allIn_true (l := l) (a := a) (b := b) (by rw [HL.out]; exact HA.out))
      go_wp2_with fail
      go_ret
      exact ⟨by rw [hR.out]; rfl, rfl⟩
/-- At most 60 lengths, each from 0 to 60. -/
def lenOk (l : List Int) : Bool := decide (l.length ≤ 60) && allIn l 0 60
theorem rdLengths_any (A : Option Addr) (n cap : Nat) (l : List Int) (w : World) (hl : l.length = n) (hr : IRow w A l) (hn : n ≤ 9223372036854775807) :
    Calls Try.prog 63 #[.slice A n cap] w fun e w' => e = .returned (.bool (lenOk l)) ∧ w = w' := by
  by_cases h : n ≤ 60
  · have hR := Lib.hid (show lenOk l = allIn l 0 60 by simp [lenOk, hl, h])
    have HL := Lib.hid hl
    have HR := Lib.hid hr
    clear hl hr
    go_enter Try.func63, Try.ntmps63
    go_wp2_with (go_at_call 52; refine (l1All_any _ _ _ l _ _ _ HL.out HR.out (by omega)).mono ?_; rintro e w' ⟨rfl, rfl⟩)
    go_ret
    exact ⟨by rw [hR.out]; rfl, rfl⟩
  · have hR := Lib.hid (show lenOk l = false by simp [lenOk, hl, h])
    clear hl hr
    go_enter Try.func63, Try.ntmps63
    go_wp2_with fail
    go_ret
    exact ⟨by rw [hR.out]; rfl, rfl⟩
theorem areLengths_any (A : Option Addr) (n cap : Nat) (l : List Int) (w : World) (hl : l.length = n) (hr : IRow w A l) (hn : n ≤ 9223372036854775807) :
    Calls Try.prog 64 #[.slice A n cap] w fun e w' => e = .returned (.bool (lenOk l)) ∧ w = w' := by
  have HL := Lib.hid hl
  have HR := Lib.hid hr
  clear hl hr
  go_enter Try.func64, Try.ntmps64
  go_wp2_with fail
  go_loop [7] (fun i => ∃ k : Nat, k ≤ n ∧ i = .int .i64 k ∧ ∀ j, j < k → 0 ≤ l[j]?.getD 0 ∧ l[j]?.getD 0 ≤ 60) (fun i => n - (intOf i).toNat)
  case atStart => exact ⟨0, Nat.zero_le _, rfl, fun j hj => by omega⟩
  case round =>
    obtain ⟨k, hk, rfl, hall⟩ := hrel
    have HA := Lib.hid hall
    clear hall
    by_cases hlt : k < n
    · obtain ⟨g, off, rfl, hg, hc⟩ := HR.out.at_ (k := k) (by rw [HL.out]; exact hlt)
      have hck := hc k (by rw [HL.out]; exact hlt)
      clear hc
      by_cases hin : 0 ≤ l[k]?.getD 0 ∧ l[k]?.getD 0 ≤ 60
      · have hd : isLe (l[k]?.getD 0) = true := by simpa [isLe] using hin
        go_wp2_with (go_at_call 46; refine (isLength_any _ _).mono ?_; rintro e w' ⟨rfl, rfl⟩)
        go_round
        case rel => exact ⟨k + 1, by omega, by go_num, all_succ HA.out hin⟩
        case measure => simp [intOf]; omega
      · have hR := Lib.hid (show lenOk l = false by rw [lenOk, allIn_false (by rw [HL.out]; exact hlt) hin, Bool.and_false])
        have hd : isLe (l[k]?.getD 0) = false := by simpa [isLe] using hin
        go_wp2_with (go_at_call 46; refine (isLength_any _ _).mono ?_; rintro e w' ⟨rfl, rfl⟩)
        go_ret
        exact ⟨by rw [hR.out]; rfl, rfl⟩
    · obtain rfl : k = n := by omega
      have hR := Lib.hid (show lenOk l = decide ((k : Int) ≤ 60) by rw [lenOk, allIn_true (l := l) (a := 0) (b := 60) (by rw [HL.out]; exact HA.out), Bool.and_true, HL.out]; exact decide_eq_decide.2 (by omega))
      go_wp2_with fail
      go_ret
      exact ⟨by rw [hR.out]; rfl, rfl⟩

/-! ### DropsOf -/
def cnt (l : List Int) (v : Int) : Int := (l.count v : Nat)
theorem cnt_nonneg (l : List Int) (v : Int) : 0 ≤ cnt l v ∧ cnt l v ≤ l.length := by
  unfold cnt
  have := List.count_le_length (a := v) (l := l)
  omega
theorem cnt_succ {l : List Int} {k : Nat} (h : k < l.length) (v : Int) : cnt (l.take (k + 1)) v = cnt (l.take k) v + if l[k]?.getD 0 = v then 1 else 0 := by
  unfold cnt
  rw [List.take_succ_eq_append_getElem h, List.count_append, List.getElem?_eq_getElem h]
  simp only [List.count_cons, List.count_nil, Option.getD_some, beq_iff_eq]
  split <;> simp
def doR (l : List Int) : Int × Int × Bool := if decide (l.length ≤ 60) && allIn l 0 2 then (cnt l 1, cnt l 2, true) else (0, 0, false)
def cells3 (l : List Int) (k : Nat) : List Int := [cnt (l.take k) 0, cnt (l.take k) 1, cnt (l.take k) 2]
theorem specDropsOf_any (A : Option Addr) (n cap : Nat) (l : List Int) (w : World) (hl : l.length = n) (hr : IRow w A l) (hn : n ≤ 9223372036854775807) :
    Calls Try.prog 21 #[.slice A n cap] w fun e w' => e = .returned (.tuple #[.int .i64 (doR l).1, .int .i64 (doR l).2.1, .bool (doR l).2.2]) ∧ Below w.heap.size w w' := by
  have HL := Lib.hid hl
  have HR := Lib.hid hr
  by_cases h1 : n ≤ 60
  rotate_left
  · have hR := Lib.hid (show doR l = (0, 0, false) by simp [doR, hl, h1])
    clear hl hr
    go_enter Try.func21, Try.ntmps21
    go_wp2_with fail
    go_ret3
    exact ⟨by rw [hR.out]; rfl, (by repeat (first | (with_reducible exact b0 _) | (with_reducible refine ba ?_ _) | (with_reducible refine bd ?_ _) | (with_reducible refine Below.drew ?_) | (with_reducible refine bs ?_ (by first | exact Nat.le_refl _ | exact Nat.le_add_right _ _ | omega) _) | (with_reducible refine bt ?_ (by assumption))))⟩
  rcases h2 : allIn l 0 2 with _ | _
  · have hR := Lib.hid (show doR l = (0, 0, false) by simp [doR, h2])
    clear hl hr
    go_enter Try.func21, Try.ntmps21
    go_wp2_with (go_at_call 52; refine (l1All_any _ _ _ l _ _ _ HL.out HR.out (by omega)).mono ?_; rintro e w' ⟨rfl, rfl⟩)
    go_ret3
    exact ⟨by rw [hR.out]; rfl, (by repeat (first | (with_reducible exact b0 _) | (with_reducible refine ba ?_ _) | (with_reducible refine bd ?_ _) | (with_reducible refine Below.drew ?_) | (with_reducible refine bs ?_ (by first | exact Nat.le_refl _ | exact Nat.le_add_right _ _ | omega) _) | (with_reducible refine bt ?_ (by assumption))))⟩
  have hR := Lib.hid (show doR l = (cnt l 1, cnt l 2, true) by simp [doR, hl, h1, h2])
  have H2 := Lib.hid h2
  clear hl hr
  obtain ⟨w1, hmk, ho, hb⟩ := make_ints 3 (by omega) w
  have hmk3 : (Instr.makeSlice 33 (.int .i64 3) (.int .i64 3)).run Try.prog w = .ok (.slice (some ⟨w.heap.size, 0, none⟩) 3 3) w1 := hmk
  have HO := Lib.hid ho
  clear ho hmk
  go_enter Try.func21, Try.ntmps21
  go_wp2_with (go_at_call 52; refine (l1All_any _ _ _ l _ _ _ HL.out HR.out (by omega)).mono ?_; rintro e w' ⟨rfl, rfl⟩)
  clear hmk3
  go_loopw [19] (fun i wr => ∃ k : Nat, k ≤ n ∧ i = .int .i64 k ∧ IOwn wr w.heap.size w1.heap.size 3 1 (some ⟨w.heap.size, 0, none⟩) 3 3 (cells3 l k) ∧ Below w.heap.size w wr) (fun i _ => n - (intOf i).toNat)
  case atStart => exact ⟨0, Nat.zero_le _, rfl, HO.out, hb⟩
  case round =>
    obtain ⟨k, hk, rfl, hown, hbw⟩ := hrel
    obtain ⟨g', hg', _, hg2, hg3, hc2, hf2⟩ := hown.at_ (k := 0) (by simp [cells3])
    injection hg' with hg'
    injection hg' with hg'
    subst hg'
    have q0 : wr.cell? ⟨w.heap.size, 0, none⟩ = some (.int .i64 (cnt (l.take k) 0)) := hc2 0 (by simp [cells3])
    have q1 : wr.cell? ⟨w.heap.size, 1, none⟩ = some (.int .i64 (cnt (l.take k) 1)) := hc2 1 (by simp [cells3])
    have q2 : wr.cell? ⟨w.heap.size, 2, none⟩ = some (.int .i64 (cnt (l.take k) 2)) := hc2 2 (by simp [cells3])
    have f0 := hf2 0
    have f1 := hf2 1
    have f2 := hf2 2
    clear hc2 hf2
    have HOW := Lib.hid hown
    clear hown
    have b0' := cnt_nonneg (l.take k) 0
    have b1' := cnt_nonneg (l.take k) 1
    have b2' := cnt_nonneg (l.take k) 2
    have hlk : (l.take k).length ≤ 60 := by have := HL.out; simp; omega
    by_cases hlt : k < n
    · obtain ⟨g, off, rfl, hg, hc⟩ := (HR.out.below hbw).at_ (k := k) (by rw [HL.out]; exact hlt)
      have hck := hc k (by rw [HL.out]; exact hlt)
      clear hc
      have hin := allIn_get H2.out (j := k) (by rw [HL.out]; exact hlt)
      have hs0 := cnt_succ (l := l) (k := k) (by rw [HL.out]; exact hlt) 0
      have hs1 := cnt_succ (l := l) (k := k) (by rw [HL.out]; exact hlt) 1
      have hs2 := cnt_succ (l := l) (k := k) (by rw [HL.out]; exact hlt) 2
      have HC := Lib.hid (show cells3 l (k + 1) = [cnt (l.take k) 0 + (if l[k]?.getD 0 = 0 then 1 else 0), cnt (l.take k) 1 + (if l[k]?.getD 0 = 1 then 1 else 0), cnt (l.take k) 2 + (if l[k]?.getD 0 = 2 then 1 else 0)] by rw [cells3, hs0, hs1, hs2])
      clear hs0 hs1 hs2
      generalize hx : l[k]?.getD 0 = x at *
      clear hx
      obtain rfl | rfl | rfl : x = 0 ∨ x = 1 ∨ x = 2 := by omega
      all_goals
        go_wp2_with fail
        go_roundw
        case rel => exact ⟨k + 1, by omega, by go_num, by rw [HC.out]; simp; exact HOW.out.set_ _ _, bs hbw (Nat.le_refl _) _⟩
        case measure => simp [intOf]; omega
    · obtain rfl : k = n := by omega
      have e : l.take k = l := List.take_of_length_le (by rw [HL.out]; exact Nat.le_refl _)
      rw [e] at q0 q1 q2
      go_wp2_with fail
      go_quiet (fail)
      go_wp2_with fail
      go_ret3
      exact ⟨by rw [hR.out]; rfl, bd hbw _⟩
theorem implDropsOf_any (A : Option Addr) (n cap : Nat) (l : List Int) (w : World) (hl : l.length = n) (hr : IRow w A l) (hn : n ≤ 9223372036854775807) :
    Calls Try.prog 23 #[.slice A n cap] w fun e w' => e = .returned (.tuple #[.int .i64 (doR l).1, .int .i64 (doR l).2.1, .bool (doR l).2.2]) ∧ Below w.heap.size w w' := by
  have HL := Lib.hid hl
  have HR := Lib.hid hr
  by_cases h1 : n ≤ 60
  rotate_left
  · have hR := Lib.hid (show doR l = (0, 0, false) by simp [doR, hl, h1])
    clear hl hr
    go_enter Try.func23, Try.ntmps23
    go_wp2_with fail
    go_ret3
    exact ⟨by rw [hR.out]; rfl, (by repeat (first | (with_reducible exact b0 _) | (with_reducible refine ba ?_ _) | (with_reducible refine bd ?_ _) | (with_reducible refine Below.drew ?_) | (with_reducible refine bs ?_ (by first | exact Nat.le_refl _ | exact Nat.le_add_right _ _ | omega) _) | (with_reducible refine bt ?_ (by assumption))))⟩
  clear hl hr
  go_enter Try.func23, Try.ntmps23
  go_wp2_with fail
  go_loopw [14] (fun i wr => ∃ k : Nat, k ≤ n ∧ i = .int .i64 k ∧ (∀ j, j < k → 0 ≤ l[j]?.getD 0 ∧ l[j]?.getD 0 ≤ 2) ∧ wr = w.alloc (.cells #[.int .i64 (cnt (l.take k) 0), .int .i64 (cnt (l.take k) 1), .int .i64 (cnt (l.take k) 2)] 58)) (fun i _ => n - (intOf i).toNat)
  case atStart => exact ⟨0, Nat.zero_le _, rfl, fun j hj => by omega, rfl⟩
  case round =>
    obtain ⟨k, hk, rfl, hall, rfl⟩ := hrel
    have HA := Lib.hid hall
    clear hall
    have b0' := cnt_nonneg (l.take k) 0
    have b1' := cnt_nonneg (l.take k) 1
    have b2' := cnt_nonneg (l.take k) 2
    have hlk : (l.take k).length ≤ 60 := by have := HL.out; simp; omega
    by_cases hlt : k < n
    · obtain ⟨g, off, rfl, hg, hc⟩ := HR.out.at_ (k := k) (by rw [HL.out]; exact hlt)
      have hck := hc k (by rw [HL.out]; exact hlt)
      clear hc
      by_cases hin : 0 ≤ l[k]?.getD 0 ∧ l[k]?.getD 0 ≤ 2
      · have hs0 := cnt_succ (l := l) (k := k) (by rw [HL.out]; exact hlt) 0
        have hs1 := cnt_succ (l := l) (k := k) (by rw [HL.out]; exact hlt) 1
        have hs2 := cnt_succ (l := l) (k := k) (by rw [HL.out]; exact hlt) 2
        have HS := Lib.hid (all_succ HA.out hin)
        have H0 := Lib.hid hs0
        have H1 := Lib.hid hs1
        have H2 := Lib.hid hs2
        clear hs0 hs1 hs2 HA
        have HX : Hid (∃ x, l[k]?.getD 0 = x) := ⟨_, rfl⟩
        generalize hx : l[k]?.getD 0 = x at hck hin H0 H1 H2
        clear hx
        obtain rfl | rfl | rfl : x = 0 ∨ x = 1 ∨ x = 2 := by omega
        all_goals
          go_wp2_with fail
          go_roundw
          case rel => exact ⟨k + 1, by omega, by go_num, HS.out, by rw [H0.out, H1.out, H2.out]; simp⟩
          case measure => simp [intOf]; omega
      · have hR := Lib.hid (show doR l = (0, 0, false) by rw [doR, allIn_false (by rw [HL.out]; exact hlt) hin, Bool.and_false]; rfl)
        by_cases hneg : l[k]?.getD 0 < 0
        · go_wp2_with fail
          go_ret3
          exact ⟨by rw [hR.out]; rfl, (by repeat (first | (with_reducible exact b0 _) | (with_reducible refine ba ?_ _) | (with_reducible refine bd ?_ _) | (with_reducible refine Below.drew ?_) | (with_reducible refine bs ?_ (by first | exact Nat.le_refl _ | exact Nat.le_add_right _ _ | omega) _) | (with_reducible refine bt ?_ (by assumption))))⟩
        · have hbig : 2 < l[k]?.getD 0 := by omega
          go_wp2_with fail
          go_ret3
          exact ⟨by rw [hR.out]; rfl, (by repeat (first | (with_reducible exact b0 _) | (with_reducible refine ba ?_ _) | (with_reducible refine bd ?_ _) | (with_reducible refine Below.drew ?_) | (with_reducible refine bs ?_ (by first | exact Nat.le_refl _ | exact Nat.le_add_right _ _ | omega) _) | (with_reducible refine bt ?_ (by assumption))))⟩
    · obtain rfl : k = n := by omega
      have hR := Lib.hid (show doR l = (cnt (l.take k) 1, cnt (l.take k) 2, true) by
        rw [List.take_of_length_le (by rw [HL.out]; exact Nat.le_refl _), doR, allIn_true (by rw [HL.out]; exact HA.out), HL.out]
        simp [h1])
      go_wp2_with fail
      go_quiet (fail)
      go_wp2_with fail
      go_ret3
      exact ⟨by rw [hR.out]; rfl, (by repeat (first | (with_reducible exact b0 _) | (with_reducible refine ba ?_ _) | (with_reducible refine bd ?_ _) | (with_reducible refine Below.drew ?_) | (with_reducible refine bs ?_ (by first | exact Nat.le_refl _ | exact Nat.le_add_right _ _ | omega) _) | (with_reducible refine bt ?_ (by assumption))))⟩
end Go.Proofs.Ytpgddjnjojkllaa
