/- The contracts of LeastCap. -/
import Derived.Test.YtleknfigikpacaaConf
namespace Go.Proofs.Ytleknfigikpacaa
open Go.ChangeShapes Go.WideShapes Go.ChangeAt Go.RowKit
set_option linter.unusedVariables false
def most (a b : Int) : Int := if b < a then a else b
theorem l1Most_any (a b : Int) (w : World) : Calls Try.prog 61 #[.int .i64 a, .int .i64 b] w fun e w' => e = .returned (.int .i64 (most a b)) ∧ w = w' := by
  by_cases h : b < a
  · have hR := Lib.hid (show most a b = a by simp [most, h])
    go_enter Try.func61, Try.ntmps61
    go_wp2
    go_ret
    exact ⟨by rw [hR.out]; rfl, rfl⟩
  · have hR := Lib.hid (show most a b = b by simp [most, h])
    go_enter Try.func61, Try.ntmps61
    go_wp2
    go_ret
    exact ⟨by rw [hR.out]; rfl, rfl⟩
noncomputable def lcok (r : Int) (l : List Int) (n : Nat) : Bool := decide (0 ≤ r ∧ r ≤ 100000) && sesB l n
noncomputable def lcR (r : Int) (l : List Int) (n : Nat) : Int := if lcok r l n then most 0 (outS l r n n).m else 0
set_option maxHeartbeats 1000000 in
theorem specLeastCap_any (r : Int) (A : Option Addr) (n cap : Nat) (l : List Int) (w : World) (hl : l.length = n * 2) (hr : IRow w A l) (hn : n ≤ 1099511627776) :
    Calls Try.prog 35 #[.int .i64 r, .slice A n cap] w fun e w' => e = .returned (.tuple #[.int .i64 (lcR r l n), .bool (lcok r l n)]) ∧ Below w.heap.size w w' := by
  have HL := Lib.hid hl
  have HR := Lib.hid hr
  clear hl hr
  rcases hr0 : decide (0 ≤ r ∧ r ≤ 100000) with _ | _
  · have hR := Lib.hid (show lcok r l n = false by simp only [lcok, hr0, Bool.false_and])
    have hR2 := Lib.hid (show lcR r l n = 0 by simp [lcR, hR.out])
    go_enter Try.func35, Try.ntmps35
    go_wp2_with (go_at_call 55; refine (buRate_any _ _).mono ?_; rw [hr0]; rintro e w' ⟨rfl, rfl⟩)
    go_ret2
    exact ⟨by rw [hR.out, hR2.out]; rfl, (by repeat (first | (with_reducible exact b0 _) | (with_reducible refine ba ?_ _) | (with_reducible refine bd ?_ _) | (with_reducible refine Below.drew ?_) | (with_reducible refine bs ?_ (by first | exact Nat.le_refl _ | exact Nat.le_add_right _ _ | omega) _) | (with_reducible refine bt ?_ (by assumption))))⟩
  rcases hs0 : sesB l n with _ | _
  · have hR := Lib.hid (show lcok r l n = false by simp only [lcok, hs0, Bool.and_false])
    have hR2 := Lib.hid (show lcR r l n = 0 by simp [lcR, hR.out])
    go_enter Try.func35, Try.ntmps35
    go_wp2_with (first | (go_at_call 55; refine (buRate_any _ _).mono ?_; rw [hr0]; rintro e w' ⟨rfl, rfl⟩) | (go_at_call 56; refine (buSends_any _ _ _ _ _ HL.out HR.out hn).mono ?_; rw [hs0]; rintro e w1 ⟨rfl, hg1⟩))
    go_ret2
    exact ⟨by rw [hR.out, hR2.out]; rfl, (by repeat (first | (with_reducible exact b0 _) | (with_reducible refine ba ?_ _) | (with_reducible refine bd ?_ _) | (with_reducible refine Below.drew ?_) | (with_reducible refine bs ?_ (by first | exact Nat.le_refl _ | exact Nat.le_add_right _ _ | omega) _) | (with_reducible refine bt ?_ (by assumption))))⟩
  · have hR := Lib.hid (show lcok r l n = true by simp only [lcok, hr0, hs0, Bool.and_true])
    have hR2 := Lib.hid (show lcR r l n = most 0 (outS l r n n).m by simp [lcR, hR.out])
    have hx := Lib.hid (sesB_iff.1 hs0)
    have hy := Lib.hid (of_decide_eq_true hr0)
    go_enter Try.func35, Try.ntmps35
    go_wp2_with (first | (go_at_call 55; refine (buRate_any _ _).mono ?_; rw [hr0]; rintro e w' ⟨rfl, rfl⟩) | (go_at_call 56; refine (buSends_any _ _ _ _ _ HL.out HR.out hn).mono ?_; rw [hs0]; rintro e w1 ⟨rfl, hg1⟩) | (go_at_call 57; refine (buWorst_any _ _ _ _ _ _ HL.out (HR.out.below hg1) hx.out.1 hy.out.1 hy.out.2 hx.out.2).mono ?_; rintro e w2 ⟨rfl, hg2⟩) | (go_at_call 61; refine (l1Most_any _ _ _).mono ?_; rintro e w' ⟨rfl, rfl⟩))
    go_ret2
    exact ⟨by rw [hR.out, hR2.out]; rfl, bt hg1 hg2⟩
theorem capAt_any (r m : Int) (B0 B1 : Nat) (A : Option Addr) (n cap : Nat) (l : List Int) (w : World) (hc0 : w.cell? ⟨B0, 0, none⟩ = some (.int .i64 r)) (hc1 : w.cell? ⟨B1, 0, none⟩ = some (.slice A n cap))
    (hl : l.length = n * 2) (hr : IRow w A l) (hn : n ≤ 60) (hs : Ses l n) (h1 : 0 ≤ r) (h2 : r ≤ 100000) (h3 : 0 ≤ m) (h5 : m ≤ 1000000) {b : Bool} (hb : decide ((outS l r n n).m ≤ m) = b) :
    Calls Try.prog 63 #[.int .i64 m, .pointer (some ⟨B0, 0, none⟩), .pointer (some ⟨B1, 0, none⟩)] w fun e w' => e = .returned (.bool b) ∧ Below w.heap.size w w' := by
  have hR := Lib.hid (show conf r m m l n = b by
    rw [← hb, Bool.eq_iff_iff, conf_iff hs hn h1 h2 h3]
    exact decide_eq_true_iff.symm)
  have HL := Lib.hid hl
  have HR := Lib.hid hr
  have HS := Lib.hid hs
  clear hl hr hs hb
  go_enter Try.func63, Try.ntmps63
  go_wp2_with fail
  refine (runSendsAll_any _ _ _ _ _ _ l _ HL.out HR.out hn HS.out h1 h2 h3 (Int.le_refl _) h5).mono ?_
  rw [hR.out]
  rintro e w1 ⟨rfl, hg⟩
  go_wp2_with fail
  go_ret
  exact ⟨rfl, hg⟩
set_option maxHeartbeats 1000000 in
theorem firstTime_any (r : Int) (B0 B1 : Nat) (A : Option Addr) (n cap : Nat) (l : List Int) (w : World) (hc0 : w.cell? ⟨B0, 0, none⟩ = some (.int .i64 r)) (hc1 : w.cell? ⟨B1, 0, none⟩ = some (.slice A n cap))
    (hl : l.length = n * 2) (hr : IRow w A l) (hn : n ≤ 60) (hs : Ses l n) (h1 : 0 ≤ r) (h2 : r ≤ 100000) :
    Calls Try.prog 62 #[.int .i64 0, .int .i64 90000, .func (.func 63) #[] #[.pointer (some ⟨B0, 0, none⟩), .pointer (some ⟨B1, 0, none⟩)]] w fun e w' => e = .returned (.int .i64 (most 0 (outS l r n n).m)) ∧ Below w.heap.size w w' := by
  have hM : (outS l r n n).m ≤ 90000 := (Wi.outS hs hn h1 h2 n (Nat.le_refl _)).hi
  have HC := Lib.hid (fun (W : World) (hb : Below w.heap.size w W) (m : Int) (h3 : 0 ≤ m) (h5 : m ≤ 1000000) (b : Bool) (hq : decide ((outS l r n n).m ≤ m) = b) => capAt_any r m B0 B1 A n cap l W ((hb.cell (p := ⟨B0, 0, none⟩) (World.block_lt_of_cell? w _ hc0)).trans hc0) ((hb.cell (p := ⟨B1, 0, none⟩) (World.block_lt_of_cell? w _ hc1)).trans hc1) hl (hr.below hb) hn hs h1 h2 h3 h5 hq)
  clear hc0 hc1 hl hr hs
  generalize (outS l r n n).m = M at *
  go_enter Try.func62, Try.ntmps62
  go_wp2_with fail
  go_loopw [0, 1] (fun a b wr => ∃ lo hi : Int, a = .int .i64 lo ∧ b = .int .i64 hi ∧ 0 ≤ lo ∧ lo ≤ hi + 1 ∧ hi ≤ 90000 ∧ (lo = 0 ∨ lo - 1 < M) ∧ (hi = 90000 ∨ M ≤ hi + 1) ∧ Below w.heap.size w wr) (fun a b _ => (intOf b - intOf a + 1).toNat)
  case atStart => exact ⟨0, 90000, rfl, rfl, by omega, by omega, by omega, .inl rfl, .inl rfl, b0 _⟩
  case round =>
    obtain ⟨lo, hi, rfl, rfl, h3, h4, h5, h6, h7, hbw⟩ := hrel
    have H6 := Lib.hid h6
    have H7 := Lib.hid h7
    clear h6 h7
    by_cases hlt : lo ≤ hi
    · have hm1 : lo ≤ (lo + hi) / 2 := by omega
      have hm2 : (lo + hi) / 2 ≤ hi := by omega
      rcases hd : decide (M ≤ (lo + hi) / 2) with _ | _
      · have hd' : ¬ M ≤ (lo + hi) / 2 := of_decide_eq_false hd
        go_wp2_with fail
        refine (HC.out _ hbw _ (by omega) (by omega) _ hd).mono ?_
        rintro e w1 ⟨rfl, hg⟩
        go_wp2_with fail
        go_roundw
        case rel => exact ⟨(lo + hi) / 2 + 1, hi, rfl, rfl, by omega, by omega, h5, .inr (by omega), H7.out, bt hbw hg⟩
        case measure => simp [intOf]; omega
      · have hd' : M ≤ (lo + hi) / 2 := of_decide_eq_true hd
        go_wp2_with fail
        refine (HC.out _ hbw _ (by omega) (by omega) _ hd).mono ?_
        rintro e w1 ⟨rfl, hg⟩
        go_wp2_with fail
        go_roundw
        case rel => exact ⟨lo, (lo + hi) / 2 - 1, rfl, rfl, h3, by omega, by omega, H6.out, .inr (by omega), bt hbw hg⟩
        case measure => simp [intOf]; omega
    · have hR := Lib.hid (show most 0 M = lo by have h6 := H6.out; have h7 := H7.out; unfold most; split <;> omega)
      go_wp2_with fail
      go_ret
      exact ⟨ret_i hR.out.symm, hbw⟩
set_option maxHeartbeats 1000000 in
theorem implLeastCap_any (r : Int) (A : Option Addr) (n cap : Nat) (l : List Int) (w : World) (hl : l.length = n * 2) (hr : IRow w A l) (hn : n ≤ 1099511627776) :
    Calls Try.prog 36 #[.int .i64 r, .slice A n cap] w fun e w' => e = .returned (.tuple #[.int .i64 (lcR r l n), .bool (lcok r l n)]) ∧ Below w.heap.size w w' := by
  have HL := Lib.hid hl
  have HR := Lib.hid (fun (o p : Obj) => hr.below (ba (ba (b0 w) o) p))
  clear hl hr
  rcases hr0 : decide (0 ≤ r ∧ r ≤ 100000) with _ | _
  · have hR := Lib.hid (show lcok r l n = false by simp only [lcok, hr0, Bool.false_and])
    have hR2 := Lib.hid (show lcR r l n = 0 by simp [lcR, hR.out])
    go_enter Try.func36, Try.ntmps36
    go_wp2_with (go_at_call 46; refine (isFlowRate_any _ _).mono ?_; rw [hr0]; rintro e w' ⟨rfl, rfl⟩)
    go_ret2
    exact ⟨by rw [hR.out, hR2.out]; rfl, (by repeat (first | (with_reducible exact b0 _) | (with_reducible refine ba ?_ _) | (with_reducible refine bd ?_ _) | (with_reducible refine Below.drew ?_) | (with_reducible refine bs ?_ (by first | exact Nat.le_refl _ | exact Nat.le_add_right _ _ | omega) _) | (with_reducible refine bt ?_ (by assumption))))⟩
  rcases hs0 : sesB l n with _ | _
  · have hR := Lib.hid (show lcok r l n = false by simp only [lcok, hs0, Bool.and_false])
    have hR2 := Lib.hid (show lcR r l n = 0 by simp [lcR, hR.out])
    go_enter Try.func36, Try.ntmps36
    go_wp2_with (first | (go_at_call 46; refine (isFlowRate_any _ _).mono ?_; rw [hr0]; rintro e w' ⟨rfl, rfl⟩) | (go_at_call 59; refine (areSends_any _ _ _ _ _ HL.out (HR.out _ _) hn).mono ?_; rw [hs0]; rintro e w1 ⟨rfl, hg1⟩; have zhg1 := hg1.size; (try simp at zhg1); have c0hg1 := fun o => bkeep hg1 (w.heap.size) o (by first | omega | (simp; done) | (simp; omega)); have f0hg1 := fun o => bfree hg1 (w.heap.size) o (by first | omega | (simp; done) | (simp; omega)); have c1hg1 := fun o => bkeep hg1 (w.heap.size + 1) o (by first | omega | (simp; done) | (simp; omega)); have f1hg1 := fun o => bfree hg1 (w.heap.size + 1) o (by first | omega | (simp; done) | (simp; omega))))
    go_ret2
    exact ⟨by rw [hR.out, hR2.out]; rfl, (by repeat (first | (with_reducible exact b0 _) | (with_reducible refine ba ?_ _) | (with_reducible refine bd ?_ _) | (with_reducible refine Below.drew ?_) | (with_reducible refine bs ?_ (by first | exact Nat.le_refl _ | exact Nat.le_add_right _ _ | omega) _) | (with_reducible refine bt ?_ (by assumption))))⟩
  · have hR := Lib.hid (show lcok r l n = true by simp only [lcok, hr0, hs0, Bool.and_true])
    have hR2 := Lib.hid (show lcR r l n = most 0 (outS l r n n).m by simp [lcR, hR.out])
    have hx := Lib.hid (sesB_iff.1 hs0)
    have hy := Lib.hid (of_decide_eq_true hr0)
    go_enter Try.func36, Try.ntmps36
    go_wp2_with (first | (go_at_call 46; refine (isFlowRate_any _ _).mono ?_; rw [hr0]; rintro e w' ⟨rfl, rfl⟩) | (go_at_call 59; refine (areSends_any _ _ _ _ _ HL.out (HR.out _ _) hn).mono ?_; rw [hs0]; rintro e w1 ⟨rfl, hg1⟩; have zhg1 := hg1.size; (try simp at zhg1); have c0hg1 := fun o => bkeep hg1 (w.heap.size) o (by first | omega | (simp; done) | (simp; omega)); have f0hg1 := fun o => bfree hg1 (w.heap.size) o (by first | omega | (simp; done) | (simp; omega)); have c1hg1 := fun o => bkeep hg1 (w.heap.size + 1) o (by first | omega | (simp; done) | (simp; omega)); have f1hg1 := fun o => bfree hg1 (w.heap.size + 1) o (by first | omega | (simp; done) | (simp; omega))))
    refine (firstTime_any r _ _ A n cap l _ (by rw [c0hg1]; simp) (by rw [c1hg1]; simp) HL.out ((HR.out _ _).below hg1) hx.out.1 hx.out.2 hy.out.1 hy.out.2).mono ?_
    rintro e w2 ⟨rfl, hg2⟩
    go_wp2_with fail
    go_ret2
    exact ⟨by rw [hR.out, hR2.out]; rfl, (by repeat (first | (with_reducible exact b0 _) | (with_reducible refine ba ?_ _) | (with_reducible refine bd ?_ _) | (with_reducible refine Below.drew ?_) | (with_reducible refine bs ?_ (by first | exact Nat.le_refl _ | exact Nat.le_add_right _ _ | omega) _) | (with_reducible refine bt ?_ (by assumption))))⟩
end Go.Proofs.Ytleknfigikpacaa
