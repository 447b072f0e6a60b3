/- The contracts of what says whether a list are sends. -/
import Derived.Test.YtleknfigikpacaaBucket
import Derived.Test.YtleknfigikpacaaFill
import Derived.Test.YtleknfigikpacaaRowsSend
namespace Go.Proofs.Ytleknfigikpacaa
open Go.ChangeShapes Go.WideShapes Go.ChangeAt Go.RowKit
set_option linter.unusedVariables false
theorem quiet_flip {P : Program} {f : FuncId} {args : Array Value} {w : World} {n : Nat} {v : Value} (h : Calls P f args (w.drewN n) fun e w' => e = .returned v ∧ w.drewN n = w') : Calls P f args (w.drewN n) fun e w'' => e = .returned v ∧ ∃ m, w'' = w.drewN m :=
  h.mono (by rintro e w'' ⟨rfl, rfl⟩; exact ⟨rfl, n, rfl⟩)
def seB (l : List Int) (k : Nat) : Bool := sok (l[k * 2 + 1]?.getD 0) && tok (l[k * 2]?.getD 0)
/-- The tick of the send ahead of send k, or 0. -/
def lastT (l : List Int) : Nat → Int
  | 0 => 0
  | k + 1 => l[k * 2]?.getD 0
def Ses (l : List Int) (k : Nat) : Prop := ∀ i, i < k → seB l i = true ∧ lastT l i ≤ l[i * 2]?.getD 0
open Classical in
noncomputable def sesB (l : List Int) (n : Nat) : Bool := decide (n ≤ 60) && decide (Ses l n)
theorem Ses.succ {l : List Int} {k : Nat} (h : Ses l k) (h1 : seB l k = true) (h2 : lastT l k ≤ l[k * 2]?.getD 0) : Ses l (k + 1) := fun i hi => by
  rcases Nat.lt_succ_iff_lt_or_eq.1 hi with h' | rfl
  · exact h i h'
  · exact ⟨h1, h2⟩
theorem sesB_false {l : List Int} {n k : Nat} (hk : k < n) (h : ¬ (seB l k = true ∧ lastT l k ≤ l[k * 2]?.getD 0)) : sesB l n = false := by
  have : ¬ Ses l n := fun ha => h (ha k hk)
  simp [sesB, this]
theorem sesB_true {l : List Int} {n : Nat} (h : Ses l n) : sesB l n = decide ((n : Int) ≤ 60) := by
  simp only [sesB, h, decide_true, Bool.and_true]
  exact decide_eq_decide.2 (by omega)
theorem sesB_iff {l : List Int} {n : Nat} : sesB l n = true ↔ n ≤ 60 ∧ Ses l n := by simp [sesB]
set_option maxHeartbeats 2000000 in
theorem buSends_any (A : Option Addr) (n cap : Nat) (l : List Int) (w : World) (hl : l.length = n * 2) (hr : IRow w A l) (hn : n ≤ 1099511627776) :
    Calls Try.prog 56 #[.slice A n cap] w fun e w' => e = .returned (.bool (sesB l n)) ∧ Below w.heap.size w w' := by
  have HL := Lib.hid hl
  have HR := Lib.hid hr
  clear hl hr
  go_enter Try.func56, Try.ntmps56
  go_wp2_with fail
  go_loopw [7] (fun i wr => ∃ k : Nat, k ≤ n ∧ i = .int .i64 k ∧ Ses l k ∧ Below w.heap.size w wr) (fun i _ => n - (intOf i).toNat)
  case atStart => exact ⟨0, Nat.zero_le _, rfl, fun j hj => by omega, b0 _⟩
  case round =>
    obtain ⟨k, hk, rfl, hall, hbw⟩ := hrel
    have HA := Lib.hid hall
    clear hall
    by_cases hlt : k < n
    · have hkl : k * 2 + 2 ≤ n * 2 := by omega
      obtain ⟨g, off, rfl, hg, hc⟩ := (HR.out.below hbw).at_ (k := k * 2) (by have := HL.out; omega)
      have hc0 : wr.cell? ⟨g, off + k * 2, none⟩ = some (.int .i64 (l[k * 2]?.getD 0)) := by have h := hc (k * 2) (by have := HL.out; omega); simpa [Nat.add_assoc] using h
      have hc1 : wr.cell? ⟨g, off + k * 2 + 1, none⟩ = some (.int .i64 (l[k * 2 + 1]?.getD 0)) := by have h := hc (k * 2 + 1) (by have := HL.out; omega); simpa [Nat.add_assoc] using h
      have hpr : wr.cell? ⟨g, off + (k - 1) * 2, none⟩ = some (.int .i64 (l[(k - 1) * 2]?.getD 0)) := hc ((k - 1) * 2) (by have := HL.out; omega)
      have HPR := Lib.hid (fun (h : 0 < k) => show lastT l k = l[(k - 1) * 2]?.getD 0 by obtain ⟨m, hm⟩ := Nat.exists_eq_succ_of_ne_zero (show k ≠ 0 from (by omega)); rw [hm]; rfl)
      have HP0 := Lib.hid (fun (h : ¬ 0 < k) => show lastT l k = 0 by have hk0 : k = 0 := (by omega); rw [hk0]; rfl)
      clear hc
      have HP := Lib.hid (show seB l k = (sok (l[k * 2 + 1]?.getD 0) && tok (l[k * 2]?.getD 0)) from rfl)
      have HF := Lib.hid (fun h => sesB_false (l := l) (n := n) (k := k) hlt h)
      have HS := Lib.hid (fun h1 h2 => HA.out.succ (k := k) h1 h2)
      generalize lastT l k = a at *
      generalize l[(k - 1) * 2]?.getD 0 = b at *
      generalize hx0 : l[k * 2]?.getD 0 = x0 at *
      generalize hx1 : l[k * 2 + 1]?.getD 0 = x1 at *
      clear hx0 hx1
      rcases hs : sok x1 with _ | _
      · have hR := Lib.hid (HF.out (fun h => by have h' := h.1; rw [HP.out, hs] at h'; cases h'))
        go_wp2_with fail
        go_quiet (first | (go_at_call 51; exact quiet_flip (l1In_any _ _ _ _)) | (go_at_call 47; exact quiet_flip (buSize_any _ _)))
        go_wp2_with fail
        go_ret
        exact ⟨by rw [hR.out]; rfl, bd (ba hbw _) _⟩
      rcases ht : tok x0 with _ | _
      · have hR := Lib.hid (HF.out (fun h => by have h' := h.1; rw [HP.out, hs, ht] at h'; cases h'))
        have ht' : decide (0 ≤ x0 ∧ x0 ≤ 100000) = false := ht
        go_wp2_with fail
        go_quiet (first | (go_at_call 51; exact quiet_flip (l1In_any _ _ _ _)) | (go_at_call 47; exact quiet_flip (buSize_any _ _)))
        go_wp2_with fail
        go_ret
        exact ⟨by rw [hR.out]; rfl, bd (ba hbw _) _⟩
      have ht' : decide (0 ≤ x0 ∧ x0 ≤ 100000) = true := ht
      have hpx := Lib.hid (tok_iff.1 ht)
      by_cases h0 : 0 < k
      · have h0' : 0 < (k : Int) := by omega
        have h0b : decide (0 < (k : Int)) = true := by simpa using h0'
        have h1' : (k : Int) - 1 < (n : Int) := by omega
        have h2' : 0 ≤ (k : Int) - 1 := by omega
        have hsub : IntKind.i64.wrap ((k : Int) - 1) = (k : Int) - 1 := IntWalk.i64_in _ (by omega)
        have hsub2 : ((k : Int) - 1).toNat = k - 1 := by omega
        have ea := Lib.hid (HPR.out h0)
        by_cases hle : x0 < b
        · have hR := Lib.hid (HF.out (fun h => by have := ea.out; omega))
          go_wp2_with fail
          go_quiet (first | (go_at_call 51; exact quiet_flip (l1In_any _ _ _ _)) | (go_at_call 47; exact quiet_flip (buSize_any _ _)))
          go_wp2_with fail
          go_ret
          exact ⟨by rw [hR.out]; rfl, bd (ba hbw _) _⟩
        · have hR := Lib.hid (HS.out (by rw [HP.out, hs, ht]; rfl) (by have := ea.out; omega))
          go_wp2_with fail
          go_quiet (first | (go_at_call 51; exact quiet_flip (l1In_any _ _ _ _)) | (go_at_call 47; exact quiet_flip (buSize_any _ _)))
          clear hsub hsub2
          go_wp2_with fail
          go_roundw
          case rel => exact ⟨k + 1, by omega, by go_num, hR.out, bd (ba hbw _) _⟩
          case measure => simp [intOf]; omega
      · have ea := Lib.hid (HP0.out h0)
        have h0' : ¬ 0 < (k : Int) := by omega
        have h0b : decide (0 < (k : Int)) = false := by simpa using h0'
        have hR := Lib.hid (HS.out (by rw [HP.out, hs, ht]; rfl) (by have := ea.out; have := hpx.out; omega))
        go_wp2_with fail
        go_quiet (first | (go_at_call 51; exact quiet_flip (l1In_any _ _ _ _)) | (go_at_call 47; exact quiet_flip (buSize_any _ _)))
        go_wp2_with fail
        go_roundw
        case rel => exact ⟨k + 1, by omega, by go_num, hR.out, bd (ba hbw _) _⟩
        case measure => simp [intOf]; omega
    · obtain rfl : k = n := by omega
      have hR := Lib.hid (sesB_true HA.out)
      go_wp2_with fail
      go_ret
      exact ⟨by rw [hR.out]; rfl, hbw⟩
set_option maxHeartbeats 2000000 in
theorem areSends_any (A : Option Addr) (n cap : Nat) (l : List Int) (w : World) (hl : l.length = n * 2) (hr : IRow w A l) (hn : n ≤ 1099511627776) :
    Calls Try.prog 59 #[.slice A n cap] w fun e w' => e = .returned (.bool (sesB l n)) ∧ Below w.heap.size w w' := by
  have HL := Lib.hid hl
  have HR := Lib.hid hr
  clear hl hr
  go_enter Try.func59, Try.ntmps59
  go_wp2_with fail
  go_loopw [7] (fun i wr => ∃ k : Nat, k ≤ n ∧ i = .int .i64 k ∧ Ses l k ∧ Below w.heap.size w wr) (fun i _ => n - (intOf i).toNat)
  case atStart => exact ⟨0, Nat.zero_le _, rfl, fun j hj => by omega, b0 _⟩
  case round =>
    obtain ⟨k, hk, rfl, hall, hbw⟩ := hrel
    have HA := Lib.hid hall
    clear hall
    by_cases hlt : k < n
    · have hkl : k * 2 + 2 ≤ n * 2 := by omega
      obtain ⟨g, off, rfl, hg, hc⟩ := (HR.out.below hbw).at_ (k := k * 2) (by have := HL.out; omega)
      have hc0 : wr.cell? ⟨g, off + k * 2, none⟩ = some (.int .i64 (l[k * 2]?.getD 0)) := by have h := hc (k * 2) (by have := HL.out; omega); simpa [Nat.add_assoc] using h
      have hc1 : wr.cell? ⟨g, off + k * 2 + 1, none⟩ = some (.int .i64 (l[k * 2 + 1]?.getD 0)) := by have h := hc (k * 2 + 1) (by have := HL.out; omega); simpa [Nat.add_assoc] using h
      have hpr : wr.cell? ⟨g, off + (k - 1) * 2, none⟩ = some (.int .i64 (l[(k - 1) * 2]?.getD 0)) := hc ((k - 1) * 2) (by have := HL.out; omega)
      have HPR := Lib.hid (fun (h : 0 < k) => show lastT l k = l[(k - 1) * 2]?.getD 0 by obtain ⟨m, hm⟩ := Nat.exists_eq_succ_of_ne_zero (show k ≠ 0 from (by omega)); rw [hm]; rfl)
      have HP0 := Lib.hid (fun (h : ¬ 0 < k) => show lastT l k = 0 by have hk0 : k = 0 := (by omega); rw [hk0]; rfl)
      clear hc
      have HP := Lib.hid (show seB l k = (sok (l[k * 2 + 1]?.getD 0) && tok (l[k * 2]?.getD 0)) from rfl)
      have HF := Lib.hid (fun h => sesB_false (l := l) (n := n) (k := k) hlt h)
      have HS := Lib.hid (fun h1 h2 => HA.out.succ (k := k) h1 h2)
      generalize lastT l k = a at *
      generalize l[(k - 1) * 2]?.getD 0 = b at *
      generalize hx0 : l[k * 2]?.getD 0 = x0 at *
      generalize hx1 : l[k * 2 + 1]?.getD 0 = x1 at *
      clear hx0 hx1
      rcases hs : sok x1 with _ | _
      · have hR := Lib.hid (HF.out (fun h => by have h' := h.1; rw [HP.out, hs] at h'; cases h'))
        go_wp2_with fail
        go_quiet (first | (go_at_call 53; exact quiet_flip (isTicks_any _ _)) | (go_at_call 48; exact quiet_flip (isSize_any _ _)))
        go_wp2_with fail
        go_ret
        exact ⟨by rw [hR.out]; rfl, bd (ba hbw _) _⟩
      rcases ht : tok x0 with _ | _
      · have hR := Lib.hid (HF.out (fun h => by have h' := h.1; rw [HP.out, hs, ht] at h'; cases h'))
        have ht' : decide (0 ≤ x0 ∧ x0 ≤ 100000) = false := ht
        go_wp2_with fail
        go_quiet (first | (go_at_call 53; exact quiet_flip (isTicks_any _ _)) | (go_at_call 48; exact quiet_flip (isSize_any _ _)))
        go_wp2_with fail
        go_ret
        exact ⟨by rw [hR.out]; rfl, bd (ba hbw _) _⟩
      have ht' : decide (0 ≤ x0 ∧ x0 ≤ 100000) = true := ht
      have hpx := Lib.hid (tok_iff.1 ht)
      by_cases h0 : 0 < k
      · have h0' : 0 < (k : Int) := by omega
        have h0b : decide (0 < (k : Int)) = true := by simpa using h0'
        have h1' : (k : Int) - 1 < (n : Int) := by omega
        have h2' : 0 ≤ (k : Int) - 1 := by omega
        have hsub : IntKind.i64.wrap ((k : Int) - 1) = (k : Int) - 1 := IntWalk.i64_in _ (by omega)
        have hsub2 : ((k : Int) - 1).toNat = k - 1 := by omega
        have ea := Lib.hid (HPR.out h0)
        by_cases hle : x0 < b
        · have hR := Lib.hid (HF.out (fun h => by have := ea.out; omega))
          go_wp2_with fail
          go_quiet (first | (go_at_call 53; exact quiet_flip (isTicks_any _ _)) | (go_at_call 48; exact quiet_flip (isSize_any _ _)))
          go_wp2_with fail
          go_ret
          exact ⟨by rw [hR.out]; rfl, bd (ba hbw _) _⟩
        · have hR := Lib.hid (HS.out (by rw [HP.out, hs, ht]; rfl) (by have := ea.out; omega))
          go_wp2_with fail
          go_quiet (first | (go_at_call 53; exact quiet_flip (isTicks_any _ _)) | (go_at_call 48; exact quiet_flip (isSize_any _ _)))
          clear hsub hsub2
          go_wp2_with fail
          go_roundw
          case rel => exact ⟨k + 1, by omega, by go_num, hR.out, bd (ba hbw _) _⟩
          case measure => simp [intOf]; omega
      · have ea := Lib.hid (HP0.out h0)
        have h0' : ¬ 0 < (k : Int) := by omega
        have h0b : decide (0 < (k : Int)) = false := by simpa using h0'
        have hR := Lib.hid (HS.out (by rw [HP.out, hs, ht]; rfl) (by have := ea.out; have := hpx.out; omega))
        go_wp2_with fail
        go_quiet (first | (go_at_call 53; exact quiet_flip (isTicks_any _ _)) | (go_at_call 48; exact quiet_flip (isSize_any _ _)))
        go_wp2_with fail
        go_roundw
        case rel => exact ⟨k + 1, by omega, by go_num, hR.out, bd (ba hbw _) _⟩
        case measure => simp [intOf]; omega
    · obtain rfl : k = n := by omega
      have hR := Lib.hid (sesB_true HA.out)
      go_wp2_with fail
      go_ret
      exact ⟨by rw [hR.out]; rfl, hbw⟩
end Go.Proofs.Ytleknfigikpacaa
