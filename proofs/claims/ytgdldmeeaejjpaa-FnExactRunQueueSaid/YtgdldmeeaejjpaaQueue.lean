/- The contracts of what says whether a queue is valid. -/
import Derived.Test.YtgdldmeeaejjpaaQuLaw
import Derived.Test.YtgdldmeeaejjpaaBlk
namespace Go.Proofs.Ytgdldmeeaejjpaa
open Go.ChangeShapes Go.WideShapes Go.ChangeAt Go.RowKit
set_option linter.unusedVariables false
theorem l1In_b {a b c : Int} {v : Bool} (h : decide (b ≤ a ∧ a ≤ c) = v) (w : World) : Calls Try.prog 61 #[.int .i64 a, .int .i64 b, .int .i64 c] w fun e w' => e = .returned (.bool v) ∧ w = w' := h ▸ l1In_any a b c w
theorem quCount_any (n : Int) (w : World) : Calls Try.prog 96 #[.int .i64 n] w fun e w' => e = .returned (.bool (cnt n)) ∧ w = w' := by
  go_enter Try.func96, Try.ntmps96
  go_wp2_with (go_at_call 61; refine (l1In_any _ _ _ _).mono ?_; rintro e w' ⟨rfl, rfl⟩)
  go_ret
  exact ⟨ret_b (by rw [Bool.eq_iff_iff]; simp [cnt]), rfl⟩
theorem quCount_b {n : Int} {v : Bool} (h : cnt n = v) (w : World) : Calls Try.prog 96 #[.int .i64 n] w fun e w' => e = .returned (.bool v) ∧ w = w' := h ▸ quCount_any n w
theorem isCount_any (n : Int) (w : World) : Calls Try.prog 95 #[.int .i64 n] w fun e w' => e = .returned (.bool (cnt n)) ∧ w = w' := by
  go_enter Try.func95, Try.ntmps95
  go_wp2
  all_goals
    go_ret
    exact ⟨ret_b (by rw [Bool.eq_iff_iff]; simp [cnt]; try omega), rfl⟩
theorem isCount_b {n : Int} {v : Bool} (h : cnt n = v) (w : World) : Calls Try.prog 95 #[.int .i64 n] w fun e w' => e = .returned (.bool v) ∧ w = w' := h ▸ isCount_any n w
set_option maxHeartbeats 1000000 in
theorem quAt_any (A : Option Addr) (n cap : Nat) (L : List Pk) (id : Int) (w : World) (hl : L.length = n) (hr : IRow w A (fl L)) (hn : n ≤ 1099511627776) :
    Calls Try.prog 63 #[.slice A n cap, .int .i64 id] w fun e w' => e = .returned (.int .i64 (quI L id)) ∧ Below w.heap.size w w' := by
  have HL := Lib.hid hl
  have HR := Lib.hid hr
  clear hl hr
  go_enter Try.func63, Try.ntmps63
  go_wp2_with fail
  go_loopw [9] (fun i wr => ∃ k : Nat, k ≤ n ∧ i = .int .i64 k ∧ (∀ j, j < k → hasI L id j = false) ∧ Below w.heap.size w wr) (fun i _ => n - (intOf i).toNat)
  case atStart => exact ⟨0, Nat.zero_le _, rfl, none_zero, b0 _⟩
  case round =>
    obtain ⟨k, hk, rfl, hall, hbw⟩ := hrel
    have HA := Lib.hid hall
    clear hall
    by_cases hlt : k < n
    · obtain ⟨g, off, p, rfl, hg, hpk, c0, c1, c2, c3, c4, c5⟩ := pk_at (HR.out.below hbw) (k := k) (by have := HL.out; omega)
      have HP := Lib.hid (hasI_of (id := id) hpk)
      clear hpk
      by_cases he : p.id = id
      · have he' : (p.id == id) = true := by simpa using he
        have hR := Lib.hid (show quI L id = k from fstI_hit (by have := HL.out; omega) HA.out (by rw [HP.out]; simp [he]))
        clear he
        go_wp2_with fail
        go_ret
        exact ⟨by rw [hR.out]; rfl, (by repeat (first | (with_reducible exact b0 _) | (with_reducible refine ba ?_ _) | (with_reducible refine bd ?_ _) | (with_reducible refine Below.drew ?_) | (with_reducible refine bs ?_ (by first | exact Nat.le_refl _ | exact Nat.le_add_right _ _ | omega) _) | (with_reducible refine bt ?_ (by assumption))))⟩
      · have he' : (p.id == id) = false := by simpa using he
        have hR := Lib.hid (none_succ HA.out (by rw [HP.out]; simp [he]))
        clear he
        go_wp2_with fail
        go_roundw
        case rel => exact ⟨k + 1, by omega, by go_num, hR.out, (by repeat (first | (with_reducible exact b0 _) | (with_reducible refine ba ?_ _) | (with_reducible refine bd ?_ _) | (with_reducible refine Below.drew ?_) | (with_reducible refine bs ?_ (by first | exact Nat.le_refl _ | exact Nat.le_add_right _ _ | omega) _) | (with_reducible refine bt ?_ (by assumption))))⟩
        case measure => simp [intOf]; omega
    · obtain rfl : k = n := by omega
      have hR := Lib.hid (show quI L id = -1 from fstI_none (by rw [HL.out]; exact HA.out))
      go_wp2_with fail
      go_ret
      exact ⟨by rw [hR.out]; rfl, hbw⟩
theorem quBytes_any (li by_ : Int) (A : Option Addr) (n cap : Nat) (se dr : Int) (L : List Pk) (w : World) (hl : L.length = n) (hr : IRow w A (fl L)) (hn : n ≤ 1099511627776) (hn6 : n ≤ 1000000) (hs : SzOk L) :
    Calls Try.prog 92 #[.agg #[.int .i64 li, .int .i64 by_, .slice A n cap, .int .i64 se, .int .i64 dr]] w fun e w' => e = .returned (.int .i64 (szs L n)) ∧ Below w.heap.size w w' := by
  have HL := Lib.hid hl
  have HR := Lib.hid (fun (o : Obj) => hr.below (ba (b0 w) o))
  have HS := Lib.hid hs
  clear hl hr hs
  go_enter Try.func92, Try.ntmps92
  go_wp2_with fail
  refine (pkSum_any _ _ _ L _ HL.out (HR.out _) hn6 HS.out).mono ?_
  rintro e w1 ⟨rfl, hg⟩
  go_wp2_with fail
  go_ret
  exact ⟨rfl, (by repeat (first | (with_reducible exact b0 _) | (with_reducible refine ba ?_ _) | (with_reducible refine bd ?_ _) | (with_reducible refine Below.drew ?_) | (with_reducible refine bs ?_ (by first | exact Nat.le_refl _ | exact Nat.le_add_right _ _ | omega) _) | (with_reducible refine bt ?_ (by assumption))))⟩
set_option maxHeartbeats 4000000 in
theorem quGood_any (li by_ : Int) (A : Option Addr) (n cap : Nat) (se dr : Int) (L : List Pk) (w : World) (hl : L.length = n) (hr : IRow w A (fl L)) (hn : n ≤ 1099511627776) :
    Calls Try.prog 60 #[.agg #[.int .i64 li, .int .i64 by_, .slice A n cap, .int .i64 se, .int .i64 dr]] w fun e w' => e = .returned (.bool (qok li by_ L se dr)) ∧ Below w.heap.size w w' := by
  have HL := Lib.hid hl
  have HR := Lib.hid hr
  clear hl hr
  go_enter Try.func60, Try.ntmps60
  go_wp2_with fail
  go_loopw [8] (fun i wr => ∃ k : Nat, k ≤ n ∧ i = .int .i64 k ∧ (∀ j, j < k → qgd L j = true) ∧ Bk wr w.heap.size 30 #[.int .i64 li, .int .i64 by_, .slice A n cap, .int .i64 se, .int .i64 dr] ∧ Below w.heap.size w wr) (fun i _ => n - (intOf i).toNat)
  case atStart => exact ⟨0, Nat.zero_le _, rfl, all_zero, Bk.new _ _ _, ba (b0 _) _⟩
  case round =>
    obtain ⟨k, hk, rfl, hall, hB, hbw⟩ := hrel
    have HA := Lib.hid hall
    clear hall
    have zw := hB.lt
    by_cases hlt : k < n
    · obtain ⟨g, off, p, rfl, hg, hpk, c0, c1, c2, c3, c4, c5⟩ := pk_at (HR.out.below hbw) (k := k) (by have := HL.out; omega)
      have HP := Lib.hid (show qgd L k = (p.ok && !hasK L k p.id) by simp [qgd, pat_of hpk])
      have HF := Lib.hid (fun h => qok_apart (li := li) (by_ := by_) (se := se) (dr := dr) (apart_no (L := L) (k := k) (by have := HL.out; omega) h))
      have HI := Lib.hid (show (quI L p.id = (k : Int)) ↔ hasK L k p.id = false by have h := quI_self (L := L) (i := k) (by have := HL.out; omega); rwa [pat_of hpk] at h)
      have k2 := hB.cell 2
      simp at k2
      have HB := Lib.hid hB
      clear hpk hB
      rcases hp : p.ok with _ | _
      · have hR := Lib.hid (HF.out (by rw [HP.out, hp]; rfl))
        go_wp2_with fail
        ((with_reducible refine (pkGood_b hp _).mono ?_); rintro e w1 ⟨rfl, hg1⟩; have z1 := hg1.size; (try simp at z1); have r1 := bkeep hg1 wr.heap.size 0 (by simp); simp at r1; have b1 := (HB.out.alloc _).old hg1; have b12 := b1.cell 2; simp at b12)
        clear b1
        go_wp2_with fail
        go_ret
        exact ⟨by rw [hR.out]; rfl, bt (ba hbw _) hg1⟩
      rcases hh : hasK L k p.id with _ | _
      · have hR := Lib.hid (all_succ HA.out (by rw [HP.out, hp, hh]; rfl))
        have hq := Lib.hid (HI.out.2 hh)
        go_wp2_with fail
        ((with_reducible refine (pkGood_b hp _).mono ?_); rintro e w1 ⟨rfl, hg1⟩; have z1 := hg1.size; (try simp at z1); have r1 := bkeep hg1 wr.heap.size 0 (by simp); simp at r1; have b1 := (HB.out.alloc _).old hg1; have b12 := b1.cell 2; simp at b12)
        have HB1 := Lib.hid b1
        clear b1
        go_wp2_with fail
        refine (quAt_any _ _ _ L _ _ HL.out ((HR.out.below hbw).below (bt (ba (b0 wr) _) hg1)) hn).mono ?_
        rw [hq.out]
        rintro e w2 ⟨rfl, hg2⟩
        go_wp2_with fail
        go_roundw
        case rel => exact ⟨k + 1, by omega, by go_num, hR.out, HB1.out.old hg2, bt (bt (ba hbw _) hg1) hg2⟩
        case measure => simp [intOf]; omega
      · have hR := Lib.hid (HF.out (by rw [HP.out, hp, hh]; rfl))
        have hq : (quI L p.id != (k : Int)) = true := by rw [bne_iff_ne]; intro h; rw [HI.out.1 h] at hh; cases hh
        go_wp2_with fail
        ((with_reducible refine (pkGood_b hp _).mono ?_); rintro e w1 ⟨rfl, hg1⟩; have z1 := hg1.size; (try simp at z1); have r1 := bkeep hg1 wr.heap.size 0 (by simp); simp at r1; have b1 := (HB.out.alloc _).old hg1; have b12 := b1.cell 2; simp at b12)
        clear b1
        go_wp2_with fail
        refine (quAt_any _ _ _ L _ _ HL.out ((HR.out.below hbw).below (bt (ba (b0 wr) _) hg1)) hn).mono ?_
        generalize quI L p.id = x at *
        rintro e w2 ⟨rfl, hg2⟩
        go_wp2_with fail
        go_ret
        exact ⟨by rw [hR.out]; rfl, bt (bt (ba hbw _) hg1) hg2⟩
    · obtain rfl : k = n := by omega
      have hap : apart L = true := allB_yes (by rw [HL.out]; exact HA.out)
      have HSZ := Lib.hid (apart_sz hap)
      have HQ := Lib.hid (show qok li by_ L se dr = (decide (1 ≤ li ∧ li ≤ 60) && decide (1 ≤ by_ ∧ by_ ≤ 90000) && decide ((k : Int) ≤ li) && decide (szs L k ≤ by_) && cnt se && cnt dr) by rw [qok, HL.out, hap, Bool.and_true]; simp only [Bool.and_assoc]; congr 3; rcases decide (szs L k ≤ by_) <;> simp)
      have HRW := Lib.hid (fun (u : Gr wr) => (HR.out.below hbw).below u.h)
      clear hap
      have q0 : ∀ u : Gr wr, u.v.cell? ⟨w.heap.size, 0, none⟩ = some (.int .i64 li) := gr_cell (hB.cell 0); have q1 : ∀ u : Gr wr, u.v.cell? ⟨w.heap.size, 1, none⟩ = some (.int .i64 by_) := gr_cell (hB.cell 1); have q2 : ∀ u : Gr wr, u.v.cell? ⟨w.heap.size, 2, none⟩ = some (.slice A k cap) := gr_cell (hB.cell 2); have q3 : ∀ u : Gr wr, u.v.cell? ⟨w.heap.size, 3, none⟩ = some (.int .i64 se) := gr_cell (hB.cell 3); have q4 : ∀ u : Gr wr, u.v.cell? ⟨w.heap.size, 4, none⟩ = some (.int .i64 dr) := gr_cell (hB.cell 4)
      have HB := Lib.hid hB
      clear hB
      rcases h1 : decide (1 ≤ li ∧ li ≤ 60) with _ | _
      · have hR := Lib.hid (show qok li by_ L se dr = false by rw [HQ.out, h1]; rfl)
        go_wp2_with fail
        refine wp_region_gr (by kernel_rfl) (by kernel_rfl) ?_
        repeat (go_big_quiet_step ((go_at_call 61; (with_reducible exact gr_same (l1In_b h1 _)))))
        refine wpQuiet_nil ?_
        intro _ hw'
        obtain ⟨pq, hw''⟩ := hw'
        subst hw''
        go_wp2_with fail
        go_ret
        exact ⟨by rw [hR.out]; rfl, bt hbw pq.h⟩
      rcases h2 : decide (1 ≤ by_ ∧ by_ ≤ 90000) with _ | _
      · have hR := Lib.hid (show qok li by_ L se dr = false by rw [HQ.out, h1, h2]; rfl)
        go_wp2_with fail
        refine wp_region_gr (by kernel_rfl) (by kernel_rfl) ?_
        repeat (go_big_quiet_step ((first | (go_at_call 61; (with_reducible exact gr_same (l1In_b h1 _))) | (go_at_call 61; (with_reducible exact gr_same (l1In_b h2 _))))))
        refine wpQuiet_nil ?_
        intro _ hw'
        obtain ⟨pq, hw''⟩ := hw'
        subst hw''
        go_wp2_with fail
        go_ret
        exact ⟨by rw [hR.out]; rfl, bt hbw pq.h⟩
      have g1 := of_decide_eq_true h1
      have g2 := of_decide_eq_true h2
      by_cases h3 : (k : Int) ≤ li
      rotate_left
      · have h3' : decide ((k : Int) ≤ li) = false := decide_eq_false h3
        have hR := Lib.hid (show qok li by_ L se dr = false by rw [HQ.out, h1, h2, h3']; rfl)
        go_wp2_with fail
        refine wp_region_gr (by kernel_rfl) (by kernel_rfl) ?_
        repeat (go_big_quiet_step ((first | (go_at_call 61; (with_reducible exact gr_same (l1In_b h1 _))) | (go_at_call 61; (with_reducible exact gr_same (l1In_b h2 _))))))
        refine wpQuiet_nil ?_
        intro _ hw'
        obtain ⟨pq, hw''⟩ := hw'
        subst hw''
        go_wp2_with fail
        go_ret
        exact ⟨by rw [hR.out]; rfl, bt hbw pq.h⟩
      have h3' : decide ((k : Int) ≤ li) = true := decide_eq_true h3
      have h60 : k ≤ 1000000 := by omega
      have HZ := Lib.hid (show ∃ z, z = szs L k from ⟨_, rfl⟩)
      rcases h6 : decide (szs L k ≤ by_) with _ | _
      · have hR := Lib.hid (show qok li by_ L se dr = false by rw [HQ.out, h1, h2, h3', h6]; rfl)
        go_wp2_with fail
        refine wp_region_gr (by kernel_rfl) (by kernel_rfl) ?_
        repeat (go_big_quiet_step ((first | (go_at_call 61; (with_reducible exact gr_same (l1In_b h1 _))) | (go_at_call 61; (with_reducible exact gr_same (l1In_b h2 _))) | (go_at_call 92; exact gr_of (quBytes_any _ _ _ _ _ _ _ L _ HL.out (HRW.out _) hn h60 HSZ.out)) | (go_at_call 96; (with_reducible exact gr_same (quCount_b h4 _))) | (go_at_call 96; (with_reducible exact gr_same (quCount_b h5 _))))))
        refine wpQuiet_nil ?_
        intro _ hw'
        obtain ⟨pq, hw''⟩ := hw'
        subst hw''
        go_wp2_with fail
        go_ret
        exact ⟨by rw [hR.out]; rfl, bt hbw pq.h⟩
      rcases h4 : cnt se with _ | _
      · have hR := Lib.hid (show qok li by_ L se dr = false by rw [HQ.out, h1, h2, h3', h6, h4]; rfl)
        go_wp2_with fail
        refine wp_region_gr (by kernel_rfl) (by kernel_rfl) ?_
        repeat (go_big_quiet_step ((first | (go_at_call 61; (with_reducible exact gr_same (l1In_b h1 _))) | (go_at_call 61; (with_reducible exact gr_same (l1In_b h2 _))) | (go_at_call 92; exact gr_of (quBytes_any _ _ _ _ _ _ _ L _ HL.out (HRW.out _) hn h60 HSZ.out)) | (go_at_call 96; (with_reducible exact gr_same (quCount_b h4 _))) | (go_at_call 96; (with_reducible exact gr_same (quCount_b h5 _))))))
        refine wpQuiet_nil ?_
        intro _ hw'
        obtain ⟨pq, hw''⟩ := hw'
        subst hw''
        go_wp2_with fail
        go_ret
        exact ⟨by rw [hR.out]; rfl, bt hbw pq.h⟩
      rcases h5 : cnt dr with _ | _
      all_goals
        have hR := Lib.hid (show qok li by_ L se dr = _ by rw [HQ.out, h1, h2, h3', h6, h4, h5])
        go_wp2_with fail
        refine wp_region_gr (by kernel_rfl) (by kernel_rfl) ?_
        repeat (go_big_quiet_step ((first | (go_at_call 61; (with_reducible exact gr_same (l1In_b h1 _))) | (go_at_call 61; (with_reducible exact gr_same (l1In_b h2 _))) | (go_at_call 92; exact gr_of (quBytes_any _ _ _ _ _ _ _ L _ HL.out (HRW.out _) hn h60 HSZ.out)) | (go_at_call 96; (with_reducible exact gr_same (quCount_b h4 _))) | (go_at_call 96; (with_reducible exact gr_same (quCount_b h5 _))))))
        refine wpQuiet_nil ?_
        intro _ hw'
        obtain ⟨pq, hw''⟩ := hw'
        subst hw''
        go_wp2_with fail
        go_ret
        exact ⟨by rw [hR.out]; rfl, bt hbw pq.h⟩
end Go.Proofs.Ytgdldmeeaejjpaa
