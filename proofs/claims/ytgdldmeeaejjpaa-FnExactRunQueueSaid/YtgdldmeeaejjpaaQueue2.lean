/- The contracts of the program's IsQueue. -/
import Derived.Test.YtgdldmeeaejjpaaQueue
namespace Go.Proofs.Ytgdldmeeaejjpaa
open Go.ChangeShapes Go.WideShapes Go.ChangeAt Go.RowKit
set_option linter.unusedVariables false
theorem IRow.take {w : World} {A : Option Addr} {l : List Int} (h : IRow w A l) (m : Nat) : IRow w A (l.take m) := fun hp => by
  simp at hp
  obtain ⟨g, off, rfl, hc⟩ := h (by omega)
  refine ⟨g, off, rfl, fun i hi => ?_⟩
  simp at hi
  rw [hc i (by omega), getD_take (by omega)]
theorem hasK_take (L : List Pk) (k : Nat) (id : Int) : hasK (L.take k) k id = hasK L k id := by
  unfold hasK
  rw [allB_congr (g := fun j => !hasI (L.take k) id j) (h := fun j => !hasI L id j)]
  intro i hi
  have e : pat (L.take k) i = pat L i := by simp [pat, hi]
  simp only [hasI, e]
theorem IOwn.cap {w : World} {lo hi e s : Nat} {A : Option Addr} {n cap : Nat} {l : List Int} (h : IOwn w lo hi e s A n cap l) : n ≤ cap := by
  rcases h.1.2 with ⟨hv, hn⟩ | ⟨g, cap', cur, hv, _, _, hnc, _⟩
  · omega
  · injection hv with _ _ hc
    omega
theorem hasId1_any (p : Pk) (id : Int) (B : Nat) (w : World) (hc : w.cell? ⟨B, 0, none⟩ = some (.int .i64 id)) :
    Calls Try.prog 110 #[.agg #[.int .i64 (p.id), .int .i64 (p.so), .int .i64 (p.de), .int .i64 (p.po), .int .i64 (p.ma), .int .i64 (p.si)], .pointer (some ⟨B, 0, none⟩)] w fun e w' => e = .returned (.bool (decide (p.id = id))) ∧ Below w.heap.size w w' := by
  have hB := World.block_lt_of_cell? w _ hc
  go_enter Try.func110, Try.ntmps110
  go_wp2_with fail
  go_ret
  exact ⟨rfl, (by repeat (first | (with_reducible exact b0 _) | (with_reducible refine ba ?_ _) | (with_reducible refine bd ?_ _) | (with_reducible refine Below.drew ?_) | (with_reducible refine bs ?_ (by first | exact Nat.le_refl _ | exact Nat.le_add_right _ _ | omega) _) | (with_reducible refine bt ?_ (by assumption))))⟩
set_option maxHeartbeats 1000000 in
theorem indexFunc_any (A : Option Addr) (n cap : Nat) (L : List Pk) (id : Int) (B : Nat) (w : World) (hc : w.cell? ⟨B, 0, none⟩ = some (.int .i64 id)) (hl : L.length = n) (hr : IRow w A (fl L)) (hn : n ≤ 1099511627776) :
    Calls Try.prog 112 #[.slice A n cap, .func (.func 110) #[] #[.pointer (some ⟨B, 0, none⟩)]] w fun e w' => e = .returned (.int .i64 (quI L id)) ∧ Below w.heap.size w w' := by
  have HL := Lib.hid hl
  have HR := Lib.hid hr
  have HC := Lib.hid (fun (W : World) (hb : Below w.heap.size w W) (p : Pk) (b : Bool) (h : decide (p.id = id) = b) => show Calls Try.prog 110 #[.agg #[.int .i64 (p.id), .int .i64 (p.so), .int .i64 (p.de), .int .i64 (p.po), .int .i64 (p.ma), .int .i64 (p.si)], .pointer (some ⟨B, 0, none⟩)] W fun e w' => e = .returned (.bool b) ∧ Below W.heap.size W w' from h ▸ hasId1_any p id B W ((hb.cell (p := ⟨B, 0, none⟩) (World.block_lt_of_cell? w _ hc)).trans hc))
  clear hl hr hc
  go_enter Try.func112, Try.ntmps112
  go_wp2_with fail
  go_loopw [8] (fun i wr => ∃ k : Nat, k ≤ n ∧ i = .int .i64 k ∧ (∀ j, j < k → hasI L id j = false) ∧ Below w.heap.size w wr) (fun i _ => n - (intOf i).toNat)
  case atStart => exact ⟨0, Nat.zero_le _, rfl, none_zero, b0 _⟩
  case round =>
    obtain ⟨k, hk, rfl, hall, hbw⟩ := hrel
    have HA := Lib.hid hall
    clear hall
    by_cases hlt : k < n
    · obtain ⟨g, off, p, rfl, hg, hpk, c0, c1, c2, c3, c4, c5⟩ := pk_at (HR.out.below hbw) (k := k) (by have := HL.out; omega)
      have HP := Lib.hid (hasI_of (id := id) hpk)
      clear hpk
      rcases he : decide (p.id = id) with _ | _
      · have hR := Lib.hid (none_succ HA.out (by rw [HP.out, he]))
        go_wp2_with fail
        refine (HC.out _ hbw _ _ he).mono ?_
        rintro e w1 ⟨rfl, hg1⟩
        go_wp2_with fail
        go_roundw
        case rel => exact ⟨k + 1, by omega, by go_num, hR.out, bt hbw hg1⟩
        case measure => simp [intOf]; omega
      · have hR := Lib.hid (show quI L id = k from fstI_hit (by have := HL.out; omega) HA.out (by rw [HP.out, he]))
        go_wp2_with fail
        refine (HC.out _ hbw _ _ he).mono ?_
        rintro e w1 ⟨rfl, hg1⟩
        go_wp2_with fail
        go_ret
        exact ⟨by rw [hR.out]; rfl, bt hbw hg1⟩
    · obtain rfl : k = n := by omega
      have hR := Lib.hid (show quI L id = -1 from fstI_none (by rw [HL.out]; exact HA.out))
      go_wp2_with fail
      go_ret
      exact ⟨by rw [hR.out]; rfl, hbw⟩
theorem hasId_any (A : Option Addr) (n cap : Nat) (L : List Pk) (id : Int) (w : World) (hl : L.length = n) (hr : IRow w A (fl L)) (hn : n ≤ 1099511627776) :
    Calls Try.prog 93 #[.slice A n cap, .int .i64 id] w fun e w' => e = .returned (.bool (hasK L n id)) ∧ Below w.heap.size w w' := by
  have hq := Lib.hid (show decide (0 ≤ quI L id) = hasK L n id by
    have h := quI_neg (L := L) (id := id)
    rw [hl] at h
    rcases hh : hasK L n id with _ | _
    · rw [hh] at h
      exact decide_eq_false (by have := of_decide_eq_true h; omega)
    · rw [hh] at h
      exact decide_eq_true (by have := of_decide_eq_false h; omega))
  have HL := Lib.hid hl
  have HR := Lib.hid (fun (o : Obj) => hr.below (ba (b0 w) o))
  clear hl hr
  go_enter Try.func93, Try.ntmps93
  go_wp2_with fail
  go_in
  go_wp2_with fail
  refine (indexFunc_any _ _ _ L id _ _ (by simp) HL.out (HR.out _) hn).mono ?_
  rintro e w1 ⟨rfl, hg⟩
  go_wp2_with fail
  all_goals
    go_ret
    exact ⟨ret_b hq.out, (by repeat (first | (with_reducible exact b0 _) | (with_reducible refine ba ?_ _) | (with_reducible refine bd ?_ _) | (with_reducible refine Below.drew ?_) | (with_reducible refine bs ?_ (by first | exact Nat.le_refl _ | exact Nat.le_add_right _ _ | omega) _) | (with_reducible refine bt ?_ (by assumption))))⟩
theorem hasId_b {b : Bool} (A : Option Addr) (n cap : Nat) (L : List Pk) (id : Int) (w : World) (hl : L.length = n) (hr : IRow w A (fl L)) (hn : n ≤ 1099511627776) (h : hasK L n id = b) :
    Calls Try.prog 93 #[.slice A n cap, .int .i64 id] w fun e w' => e = .returned (.bool b) ∧ Below w.heap.size w w' := h ▸ hasId_any A n cap L id w hl hr hn
set_option maxHeartbeats 2000000 in
theorem apartIds_any (A : Option Addr) (n cap : Nat) (L : List Pk) (w : World) (hl : L.length = n) (hr : IRow w A (fl L)) (hn : n ≤ 1099511627776) (hcap : n ≤ cap) :
    Calls Try.prog 65 #[.slice A n cap] w fun e w' => e = .returned (.bool (apart L)) ∧ Below w.heap.size w w' := by
  have HL := Lib.hid hl
  have HR := Lib.hid hr
  clear hl hr
  go_enter Try.func65, Try.ntmps65
  go_wp2_with fail
  go_loopw [7] (fun i wr => ∃ k : Nat, k ≤ n ∧ i = .int .i64 k ∧ (∀ j, j < k → qgd L j = true) ∧ Below w.heap.size w wr) (fun i _ => n - (intOf i).toNat)
  case atStart => exact ⟨0, Nat.zero_le _, rfl, all_zero, b0 _⟩
  case round =>
    obtain ⟨k, hk, rfl, hall, hbw⟩ := hrel
    have HA := Lib.hid hall
    clear hall
    by_cases hlt : k < n
    · have HRW := Lib.hid (HR.out.below hbw)
      obtain ⟨g, off, p, rfl, hg, hpk, c0, c1, c2, c3, c4, c5⟩ := pk_at HRW.out (k := k) (by have := HL.out; omega)
      have HP := Lib.hid (show qgd L k = (p.ok && !hasK L k p.id) by simp [qgd, pat_of hpk])
      have HF := Lib.hid (fun h => apart_no (L := L) (k := k) (by have := HL.out; omega) h)
      clear hpk
      have q0 : ∀ u : Gr (wr.alloc (.cells #[.int .i64 p.id, .int .i64 p.so, .int .i64 p.de, .int .i64 p.po, .int .i64 p.ma, .int .i64 p.si] 35)), u.v.cell? ⟨wr.heap.size, 0, none⟩ = some (.int .i64 p.id) := gr_cell (by simp)
      have q1 : ∀ u : Gr (wr.alloc (.cells #[.int .i64 p.id, .int .i64 p.so, .int .i64 p.de, .int .i64 p.po, .int .i64 p.ma, .int .i64 p.si] 35)), u.v.cell? ⟨wr.heap.size, 1, none⟩ = some (.int .i64 p.so) := gr_cell (by simp)
      have q2 : ∀ u : Gr (wr.alloc (.cells #[.int .i64 p.id, .int .i64 p.so, .int .i64 p.de, .int .i64 p.po, .int .i64 p.ma, .int .i64 p.si] 35)), u.v.cell? ⟨wr.heap.size, 2, none⟩ = some (.int .i64 p.de) := gr_cell (by simp)
      have q3 : ∀ u : Gr (wr.alloc (.cells #[.int .i64 p.id, .int .i64 p.so, .int .i64 p.de, .int .i64 p.po, .int .i64 p.ma, .int .i64 p.si] 35)), u.v.cell? ⟨wr.heap.size, 3, none⟩ = some (.int .i64 p.po) := gr_cell (by simp)
      have q4 : ∀ u : Gr (wr.alloc (.cells #[.int .i64 p.id, .int .i64 p.so, .int .i64 p.de, .int .i64 p.po, .int .i64 p.ma, .int .i64 p.si] 35)), u.v.cell? ⟨wr.heap.size, 4, none⟩ = some (.int .i64 p.ma) := gr_cell (by simp)
      have q5 : ∀ u : Gr (wr.alloc (.cells #[.int .i64 p.id, .int .i64 p.so, .int .i64 p.de, .int .i64 p.po, .int .i64 p.ma, .int .i64 p.si] 35)), u.v.cell? ⟨wr.heap.size, 5, none⟩ = some (.int .i64 p.si) := gr_cell (by simp)
      have HTL := Lib.hid (show (L.take k).length = k by simp; have := HL.out; omega)
      have HTR := Lib.hid (fun (u : Gr (wr.alloc (.cells #[.int .i64 p.id, .int .i64 p.so, .int .i64 p.de, .int .i64 p.po, .int .i64 p.ma, .int .i64 p.si] 35))) => show IRow u.v (some ⟨g, off, none⟩) (fl (L.take k)) by rw [← fl_take]; exact ((HRW.out.below (ba (b0 wr) _)).below u.h).take _)
      have i1 : (0 : Int) ≤ (k : Int) := by omega
      have i2 : (k : Int) ≤ (cap : Int) := by omega
      have HK := Lib.hid (hasK_take L k p.id)
      rcases hp : p.ok with _ | _
      · have hR := Lib.hid (HF.out (by rw [HP.out, hp]; rfl))
        go_wp2_with fail
        refine wp_region_gr (by kernel_rfl) (by kernel_rfl) ?_
        repeat (go_big_quiet_step ((go_at_call 78; (with_reducible exact gr_of (isPacket_b hp _)))))
        refine wpQuiet_nil ?_
        intro _ hw'
        obtain ⟨pq, hw''⟩ := hw'
        subst hw''
        go_wp2_with fail
        go_ret
        exact ⟨by rw [hR.out]; rfl, bt (ba hbw _) pq.h⟩
      rcases hh : hasK (L.take k) k p.id with _ | _
      · have hR := Lib.hid (all_succ HA.out (by rw [HP.out, hp, ← HK.out, hh]; rfl))
        go_wp2_with fail
        refine wp_region_gr (by kernel_rfl) (by kernel_rfl) ?_
        repeat (go_big_quiet_step ((first | (go_at_call 78; (with_reducible exact gr_of (isPacket_b hp _))) | (go_at_call 93; exact gr_of (hasId_b _ _ _ (L.take k) _ _ HTL.out (HTR.out _) (by omega) hh)))))
        refine wpQuiet_nil ?_
        intro _ hw'
        obtain ⟨pq, hw''⟩ := hw'
        subst hw''
        go_wp2_with fail
        go_roundw
        case rel => exact ⟨k + 1, by omega, by go_num, hR.out, bt (ba hbw _) pq.h⟩
        case measure => simp [intOf]; omega
      · have hR := Lib.hid (HF.out (by rw [HP.out, hp, ← HK.out, hh]; rfl))
        go_wp2_with fail
        refine wp_region_gr (by kernel_rfl) (by kernel_rfl) ?_
        repeat (go_big_quiet_step ((first | (go_at_call 78; (with_reducible exact gr_of (isPacket_b hp _))) | (go_at_call 93; exact gr_of (hasId_b _ _ _ (L.take k) _ _ HTL.out (HTR.out _) (by omega) hh)))))
        refine wpQuiet_nil ?_
        intro _ hw'
        obtain ⟨pq, hw''⟩ := hw'
        subst hw''
        go_wp2_with fail
        go_ret
        exact ⟨by rw [hR.out]; rfl, bt (ba hbw _) pq.h⟩
    · obtain rfl : k = n := by omega
      have hR := Lib.hid (show apart L = true from allB_yes (by rw [HL.out]; exact HA.out))
      go_wp2_with fail
      go_ret
      exact ⟨by rw [hR.out]; rfl, hbw⟩
theorem apartIds_b {b : Bool} (A : Option Addr) (n cap : Nat) (L : List Pk) (w : World) (hl : L.length = n) (hr : IRow w A (fl L)) (hn : n ≤ 1099511627776) (hcap : n ≤ cap) (h : apart L = b) :
    Calls Try.prog 65 #[.slice A n cap] w fun e w' => e = .returned (.bool b) ∧ Below w.heap.size w w' := h ▸ apartIds_any A n cap L w hl hr hn hcap
set_option maxHeartbeats 4000000 in
theorem implIsQueue_any (li by_ : Int) (A : Option Addr) (n cap : Nat) (se dr : Int) (L : List Pk) (w : World) (hl : L.length = n) (hr : IRow w A (fl L)) (hn : n ≤ 1099511627776) (hcap : n ≤ cap) :
    Calls Try.prog 64 #[.agg #[.int .i64 li, .int .i64 by_, .slice A n cap, .int .i64 se, .int .i64 dr]] w fun e w' => e = .returned (.bool (qok li by_ L se dr)) ∧ Below w.heap.size w w' := by
  have HL := Lib.hid hl
  have HR := Lib.hid hr
  clear hl hr
  have HQ := Lib.hid (show qok li by_ L se dr = (decide (1 ≤ li ∧ li ≤ 60) && decide (1 ≤ by_ ∧ by_ ≤ 90000) && decide ((n : Int) ≤ li) && cnt se && cnt dr && apart L && decide (szs L n ≤ by_)) by rw [qok, HL.out])
  rcases h4 : cnt se with _ | _
  · have hR := Lib.hid (show qok li by_ L se dr = false by rw [HQ.out, h4]; simp)
    rcases h5 : cnt dr with _ | _
    all_goals
      go_enter Try.func64, Try.ntmps64
      go_wp2_with ((first | (go_at_call 95; (with_reducible refine (isCount_b h4 _).mono ?_); rintro e w' ⟨rfl, rfl⟩) | (go_at_call 95; (with_reducible refine (isCount_b h5 _).mono ?_); rintro e w' ⟨rfl, rfl⟩)))
      all_goals
        go_ret
        exact ⟨by rw [hR.out]; rfl, (by repeat (first | (with_reducible exact b0 _) | (with_reducible refine ba ?_ _) | (with_reducible refine bd ?_ _) | (with_reducible refine Below.drew ?_) | (with_reducible refine bs ?_ (by first | exact Nat.le_refl _ | exact Nat.le_add_right _ _ | omega) _) | (with_reducible refine bt ?_ (by assumption))))⟩
  rcases h5 : cnt dr with _ | _
  · have hR := Lib.hid (show qok li by_ L se dr = false by rw [HQ.out, h5]; simp)
    go_enter Try.func64, Try.ntmps64
    go_wp2_with ((first | (go_at_call 95; (with_reducible refine (isCount_b h4 _).mono ?_); rintro e w' ⟨rfl, rfl⟩) | (go_at_call 95; (with_reducible refine (isCount_b h5 _).mono ?_); rintro e w' ⟨rfl, rfl⟩)))
    all_goals
      go_ret
      exact ⟨by rw [hR.out]; rfl, (by repeat (first | (with_reducible exact b0 _) | (with_reducible refine ba ?_ _) | (with_reducible refine bd ?_ _) | (with_reducible refine Below.drew ?_) | (with_reducible refine bs ?_ (by first | exact Nat.le_refl _ | exact Nat.le_add_right _ _ | omega) _) | (with_reducible refine bt ?_ (by assumption))))⟩
  by_cases hnum : (1 ≤ li ∧ li ≤ 60) ∧ (1 ≤ by_ ∧ by_ ≤ 90000) ∧ (n : Int) ≤ li
  rotate_left
  · have hR := Lib.hid (show qok li by_ L se dr = false by
      rw [HQ.out]
      rcases e : (decide (1 ≤ li ∧ li ≤ 60) && decide (1 ≤ by_ ∧ by_ ≤ 90000) && decide ((n : Int) ≤ li)) with _ | _
      · rw [Bool.false_and, Bool.false_and, Bool.false_and, Bool.false_and]
      · simp only [Bool.and_eq_true, decide_eq_true_eq] at e
        exact (hnum ⟨e.1.1, e.1.2, e.2⟩).elim)
    have HN := Lib.hid hnum
    clear hnum
    go_enter Try.func64, Try.ntmps64
    go_wp2_with ((first | (go_at_call 95; (with_reducible refine (isCount_b h4 _).mono ?_); rintro e w' ⟨rfl, rfl⟩) | (go_at_call 95; (with_reducible refine (isCount_b h5 _).mono ?_); rintro e w' ⟨rfl, rfl⟩)))
    all_goals first
      | (go_ret; exact ⟨by rw [hR.out]; rfl, (by repeat (first | (with_reducible exact b0 _) | (with_reducible refine ba ?_ _) | (with_reducible refine bd ?_ _) | (with_reducible refine Below.drew ?_) | (with_reducible refine bs ?_ (by first | exact Nat.le_refl _ | exact Nat.le_add_right _ _ | omega) _) | (with_reducible refine bt ?_ (by assumption))))⟩)
      | (exfalso; have := HN.out; omega)
  have HB := Lib.hid (Bk.new w 30 #[.int .i64 li, .int .i64 by_, .slice A n cap, .int .i64 se, .int .i64 dr])
  have q1 : ∀ u : Gr (w.alloc (.cells #[.int .i64 li, .int .i64 by_, .slice A n cap, .int .i64 se, .int .i64 dr] 30)), u.v.cell? ⟨w.heap.size, 1, none⟩ = some (.int .i64 by_) := gr_cell (HB.out.cell 1)
  have q2 : ∀ u : Gr (w.alloc (.cells #[.int .i64 li, .int .i64 by_, .slice A n cap, .int .i64 se, .int .i64 dr] 30)), u.v.cell? ⟨w.heap.size, 2, none⟩ = some (.slice A n cap) := gr_cell (HB.out.cell 2)
  have HRW := Lib.hid (fun (u : Gr (w.alloc (.cells #[.int .i64 li, .int .i64 by_, .slice A n cap, .int .i64 se, .int .i64 dr] 30))) => (HR.out.below (ba (b0 w) _)).below u.h)
  have HD := Lib.hid (show (decide (1 ≤ li ∧ li ≤ 60) && decide (1 ≤ by_ ∧ by_ ≤ 90000) && decide ((n : Int) ≤ li)) = true by simp only [Bool.and_eq_true, decide_eq_true_eq]; exact ⟨⟨hnum.1, hnum.2.1⟩, hnum.2.2⟩)
  rcases h6 : apart L with _ | _
  · have hR := Lib.hid (show qok li by_ L se dr = false by rw [HQ.out, h6]; simp)
    go_enter Try.func64, Try.ntmps64
    go_wp2_with ((first | (go_at_call 95; (with_reducible refine (isCount_b h4 _).mono ?_); rintro e w' ⟨rfl, rfl⟩) | (go_at_call 95; (with_reducible refine (isCount_b h5 _).mono ?_); rintro e w' ⟨rfl, rfl⟩)))
    refine wp_region_gr (by kernel_rfl) (by kernel_rfl) ?_
    repeat (go_big_quiet_step ((go_at_call 65; exact gr_of (apartIds_b _ _ _ L _ HL.out (HRW.out _) hn hcap h6))))
    refine wpQuiet_nil ?_
    intro _ hw'
    obtain ⟨pq, hw''⟩ := hw'
    subst hw''
    go_wp2_with fail
    go_ret
    exact ⟨by rw [hR.out]; rfl, bt (ba (b0 w) _) pq.h⟩
  have HSZ := Lib.hid (apart_sz h6)
  rcases h7 : decide (szs L n ≤ by_) with _ | _
  all_goals
    have hR := Lib.hid (show qok li by_ L se dr = _ by rw [HQ.out, HD.out, h4, h5, h6, h7])
    go_enter Try.func64, Try.ntmps64
    go_wp2_with ((first | (go_at_call 95; (with_reducible refine (isCount_b h4 _).mono ?_); rintro e w' ⟨rfl, rfl⟩) | (go_at_call 95; (with_reducible refine (isCount_b h5 _).mono ?_); rintro e w' ⟨rfl, rfl⟩)))
    refine wp_region_gr (by kernel_rfl) (by kernel_rfl) ?_
    repeat (go_big_quiet_step ((first | (go_at_call 65; exact gr_of (apartIds_b _ _ _ L _ HL.out (HRW.out _) hn hcap h6)) | (go_at_call 85; exact gr_of (sumSizes_any _ _ _ L _ HL.out (HRW.out _) (by omega) HSZ.out)))))
    refine wpQuiet_nil ?_
    intro _ hw'
    obtain ⟨pq, hw''⟩ := hw'
    subst hw''
    go_wp2_with fail
    go_ret
    exact ⟨by rw [hR.out]; rfl, bt (ba (b0 w) _) pq.h⟩
end Go.Proofs.Ytgdldmeeaejjpaa
