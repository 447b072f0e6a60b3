/- The contracts of slices.IndexFunc and slices.ContainsFunc over classes, at each closure of the program. (Printed by cfgen.py.) -/
import Derived.Test.YtjajddhedahpnaaDoorCfgA
namespace Go.Proofs.YtjajddhedahpnaaDoor
open Go.ChangeShapes Go.WideShapes Go.ChangeAt Go.RowKit
set_option linter.unusedVariables false
theorem old_cell {w W : World} {b o : Nat} {v : Value} (h : w.cell? ⟨b, o, none⟩ = some v) (hb : Below w.heap.size w W) : W.cell? ⟨b, o, none⟩ = some v := (bkeep hb b o (World.block_lt_of_cell? w _ h)).trans h
theorem idx1_b {b : Bool} (c : Cl) (id : Int) (P : Nat) (w : World) (hP : w.cell? ⟨P, 0, none⟩ = some (.int .i64 id)) (h : decide (c.id = id) = b) :
    Calls Tryd.prog 55 #[.agg #[.int .i64 (c.id), .int .i64 (c.pa), .int .i64 (c.ra), .int .i64 (c.ce), .int .i64 (c.bu), .int .i64 (c.cb), .int .i64 (c.pr), .int .i64 (c.li)], .pointer (some ⟨P, 0, none⟩)] w fun e w' => e = .returned (.bool b) ∧ Below w.heap.size w w' := by
  have hp := World.block_lt_of_cell? w _ hP
  go_enter Tryd.func55, Tryd.ntmps55
  go_wp2_with fail
  go_ret
  exact ⟨ret_b h, (by repeat (first | (with_reducible exact b0 _) | (with_reducible refine ba ?_ _) | (with_reducible refine bd ?_ _) | (with_reducible refine Below.drew ?_) | (with_reducible refine bs ?_ (by first | exact Nat.le_refl _ | exact Nat.le_add_right _ _ | omega) _) | (with_reducible refine bt ?_ (by assumption))))⟩
set_option maxHeartbeats 1000000 in
theorem leaf1_b {b : Bool} (c : Cl) (i : Nat) (Q P : Nat) (A : Option Addr) (n cap : Nat) (L : List Cl) (w : World) (hl : L.length = n) (hr : IRow w A (flc L)) (hi : i < n) (hQ : w.cell? ⟨Q, 1, none⟩ = some (.slice A n cap)) (hP : w.cell? ⟨P, 0, none⟩ = some (.int .i64 (i : Int))) (h : decide (c.pa = (cat L i).id) = b) :
    Calls Tryd.prog 94 #[.agg #[.int .i64 (c.id), .int .i64 (c.pa), .int .i64 (c.ra), .int .i64 (c.ce), .int .i64 (c.bu), .int .i64 (c.cb), .int .i64 (c.pr), .int .i64 (c.li)], .pointer (some ⟨Q, 0, none⟩), .pointer (some ⟨P, 0, none⟩)] w fun e w' => e = .returned (.bool b) ∧ Below w.heap.size w w' := by
  have hp := World.block_lt_of_cell? w _ hP
  have hq := World.block_lt_of_cell? w _ hQ
  obtain ⟨g, off, rfl, hg, hcs⟩ := crow hr (k := i) (by omega)
  obtain ⟨c0, c1, c2, c3, c4, c5, c6, c7⟩ := hcs i (by omega)
  have i0 : (0 : Int) ≤ (i : Int) := by omega
  have i1 : (i : Int) < (n : Int) := by omega
  clear hcs hr c1 c2 c3 c4 c5 c6 c7
  generalize cat L i = d at *
  go_enter Tryd.func94, Tryd.ntmps94
  go_wp2_with fail
  go_quiet (fail)
  go_wp2_with fail
  go_ret
  exact ⟨ret_b h, (by repeat (first | (with_reducible exact b0 _) | (with_reducible refine ba ?_ _) | (with_reducible refine bd ?_ _) | (with_reducible refine Below.drew ?_) | (with_reducible refine bs ?_ (by first | exact Nat.le_refl _ | exact Nat.le_add_right _ _ | omega) _) | (with_reducible refine bt ?_ (by assumption))))⟩
theorem holds1_b {b : Bool} {c : Cl} (h : (!rok c) = b) (w : World) : Calls Tryd.prog 70 #[.agg #[.int .i64 (c.id), .int .i64 (c.pa), .int .i64 (c.ra), .int .i64 (c.ce), .int .i64 (c.bu), .int .i64 (c.cb), .int .i64 (c.pr), .int .i64 (c.li)]] w fun e w' => e = .returned (.bool b) ∧ Below w.heap.size w w' := h ▸ holds1_any c w
theorem holds2_b {b : Bool} {c : Cl} (h : (!bok c) = b) (w : World) : Calls Tryd.prog 74 #[.agg #[.int .i64 (c.id), .int .i64 (c.pa), .int .i64 (c.ra), .int .i64 (c.ce), .int .i64 (c.bu), .int .i64 (c.cb), .int .i64 (c.pr), .int .i64 (c.li)]] w fun e w' => e = .returned (.bool b) ∧ Below w.heap.size w w' := h ▸ holds2_any c w
theorem count1_b {b : Bool} {c : Cl} (h : cnt c = b) (w : World) : Calls Tryd.prog 88 #[.agg #[.int .i64 (c.id), .int .i64 (c.pa), .int .i64 (c.ra), .int .i64 (c.ce), .int .i64 (c.bu), .int .i64 (c.cb), .int .i64 (c.pr), .int .i64 (c.li)]] w fun e w' => e = .returned (.bool b) ∧ Below w.heap.size w w' := h ▸ count1_any c w
set_option maxHeartbeats 1000000 in
theorem ifcI_any (id : Int) (P : Nat) (A : Option Addr) (n cap : Nat) (L : List Cl) (w : World) (hl : L.length = n) (hr : IRow w A (flc L)) (hn : n ≤ 1048576) (hP : w.cell? ⟨P, 0, none⟩ = some (.int .i64 id)) :
    Calls Tryd.prog 54 #[.slice A n cap, .func (.func 55) #[] #[.pointer (some ⟨P, 0, none⟩)]] w fun e w' => e = .returned (.int .i64 (fstI n (isI L id))) ∧ Below w.heap.size w w' := by
  have HL := Lib.hid hl
  have HR := Lib.hid hr
  have HP := Lib.hid hP
  clear hP
  clear hl hr
  go_enter Tryd.func54, Tryd.ntmps54
  go_wp2_with fail
  go_loopw [8] (fun z wr => ∃ k : Nat, k ≤ n ∧ z = .int .i64 k ∧ (∀ j, j < k → (isI L id) j = false) ∧ Below w.heap.size w wr) (fun z _ => n - (intOf z).toNat)
  case atStart => exact ⟨0, Nat.zero_le _, rfl, none_zero, b0 _⟩
  case round =>
    obtain ⟨k, hk, rfl, hall, hbw⟩ := hrel
    have HA := Lib.hid hall
    clear hall
    by_cases hlt : k < n
    · obtain ⟨g, off, rfl, hg, hcs⟩ := crow (HR.out.below hbw) (k := k) (by have := HL.out; omega)
      obtain ⟨c0, c1, c2, c3, c4, c5, c6, c7⟩ := hcs k (by have := HL.out; omega)
      clear hcs
      rcases hh : decide ((cat L k).id = id) with _ | _
      · have hR := Lib.hid (none_succ HA.out hh)
        have HC := Lib.hid (idx1_b _ id P wr (old_cell HP.out hbw) hh)
        clear hh
        generalize cat L k = c at *
        go_wp2_with fail
        refine HC.out.mono ?_
        rintro e w1 ⟨rfl, hg1⟩
        go_wp2_with fail
        go_roundw
        case rel => exact ⟨k + 1, by omega, by go_num, hR.out, bt hbw hg1⟩
        case measure => simp [intOf]; omega
      · have hR := Lib.hid (show fstI n (isI L id) = k from fstI_hit hlt HA.out hh)
        have HC := Lib.hid (idx1_b _ id P wr (old_cell HP.out hbw) hh)
        clear hh
        generalize cat L k = c at *
        go_wp2_with fail
        refine HC.out.mono ?_
        rintro e w1 ⟨rfl, hg1⟩
        go_wp2_with fail
        go_ret
        exact ⟨by rw [hR.out]; rfl, bt hbw hg1⟩
    · obtain rfl : k = n := by omega
      have hR := Lib.hid (show fstI k (isI L id) = -1 from fstI_none HA.out)
      go_wp2_with fail
      go_ret
      exact ⟨by rw [hR.out]; rfl, hbw⟩

set_option maxHeartbeats 1000000 in
theorem ifcL_any (i Q P : Nat) (A : Option Addr) (n cap : Nat) (L : List Cl) (w : World) (hl : L.length = n) (hr : IRow w A (flc L)) (hn : n ≤ 1048576) (hi : i < n) (hQ : w.cell? ⟨Q, 1, none⟩ = some (.slice A n cap)) (hP : w.cell? ⟨P, 0, none⟩ = some (.int .i64 (i : Int))) :
    Calls Tryd.prog 54 #[.slice A n cap, .func (.func 94) #[] #[.pointer (some ⟨Q, 0, none⟩), .pointer (some ⟨P, 0, none⟩)]] w fun e w' => e = .returned (.int .i64 (fstI n (kid L i))) ∧ Below w.heap.size w w' := by
  have HL := Lib.hid hl
  have HR := Lib.hid hr
  have HP := Lib.hid hP
  have HQ := Lib.hid hQ
  have HI := Lib.hid hi
  clear hP hQ hi
  clear hl hr
  go_enter Tryd.func54, Tryd.ntmps54
  go_wp2_with fail
  go_loopw [8] (fun z wr => ∃ k : Nat, k ≤ n ∧ z = .int .i64 k ∧ (∀ j, j < k → (kid L i) j = false) ∧ Below w.heap.size w wr) (fun z _ => n - (intOf z).toNat)
  case atStart => exact ⟨0, Nat.zero_le _, rfl, none_zero, b0 _⟩
  case round =>
    obtain ⟨k, hk, rfl, hall, hbw⟩ := hrel
    have HA := Lib.hid hall
    clear hall
    by_cases hlt : k < n
    · obtain ⟨g, off, rfl, hg, hcs⟩ := crow (HR.out.below hbw) (k := k) (by have := HL.out; omega)
      obtain ⟨c0, c1, c2, c3, c4, c5, c6, c7⟩ := hcs k (by have := HL.out; omega)
      clear hcs
      rcases hh : decide ((cat L k).pa = (cat L i).id) with _ | _
      · have hR := Lib.hid (none_succ HA.out hh)
        have HC := Lib.hid (leaf1_b _ i Q P _ n cap L wr HL.out (HR.out.below hbw) HI.out (old_cell HQ.out hbw) (old_cell HP.out hbw) hh)
        clear hh
        generalize cat L k = c at *
        go_wp2_with fail
        refine HC.out.mono ?_
        rintro e w1 ⟨rfl, hg1⟩
        go_wp2_with fail
        go_roundw
        case rel => exact ⟨k + 1, by omega, by go_num, hR.out, bt hbw hg1⟩
        case measure => simp [intOf]; omega
      · have hR := Lib.hid (show fstI n (kid L i) = k from fstI_hit hlt HA.out hh)
        have HC := Lib.hid (leaf1_b _ i Q P _ n cap L wr HL.out (HR.out.below hbw) HI.out (old_cell HQ.out hbw) (old_cell HP.out hbw) hh)
        clear hh
        generalize cat L k = c at *
        go_wp2_with fail
        refine HC.out.mono ?_
        rintro e w1 ⟨rfl, hg1⟩
        go_wp2_with fail
        go_ret
        exact ⟨by rw [hR.out]; rfl, bt hbw hg1⟩
    · obtain rfl : k = n := by omega
      have hR := Lib.hid (show fstI k (kid L i) = -1 from fstI_none HA.out)
      go_wp2_with fail
      go_ret
      exact ⟨by rw [hR.out]; rfl, hbw⟩

set_option maxHeartbeats 1000000 in
theorem ifcR_any  (A : Option Addr) (n cap : Nat) (L : List Cl) (w : World) (hl : L.length = n) (hr : IRow w A (flc L)) (hn : n ≤ 1048576)  :
    Calls Tryd.prog 54 #[.slice A n cap, .func (.func 70) #[] #[]] w fun e w' => e = .returned (.int .i64 (fstI n ((fun k => !rok (cat L k))))) ∧ Below w.heap.size w w' := by
  have HL := Lib.hid hl
  have HR := Lib.hid hr
  skip
  clear hl hr
  go_enter Tryd.func54, Tryd.ntmps54
  go_wp2_with fail
  go_loopw [8] (fun z wr => ∃ k : Nat, k ≤ n ∧ z = .int .i64 k ∧ (∀ j, j < k → ((fun k => !rok (cat L k))) j = false) ∧ Below w.heap.size w wr) (fun z _ => n - (intOf z).toNat)
  case atStart => exact ⟨0, Nat.zero_le _, rfl, none_zero, b0 _⟩
  case round =>
    obtain ⟨k, hk, rfl, hall, hbw⟩ := hrel
    have HA := Lib.hid hall
    clear hall
    by_cases hlt : k < n
    · obtain ⟨g, off, rfl, hg, hcs⟩ := crow (HR.out.below hbw) (k := k) (by have := HL.out; omega)
      obtain ⟨c0, c1, c2, c3, c4, c5, c6, c7⟩ := hcs k (by have := HL.out; omega)
      clear hcs
      rcases hh : !rok (cat L k) with _ | _
      · have hR := Lib.hid (none_succ HA.out hh)
        have HC := Lib.hid (holds1_b hh wr)
        clear hh
        generalize cat L k = c at *
        go_wp2_with fail
        refine HC.out.mono ?_
        rintro e w1 ⟨rfl, hg1⟩
        go_wp2_with fail
        go_roundw
        case rel => exact ⟨k + 1, by omega, by go_num, hR.out, bt hbw hg1⟩
        case measure => simp [intOf]; omega
      · have hR := Lib.hid (show fstI n ((fun k => !rok (cat L k))) = k from fstI_hit hlt HA.out hh)
        have HC := Lib.hid (holds1_b hh wr)
        clear hh
        generalize cat L k = c at *
        go_wp2_with fail
        refine HC.out.mono ?_
        rintro e w1 ⟨rfl, hg1⟩
        go_wp2_with fail
        go_ret
        exact ⟨by rw [hR.out]; rfl, bt hbw hg1⟩
    · obtain rfl : k = n := by omega
      have hR := Lib.hid (show fstI k ((fun k => !rok (cat L k))) = -1 from fstI_none HA.out)
      go_wp2_with fail
      go_ret
      exact ⟨by rw [hR.out]; rfl, hbw⟩

set_option maxHeartbeats 1000000 in
theorem ifcB_any  (A : Option Addr) (n cap : Nat) (L : List Cl) (w : World) (hl : L.length = n) (hr : IRow w A (flc L)) (hn : n ≤ 1048576)  :
    Calls Tryd.prog 54 #[.slice A n cap, .func (.func 74) #[] #[]] w fun e w' => e = .returned (.int .i64 (fstI n ((fun k => !bok (cat L k))))) ∧ Below w.heap.size w w' := by
  have HL := Lib.hid hl
  have HR := Lib.hid hr
  skip
  clear hl hr
  go_enter Tryd.func54, Tryd.ntmps54
  go_wp2_with fail
  go_loopw [8] (fun z wr => ∃ k : Nat, k ≤ n ∧ z = .int .i64 k ∧ (∀ j, j < k → ((fun k => !bok (cat L k))) j = false) ∧ Below w.heap.size w wr) (fun z _ => n - (intOf z).toNat)
  case atStart => exact ⟨0, Nat.zero_le _, rfl, none_zero, b0 _⟩
  case round =>
    obtain ⟨k, hk, rfl, hall, hbw⟩ := hrel
    have HA := Lib.hid hall
    clear hall
    by_cases hlt : k < n
    · obtain ⟨g, off, rfl, hg, hcs⟩ := crow (HR.out.below hbw) (k := k) (by have := HL.out; omega)
      obtain ⟨c0, c1, c2, c3, c4, c5, c6, c7⟩ := hcs k (by have := HL.out; omega)
      clear hcs
      rcases hh : !bok (cat L k) with _ | _
      · have hR := Lib.hid (none_succ HA.out hh)
        have HC := Lib.hid (holds2_b hh wr)
        clear hh
        generalize cat L k = c at *
        go_wp2_with fail
        refine HC.out.mono ?_
        rintro e w1 ⟨rfl, hg1⟩
        go_wp2_with fail
        go_roundw
        case rel => exact ⟨k + 1, by omega, by go_num, hR.out, bt hbw hg1⟩
        case measure => simp [intOf]; omega
      · have hR := Lib.hid (show fstI n ((fun k => !bok (cat L k))) = k from fstI_hit hlt HA.out hh)
        have HC := Lib.hid (holds2_b hh wr)
        clear hh
        generalize cat L k = c at *
        go_wp2_with fail
        refine HC.out.mono ?_
        rintro e w1 ⟨rfl, hg1⟩
        go_wp2_with fail
        go_ret
        exact ⟨by rw [hR.out]; rfl, bt hbw hg1⟩
    · obtain rfl : k = n := by omega
      have hR := Lib.hid (show fstI k ((fun k => !bok (cat L k))) = -1 from fstI_none HA.out)
      go_wp2_with fail
      go_ret
      exact ⟨by rw [hR.out]; rfl, hbw⟩

set_option maxHeartbeats 1000000 in
theorem ifcN_any  (A : Option Addr) (n cap : Nat) (L : List Cl) (w : World) (hl : L.length = n) (hr : IRow w A (flc L)) (hn : n ≤ 1048576)  :
    Calls Tryd.prog 54 #[.slice A n cap, .func (.func 88) #[] #[]] w fun e w' => e = .returned (.int .i64 (fstI n ((fun k => cnt (cat L k))))) ∧ Below w.heap.size w w' := by
  have HL := Lib.hid hl
  have HR := Lib.hid hr
  skip
  clear hl hr
  go_enter Tryd.func54, Tryd.ntmps54
  go_wp2_with fail
  go_loopw [8] (fun z wr => ∃ k : Nat, k ≤ n ∧ z = .int .i64 k ∧ (∀ j, j < k → ((fun k => cnt (cat L k))) j = false) ∧ Below w.heap.size w wr) (fun z _ => n - (intOf z).toNat)
  case atStart => exact ⟨0, Nat.zero_le _, rfl, none_zero, b0 _⟩
  case round =>
    obtain ⟨k, hk, rfl, hall, hbw⟩ := hrel
    have HA := Lib.hid hall
    clear hall
    by_cases hlt : k < n
    · obtain ⟨g, off, rfl, hg, hcs⟩ := crow (HR.out.below hbw) (k := k) (by have := HL.out; omega)
      obtain ⟨c0, c1, c2, c3, c4, c5, c6, c7⟩ := hcs k (by have := HL.out; omega)
      clear hcs
      rcases hh : cnt (cat L k) with _ | _
      · have hR := Lib.hid (none_succ HA.out hh)
        have HC := Lib.hid (count1_b hh wr)
        clear hh
        generalize cat L k = c at *
        go_wp2_with fail
        refine HC.out.mono ?_
        rintro e w1 ⟨rfl, hg1⟩
        go_wp2_with fail
        go_roundw
        case rel => exact ⟨k + 1, by omega, by go_num, hR.out, bt hbw hg1⟩
        case measure => simp [intOf]; omega
      · have hR := Lib.hid (show fstI n ((fun k => cnt (cat L k))) = k from fstI_hit hlt HA.out hh)
        have HC := Lib.hid (count1_b hh wr)
        clear hh
        generalize cat L k = c at *
        go_wp2_with fail
        refine HC.out.mono ?_
        rintro e w1 ⟨rfl, hg1⟩
        go_wp2_with fail
        go_ret
        exact ⟨by rw [hR.out]; rfl, bt hbw hg1⟩
    · obtain rfl : k = n := by omega
      have hR := Lib.hid (show fstI k ((fun k => cnt (cat L k))) = -1 from fstI_none HA.out)
      go_wp2_with fail
      go_ret
      exact ⟨by rw [hR.out]; rfl, hbw⟩

end Go.Proofs.YtjajddhedahpnaaDoor
