/- The contracts of looking up classes, of leaves and of children, on both sides. -/
import Derived.Test.YtjajddhedahpnaaDoorCfgB
import Derived.Test.YtjajddhedahpnaaDoorInts
namespace Go.Proofs.YtjajddhedahpnaaDoor
open Go.ChangeShapes Go.WideShapes Go.ChangeAt Go.RowKit
set_option linter.unusedVariables false
theorem cfcL_any (i Q P : Nat) (A : Option Addr) (n cap : Nat) (L : List Cl) (w : World) (hl : L.length = n) (hr : IRow w A (flc L)) (hn : n ≤ 1048576) (hi : i < n) (hQ : w.cell? ⟨Q, 1, none⟩ = some (.slice A n cap)) (hP : w.cell? ⟨P, 0, none⟩ = some (.int .i64 (i : Int))) :
    Calls Tryd.prog 69 #[.slice A n cap, .func (.func 94) #[] #[.pointer (some ⟨Q, 0, none⟩), .pointer (some ⟨P, 0, none⟩)]] w fun e w' => e = .returned (.bool (decide (0 ≤ fstI n (kid L i)))) ∧ Below w.heap.size w w' := by
  have HC := Lib.hid (ifcL_any i Q P A n cap L w hl hr hn hi hQ hP)
  clear hr hQ hP
  generalize fstI n (kid L i) = q at *
  go_enter Tryd.func69, Tryd.ntmps69
  go_wp2_with fail
  refine HC.out.mono ?_
  rintro e w1 ⟨rfl, hb⟩
  go_wp2_with fail
  go_ret
  exact ⟨rfl, hb⟩
theorem cfcR_any (A : Option Addr) (n cap : Nat) (L : List Cl) (w : World) (hl : L.length = n) (hr : IRow w A (flc L)) (hn : n ≤ 1048576) :
    Calls Tryd.prog 69 #[.slice A n cap, .func (.func 70) #[] #[]] w fun e w' => e = .returned (.bool (decide (0 ≤ fstI n (fun k => !rok (cat L k))))) ∧ Below w.heap.size w w' := by
  have HC := Lib.hid (ifcR_any A n cap L w hl hr hn)
  clear hr
  generalize fstI n (fun k => !rok (cat L k)) = q at *
  go_enter Tryd.func69, Tryd.ntmps69
  go_wp2_with fail
  refine HC.out.mono ?_
  rintro e w1 ⟨rfl, hb⟩
  go_wp2_with fail
  go_ret
  exact ⟨rfl, hb⟩
theorem cfcB_any (A : Option Addr) (n cap : Nat) (L : List Cl) (w : World) (hl : L.length = n) (hr : IRow w A (flc L)) (hn : n ≤ 1048576) :
    Calls Tryd.prog 69 #[.slice A n cap, .func (.func 74) #[] #[]] w fun e w' => e = .returned (.bool (decide (0 ≤ fstI n (fun k => !bok (cat L k))))) ∧ Below w.heap.size w w' := by
  have HC := Lib.hid (ifcB_any A n cap L w hl hr hn)
  clear hr
  generalize fstI n (fun k => !bok (cat L k)) = q at *
  go_enter Tryd.func69, Tryd.ntmps69
  go_wp2_with fail
  refine HC.out.mono ?_
  rintro e w1 ⟨rfl, hb⟩
  go_wp2_with fail
  go_ret
  exact ⟨rfl, hb⟩
theorem cfcN_any (A : Option Addr) (n cap : Nat) (L : List Cl) (w : World) (hl : L.length = n) (hr : IRow w A (flc L)) (hn : n ≤ 1048576) :
    Calls Tryd.prog 69 #[.slice A n cap, .func (.func 88) #[] #[]] w fun e w' => e = .returned (.bool (decide (0 ≤ fstI n (fun k => cnt (cat L k))))) ∧ Below w.heap.size w w' := by
  have HC := Lib.hid (ifcN_any A n cap L w hl hr hn)
  clear hr
  generalize fstI n (fun k => cnt (cat L k)) = q at *
  go_enter Tryd.func69, Tryd.ntmps69
  go_wp2_with fail
  refine HC.out.mono ?_
  rintro e w1 ⟨rfl, hb⟩
  go_wp2_with fail
  go_ret
  exact ⟨rfl, hb⟩
theorem indexOf_any (id : Int) (nm : ByteArray) (A : Option Addr) (n cap : Nat) (B : Option Addr) (m capb : Nat) (df : Int) (L : List Cl) (w : World) (hl : L.length = n) (hr : IRow w A (flc L)) (hn : n ≤ 1000) : Calls Tryd.prog 34 #[.agg #[.string nm, .slice A n cap, .slice B m capb, .int .i64 df], .int .i64 id] w fun e w' => e = .returned (.int .i64 (fnd L id)) ∧ Below w.heap.size w w' := by
  have HL := Lib.hid hl
  have HR := Lib.hid hr
  clear hl hr
  have HF := Lib.hid (show fnd L id = fstI n (isI L id) from by unfold fnd; rw [HL.out])
  go_enter Tryd.func34, Tryd.ntmps34
  go_wp2_with fail
  refine (ifcI_any id (w.heap.size + 1) A n cap L _ HL.out (HR.out.below (ba (ba (b0 w) _) _)) (by omega) ((Bk.new_ (by simp)).cell 0)).mono ?_
  rw [← HF.out]
  rintro e w1 ⟨rfl, hb⟩
  go_wp2_with fail
  go_ret
  exact ⟨rfl, bt (ba (ba (b0 w) _) _) hb⟩
theorem isLeaf_any (i : Nat) (nm : ByteArray) (A : Option Addr) (n cap : Nat) (B : Option Addr) (m capb : Nat) (df : Int) (L : List Cl) (w : World) (hl : L.length = n) (hr : IRow w A (flc L)) (hn : n ≤ 1000) (hi : i < n) : Calls Tryd.prog 90 #[.agg #[.string nm, .slice A n cap, .slice B m capb, .int .i64 df], .int .i64 (i : Int)] w fun e w' => e = .returned (.bool (lf L i)) ∧ Below w.heap.size w w' := by
  have HL := Lib.hid hl
  have HR := Lib.hid hr
  have HI := Lib.hid hi
  clear hl hr hi
  have HF := Lib.hid (show lf L i = !decide (0 ≤ fstI n (kid L i)) from by rw [lf_all, HL.out])
  go_enter Tryd.func90, Tryd.ntmps90
  go_wp2_with fail
  refine (cfcL_any i w.heap.size (w.heap.size + 1) A n cap L _ HL.out (HR.out.below (ba (ba (b0 w) _) _)) (by omega) HI.out (((Bk.new w _ _).alloc _).cell 1) ((Bk.new_ (by simp)).cell 0)).mono ?_
  rintro e w1 ⟨rfl, hb⟩
  go_wp2_with fail
  go_ret
  exact ⟨ret_b HF.out.symm, bt (ba (ba (b0 w) _) _) hb⟩
set_option maxHeartbeats 1000000 in
theorem cfFind_any (id : Int) (nm : ByteArray) (A : Option Addr) (n cap : Nat) (B : Option Addr) (m capb : Nat) (df : Int) (L : List Cl) (w : World) (hl : L.length = n) (hr : IRow w A (flc L)) (hn : n ≤ 1000) : Calls Tryd.prog 48 #[.agg #[.string nm, .slice A n cap, .slice B m capb, .int .i64 df], .int .i64 id] w fun e w' => e = .returned (.int .i64 (fnd L id)) ∧ Below w.heap.size w w' := by
  have HL := Lib.hid hl
  have HR := Lib.hid hr
  clear hl hr
  go_enter Tryd.func48, Tryd.ntmps48
  go_wp2_with fail
  go_loopw [10] (fun z wr => ∃ k : Nat, k ≤ n ∧ z = .int .i64 k ∧ (∀ j, j < k → isI L id j = false) ∧ Below w.heap.size w wr) (fun z _ => n - (intOf z).toNat)
  case atStart => exact ⟨0, Nat.zero_le _, rfl, none_zero, ba (b0 _) _⟩
  case round =>
    obtain ⟨k, hk, rfl, hall, hbw⟩ := hrel
    have HA := Lib.hid hall
    clear hall
    by_cases hlt : k < n
    · obtain ⟨g, off, rfl, hg, hcs⟩ := crow (HR.out.below hbw) (k := k) (by have := HL.out; omega)
      obtain ⟨c0, c1, c2, c3, c4, c5, c6, c7⟩ := hcs k (by have := HL.out; omega)
      clear hcs
      by_cases hh : (cat L k).id = id
      · have hR := Lib.hid (show fnd L id = k from fstI_hit (by rw [HL.out]; exact hlt) HA.out (by simp [isI, hh]))
        generalize cat L k = c at *
        go_wp2_with fail
        go_ret
        exact ⟨by rw [hR.out]; rfl, ba hbw _⟩
      · have hR := Lib.hid (none_succ HA.out (by simp [isI, hh]))
        generalize cat L k = c at *
        go_wp2_with fail
        go_roundw
        case rel => exact ⟨k + 1, by omega, by go_num, hR.out, ba hbw _⟩
        case measure => simp [intOf]; omega
    · obtain rfl : k = n := by omega
      have hR := Lib.hid (show fnd L id = -1 from fstI_none (by rw [HL.out]; exact HA.out))
      go_wp2_with fail
      go_ret
      exact ⟨by rw [hR.out]; rfl, hbw⟩
theorem IOwn.drewN {w : World} {lo hi e s : Nat} {A : Option Addr} {n cap : Nat} {l : List Int} (h : IOwn w lo hi e s A n cap l) (k : Nat) : IOwn (w.drewN k) lo hi e s A n cap l := h
/-- The indices of children among the first k, as ints. -/
def nI (l : List Nat) : List Int := l.map (fun j : Nat => (j : Int))
def kI (L : List Cl) (i k : Nat) : List Int := nI (kidsTo L i k)
theorem kI_len (L : List Cl) (i k : Nat) : (kI L i k).length = (kidsTo L i k).length := by simp [kI, nI]
theorem kI_yes {L : List Cl} {i k : Nat} (h : kid L i k = true) : kI L i (k + 1) = kI L i k ++ [(k : Int)] := by simp [kI, nI, kidsTo_yes h]
theorem kI_no {L : List Cl} {i k : Nat} (h : kid L i k = false) : kI L i (k + 1) = kI L i k := by rw [kI, kidsTo_no h]; rfl
set_option maxHeartbeats 1000000 in
theorem cfKids_any (i : Nat) (nm : ByteArray) (A : Option Addr) (n cap : Nat) (B : Option Addr) (m capb : Nat) (df : Int) (L : List Cl) (w : World) (hl : L.length = n) (hr : IRow w A (flc L)) (hn : n ≤ 1000) (hi : i < n) : Calls Tryd.prog 82 #[.agg #[.string nm, .slice A n cap, .slice B m capb, .int .i64 df], .int .i64 (i : Int)] w fun e w' => ∃ C c, e = .returned (.slice C (kids L i).length c) ∧ IOwn w' w.heap.size w'.heap.size 3 1 C (kids L i).length c (nI (kids L i)) ∧ Below w.heap.size w w' := by
  have HL := Lib.hid hl
  have HR := Lib.hid hr
  have HI := Lib.hid hi
  clear hl hr hi
  go_enter Tryd.func82, Tryd.ntmps82
  go_wp2_with fail
  go_loopw [5, 11] (fun v z wr => ∃ (k : Nat) (C : Option Addr) (c : Nat), k ≤ n ∧ z = .int .i64 k ∧ v = .slice C (kidsTo L i k).length c ∧ IOwn wr (w.heap.size + 1) wr.heap.size 3 1 C (kidsTo L i k).length c (kI L i k) ∧ Bk wr w.heap.size 34 #[.string nm, .slice A n cap, .slice B m capb, .int .i64 df] ∧ Below w.heap.size w wr) (fun _ z _ => n - (intOf z).toNat)
  case atStart => exact ⟨0, none, 0, by omega, rfl, rfl, IOwn.none_ _ _ _ _ _, Bk.new _ _ _, ba (b0 _) _⟩
  case round =>
    obtain ⟨k, C, c, hk, rfl, rfl, ho, hbx, hbw⟩ := hrel
    have HO := Lib.hid ho
    have HX := Lib.hid hbx
    have HW := Lib.hid hbw
    have zx := hbx.lt
    clear ho hbx hbw
    by_cases hlt : k < n
    · obtain ⟨g, off, rfl, hg, hcs⟩ := crow (HR.out.below HW.out) (k := k) (by have := HL.out; omega)
      obtain ⟨c0, c1, c2, c3, c4, c5, c6, c7⟩ := hcs k (by have := HL.out; omega)
      obtain ⟨d0, d1, d2, d3, d4, d5, d6, d7⟩ := hcs i (by have := HL.out; have := HI.out; omega)
      have b1 := HX.out.cell 1
      have i0 : (0 : Int) ≤ (i : Int) := by omega
      have i1 : (i : Int) < (n : Int) := by have := HI.out; omega
      have hln : (kidsTo L i k).length ≤ 1099511627776 := by have := kidsTo_len L i k; omega
      have hle := Lib.hid (show ∀ b, decide ((cat L k).pa = (cat L i).id) = b → kid L i k = b from fun b h => h)
      clear hcs d1 d2 d3 d4 d5 d6 d7
      by_cases hh : (cat L k).pa = (cat L i).id
      · have hR := Lib.hid (kI_yes (hle.out true (decide_eq_true hh)))
        have hS := Lib.hid (show (kidsTo L i (k + 1)).length = (kidsTo L i k).length + 1 from by rw [kidsTo_yes (hle.out true (decide_eq_true hh))]; simp)
        clear hle
        generalize (kidsTo L i k).length = j at *
        generalize cat L k = x at *
        generalize cat L i = y at *
        go_wp2_with fail
        go_quiet (fail)
        go_wp2_with (at_builtin; refine append_int rfl _ _ rfl (lo := w.heap.size + 1) (hh := wr.heap.size) (l := kI L i k) rfl (((HO.out.alloc _).drewN _).alloc _) _ (k : Int) rfl ((Bk.new_ (by simp)).cell 0) hln (by simp; omega) ?_; intro C' c' w5 ho5 hb5)
        rw [← hR.out] at ho5
        have HO5 := Lib.hid ho5
        have HX5 := Lib.hid ((((HX.out.alloc _).drewN _).alloc _).below hb5 (by omega))
        have HB5 := Lib.hid ((ba (bd (ba HW.out _) _) _).trans (hb5.mono (by omega)))
        clear ho5 hb5
        go_wp2_with fail
        go_roundw
        case rel => exact ⟨k + 1, C', c', by omega, by go_num, by rw [hS.out], by rw [hS.out]; exact HO5.out, HX5.out, HB5.out⟩
        case measure => simp [intOf]; omega
      · have hR := Lib.hid (kI_no (hle.out false (decide_eq_false hh)))
        have hS := Lib.hid (show (kidsTo L i (k + 1)).length = (kidsTo L i k).length from by rw [kidsTo_no (hle.out false (decide_eq_false hh))])
        have hd : decide ((cat L k).pa = (cat L i).id) = false := decide_eq_false hh
        clear hle
        generalize (kidsTo L i k).length = j at *
        generalize cat L k = x at *
        generalize cat L i = y at *
        go_wp2_with fail
        go_quiet (fail)
        go_wp2_with fail
        go_roundw
        case rel => exact ⟨k + 1, C, c, by omega, by go_num, by rw [hS.out], by rw [hS.out, hR.out]; exact IOwn.here ((HO.out.alloc _).drewN _), (HX.out.alloc _).drewN _, bd (ba HW.out _) _⟩
        case measure => simp [intOf]; omega
    · obtain rfl : k = n := by omega
      have hK := Lib.hid (show kI L i k = nI (kids L i) from by unfold kI kids; rw [HL.out])
      have hS := Lib.hid (show (kidsTo L i k).length = (kids L i).length from by unfold kids; rw [HL.out])
      have HO2 := HO.out
      rw [hK.out, hS.out] at HO2
      rw [hS.out]
      have HO3 := Lib.hid HO2
      clear HO2
      go_wp2_with fail
      go_ret
      have hf := IOwn.lo_le (lo' := w.heap.size) HO3.out (Nat.le_succ _)
      exact ⟨C, c, rfl, hf, HW.out⟩
set_option maxHeartbeats 1000000 in
theorem childrenOf_any (i : Nat) (nm : ByteArray) (A : Option Addr) (n cap : Nat) (B : Option Addr) (m capb : Nat) (df : Int) (L : List Cl) (w : World) (hl : L.length = n) (hr : IRow w A (flc L)) (hn : n ≤ 1000) (hi : i < n) : Calls Tryd.prog 93 #[.agg #[.string nm, .slice A n cap, .slice B m capb, .int .i64 df], .int .i64 (i : Int)] w fun e w' => ∃ C c, e = .returned (.slice C (kids L i).length c) ∧ IOwn w' w.heap.size w'.heap.size 3 1 C (kids L i).length c (nI (kids L i)) ∧ Below w.heap.size w w' := by
  have HL := Lib.hid hl
  have HR := Lib.hid hr
  have HI := Lib.hid hi
  clear hl hr hi
  go_enter Tryd.func93, Tryd.ntmps93
  go_wp2_with fail
  go_loopw [5, 12] (fun v z wr => ∃ (k : Nat) (C : Option Addr) (c : Nat), k ≤ n ∧ z = .int .i64 k ∧ v = .slice C (kidsTo L i k).length c ∧ IOwn wr (w.heap.size + 1) wr.heap.size 3 1 C (kidsTo L i k).length c (kI L i k) ∧ Bk wr w.heap.size 34 #[.string nm, .slice A n cap, .slice B m capb, .int .i64 df] ∧ Below w.heap.size w wr) (fun _ z _ => n - (intOf z).toNat)
  case atStart => exact ⟨0, _, 0, by omega, rfl, rfl, (by have h := IOwn.lit0 (w.alloc (.cells #[.string nm, .slice A n cap, .slice B m capb, .int .i64 df] 34)) (w.heap.size + 1) 3 1 (by simp); simp only [World.size_alloc] at h; exact IOwn.here h), (Bk.new _ _ _).alloc _, ba (ba (b0 _) _) _⟩
  case round =>
    obtain ⟨k, C, c, hk, rfl, rfl, ho, hbx, hbw⟩ := hrel
    have HO := Lib.hid ho
    have HX := Lib.hid hbx
    have HW := Lib.hid hbw
    have zx := hbx.lt
    clear ho hbx hbw
    by_cases hlt : k < n
    · obtain ⟨g, off, rfl, hg, hcs⟩ := crow (HR.out.below HW.out) (k := k) (by have := HL.out; omega)
      obtain ⟨c0, c1, c2, c3, c4, c5, c6, c7⟩ := hcs k (by have := HL.out; omega)
      obtain ⟨d0, d1, d2, d3, d4, d5, d6, d7⟩ := hcs i (by have := HL.out; have := HI.out; omega)
      have b1 := HX.out.cell 1
      have i0 : (0 : Int) ≤ (i : Int) := by omega
      have i1 : (i : Int) < (n : Int) := by have := HI.out; omega
      have hln : (kidsTo L i k).length ≤ 1099511627776 := by have := kidsTo_len L i k; omega
      have hle := Lib.hid (show ∀ b, decide ((cat L k).pa = (cat L i).id) = b → kid L i k = b from fun b h => h)
      clear hcs d1 d2 d3 d4 d5 d6 d7
      by_cases hh : (cat L k).pa = (cat L i).id
      · have hR := Lib.hid (kI_yes (hle.out true (decide_eq_true hh)))
        have hS := Lib.hid (show (kidsTo L i (k + 1)).length = (kidsTo L i k).length + 1 from by rw [kidsTo_yes (hle.out true (decide_eq_true hh))]; simp)
        clear hle
        generalize (kidsTo L i k).length = j at *
        generalize cat L k = x at *
        generalize cat L i = y at *
        go_wp2_with fail
        go_quiet (fail)
        go_wp2_with (at_builtin; refine append_int rfl _ _ rfl (lo := w.heap.size + 1) (hh := wr.heap.size) (l := kI L i k) rfl (((HO.out.alloc _).drewN _).alloc _) _ (k : Int) rfl ((Bk.new_ (by simp)).cell 0) hln (by simp; omega) ?_; intro C' c' w5 ho5 hb5)
        rw [← hR.out] at ho5
        have HO5 := Lib.hid ho5
        have HX5 := Lib.hid ((((HX.out.alloc _).drewN _).alloc _).below hb5 (by omega))
        have HB5 := Lib.hid ((ba (bd (ba HW.out _) _) _).trans (hb5.mono (by omega)))
        clear ho5 hb5
        go_wp2_with fail
        go_roundw
        case rel => exact ⟨k + 1, C', c', by omega, by go_num, by rw [hS.out], by rw [hS.out]; exact HO5.out, HX5.out, HB5.out⟩
        case measure => simp [intOf]; omega
      · have hR := Lib.hid (kI_no (hle.out false (decide_eq_false hh)))
        have hS := Lib.hid (show (kidsTo L i (k + 1)).length = (kidsTo L i k).length from by rw [kidsTo_no (hle.out false (decide_eq_false hh))])
        have hd : decide ((cat L k).pa = (cat L i).id) = false := decide_eq_false hh
        clear hle
        generalize (kidsTo L i k).length = j at *
        generalize cat L k = x at *
        generalize cat L i = y at *
        go_wp2_with fail
        go_quiet (fail)
        go_wp2_with fail
        go_roundw
        case rel => exact ⟨k + 1, C, c, by omega, by go_num, by rw [hS.out], by rw [hS.out, hR.out]; exact IOwn.here ((HO.out.alloc _).drewN _), (HX.out.alloc _).drewN _, bd (ba HW.out _) _⟩
        case measure => simp [intOf]; omega
    · obtain rfl : k = n := by omega
      have hK := Lib.hid (show kI L i k = nI (kids L i) from by unfold kI kids; rw [HL.out])
      have hS := Lib.hid (show (kidsTo L i k).length = (kids L i).length from by unfold kids; rw [HL.out])
      have HO2 := HO.out
      rw [hK.out, hS.out] at HO2
      rw [hS.out]
      have HO3 := Lib.hid HO2
      clear HO2
      go_wp2_with fail
      go_ret
      have hf := IOwn.lo_le (lo' := w.heap.size) HO3.out (Nat.le_succ _)
      exact ⟨C, c, rfl, hf, HW.out⟩
end Go.Proofs.YtjajddhedahpnaaDoor
