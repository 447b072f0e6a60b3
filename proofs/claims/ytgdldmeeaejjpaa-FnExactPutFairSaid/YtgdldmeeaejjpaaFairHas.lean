/- The contracts of what says whether a scheduler has a packet with an id. -/
import Derived.Test.YtgdldmeeaejjpaaFairLaw
import Derived.Test.YtgdldmeeaejjpaaFairBox
import Derived.Test.YtgdldmeeaejjpaaQueue2
namespace Go.Proofs.Ytgdldmeeaejjpaa
open Go.ChangeShapes Go.WideShapes Go.ChangeAt Go.RowKit
set_option linter.unusedVariables false
def hasF (F : List (List Pk)) (id : Int) (k : Nat) : Bool := hasK (rowF F k) (rowF F k).length id
def fhas (F : List (List Pk)) (id : Int) : Bool := !allB F.length fun k => !hasF F id k
theorem hasF_of {F : List (List Pk)} {k : Nat} {L : List Pk} {id : Int} (h : F[k]? = some L) : hasF F id k = hasK L L.length id := by simp [hasF, rowF_of h]
theorem fhas_hit {F : List (List Pk)} {k : Nat} {id : Int} (hk : k < F.length) (h : hasF F id k = true) : fhas F id = true := by simp [fhas, allB_no (g := fun j => !hasF F id j) hk (by simp [h])]
theorem fhas_none {F : List (List Pk)} {n : Nat} {id : Int} (hn : F.length = n) (h : ∀ i, i < n → hasF F id i = false) : fhas F id = false := by
  subst hn
  simp [fhas, allB_yes (g := fun j => !hasF F id j) (n := F.length) fun i hi => by simp [h i hi]]
theorem quI_has {L : List Pk} {id : Int} : decide (0 ≤ quI L id) = hasK L L.length id := by
  have h := quI_neg (L := L) (id := id)
  rcases hh : hasK L L.length id with _ | _
  · rw [hh] at h
    exact decide_eq_false (by have := of_decide_eq_true h; omega)
  · rw [hh] at h
    exact decide_eq_true (by have := of_decide_eq_false h; omega)
set_option maxHeartbeats 1000000 in
theorem faHas_any (id : Int) (qu li : Int) (A : Option Addr) (n cap : Nat) (B : Option Addr) (m capd : Nat) (nx : Int) (op : Bool) (F : List (List Pk)) (D : List Int) (w : World) (hr : FRow w ⟨A, n, cap, B, m, capd⟩ (F.map fl) D) (hn : n ≤ 1048576) (hm : m ≤ 1048576) (hF : ∀ (k : Nat) (L : List Pk), F[k]? = some L → L.length ≤ 1048576) :
    Calls Try.prog 88 #[.agg #[.int .i64 qu, .int .i64 li, .slice A n cap, .slice B m capd, .int .i64 nx, .bool op], .int .i64 id] w fun e w' => e = .returned (.bool (fhas F id)) ∧ Below w.heap.size w w' := by
  have HFN := Lib.hid (show F.length = n by simpa using hr.qn)
  have HR := Lib.hid (fun (W : World) (hb : Below w.heap.size w W) => hr.below hb)
  have HF := Lib.hid hF
  clear hr hF
  go_enter Try.func88, Try.ntmps88
  go_wp2_with fail
  go_loopw [10] (fun i wr => ∃ k : Nat, k ≤ n ∧ i = .int .i64 k ∧ (∀ j, j < k → hasF F id j = false) ∧ Below w.heap.size w wr) (fun i _ => n - (intOf i).toNat)
  case atStart => exact ⟨0, Nat.zero_le _, rfl, none_zero, ba (b0 _) _⟩
  case round =>
    obtain ⟨k, hk, rfl, hall, hbw⟩ := hrel
    have HA := Lib.hid hall
    clear hall
    by_cases hlt : k < n
    · obtain ⟨L, hkl⟩ : ∃ L, F[k]? = some L := ⟨_, List.getElem?_eq_getElem (by rw [HFN.out]; exact hlt)⟩
      obtain ⟨g, off, X, x, xc, rfl, hgl, hck, hxl, hxc, hx0, hxr⟩ := (HR.out _ hbw).q.at_ (k := k) (l := fl L) (by simp [hkl])
      obtain rfl : L.length = x := by rw [fl_len] at hxl; omega
      have hl6 := HF.out k L hkl
      have HX := Lib.hid hxr
      have HP := Lib.hid (hasF_of (id := id) hkl)
      have HQ := Lib.hid (quI_has (L := L) (id := id))
      clear hkl hxl hxr
      obtain ⟨q, hq⟩ : ∃ q, quI L id = q := ⟨_, rfl⟩
      rw [hq] at HQ
      rcases hh : hasK L L.length id with _ | _
      · have hR := Lib.hid (none_succ HA.out (HP.out.trans hh))
        have hd : decide (0 ≤ q) = false := HQ.out.trans hh
        have HQQ := Lib.hid hq
        clear hq
        go_wp2_with fail
        refine (quAt_any _ _ _ L id _ rfl HX.out (by omega)).mono ?_
        rw [HQQ.out]
        rintro e w1 ⟨rfl, hg⟩
        go_wp2_with fail
        go_roundw
        case rel => exact ⟨k + 1, by omega, by go_num, hR.out, bt hbw hg⟩
        case measure => simp [intOf]; omega
      · have hR := Lib.hid (fhas_hit (F := F) (k := k) (by rw [HFN.out]; exact hlt) (HP.out.trans hh))
        have hd : decide (0 ≤ q) = true := HQ.out.trans hh
        have HQQ := Lib.hid hq
        clear hq
        go_wp2_with fail
        refine (quAt_any _ _ _ L id _ rfl HX.out (by omega)).mono ?_
        rw [HQQ.out]
        rintro e w1 ⟨rfl, hg⟩
        go_wp2_with fail
        go_ret
        exact ⟨by rw [hR.out]; rfl, bt hbw hg⟩
    · obtain rfl : k = n := by omega
      have hR := Lib.hid (fhas_none HFN.out HA.out)
      go_wp2_with fail
      go_ret
      exact ⟨by rw [hR.out]; rfl, hbw⟩
/-! ### The program's -/
theorem has1_any {b : Bool} (A : Option Addr) (n cap : Nat) (L : List Pk) (id : Int) (B : Nat) (w : World) (hl : L.length = n) (hr : IRow w A (fl L)) (hn : n ≤ 1048576) (hc : w.cell? ⟨B, 0, none⟩ = some (.int .i64 id)) (h : hasK L n id = b) :
    Calls Try.prog 108 #[.slice A n cap, .pointer (some ⟨B, 0, none⟩)] w fun e w' => e = .returned (.bool b) ∧ Below w.heap.size w w' := by
  have HL := Lib.hid hl
  have HR := Lib.hid hr
  clear hl hr
  go_enter Try.func108, Try.ntmps108
  go_wp2_with fail
  refine (hasId_b _ _ _ L id _ HL.out HR.out (by omega) h).mono ?_
  rintro e w1 ⟨rfl, hg⟩
  go_wp2_with fail
  go_ret
  exact ⟨rfl, hg⟩
def fidx (F : List (List Pk)) (id : Int) : Int := fstI F.length (hasF F id)
theorem fidx_has {F : List (List Pk)} {id : Int} : decide (0 ≤ fidx F id) = fhas F id := by
  rcases fstI_cases F.length (hasF F id) with ⟨k, hk, h1, h2, h3⟩ | ⟨h1, h3⟩
  · rw [fhas_hit hk h1]
    exact decide_eq_true (by unfold fidx; omega)
  · rw [fhas_none rfl h1]
    exact decide_eq_false (by unfold fidx; omega)
set_option maxHeartbeats 1000000 in
theorem indexFuncF_any (A : Option Addr) (n cap : Nat) (F : List (List Pk)) (id : Int) (B : Nat) (w : World) (hc : w.cell? ⟨B, 0, none⟩ = some (.int .i64 id)) (hl : F.length = n) (hr : NRow w A (F.map fl)) (hn : n ≤ 1048576) (hF : ∀ (k : Nat) (L : List Pk), F[k]? = some L → L.length ≤ 1048576) :
    Calls Try.prog 111 #[.slice A n cap, .func (.func 108) #[] #[.pointer (some ⟨B, 0, none⟩)]] w fun e w' => e = .returned (.int .i64 (fidx F id)) ∧ Below w.heap.size w w' := by
  have HFN := Lib.hid hl
  have HR := Lib.hid (fun (W : World) (hb : Below w.heap.size w W) => hr.below hb)
  have HF := Lib.hid hF
  have HC := Lib.hid (fun (W : World) (hb : Below w.heap.size w W) => (hb.cell (p := ⟨B, 0, none⟩) (World.block_lt_of_cell? w _ hc)).trans hc)
  clear hl hr hc hF
  go_enter Try.func111, Try.ntmps111
  go_wp2_with fail
  go_loopw [8] (fun i wr => ∃ k : Nat, k ≤ n ∧ i = .int .i64 k ∧ (∀ j, j < k → hasF F id j = false) ∧ Below w.heap.size w wr) (fun i _ => n - (intOf i).toNat)
  case atStart => exact ⟨0, Nat.zero_le _, rfl, none_zero, b0 _⟩
  case round =>
    obtain ⟨k, hk, rfl, hall, hbw⟩ := hrel
    have HA := Lib.hid hall
    clear hall
    by_cases hlt : k < n
    · obtain ⟨L, hkl⟩ : ∃ L, F[k]? = some L := ⟨_, List.getElem?_eq_getElem (by rw [HFN.out]; exact hlt)⟩
      obtain ⟨g, off, X, x, xc, rfl, hgl, hck, hxl, hxc, hx0, hxr⟩ := (HR.out _ hbw).at_ (k := k) (l := fl L) (by simp [hkl])
      obtain rfl : L.length = x := by rw [fl_len] at hxl; omega
      have hl6 := HF.out k L hkl
      have HX := Lib.hid hxr
      have HP := Lib.hid (hasF_of (id := id) hkl)
      clear hkl hxl hxr
      rcases hh : hasK L L.length id with _ | _
      · have hR := Lib.hid (none_succ HA.out (HP.out.trans hh))
        go_wp2_with fail
        refine (has1_any _ _ _ L id _ _ rfl HX.out hl6 (HC.out _ hbw) hh).mono ?_
        rintro e w1 ⟨rfl, hg1⟩
        go_wp2_with fail
        go_roundw
        case rel => exact ⟨k + 1, by omega, by go_num, hR.out, bt hbw hg1⟩
        case measure => simp [intOf]; omega
      · have hR := Lib.hid (show fidx F id = k from fstI_hit (by rw [HFN.out]; exact hlt) HA.out (HP.out.trans hh))
        go_wp2_with fail
        refine (has1_any _ _ _ L id _ _ rfl HX.out hl6 (HC.out _ hbw) hh).mono ?_
        rintro e w1 ⟨rfl, hg1⟩
        go_wp2_with fail
        go_ret
        exact ⟨by rw [hR.out]; rfl, bt hbw hg1⟩
    · obtain rfl : k = n := by omega
      have hR := Lib.hid (show fidx F id = -1 from fstI_none (by rw [HFN.out]; exact HA.out))
      go_wp2_with fail
      go_ret
      exact ⟨by rw [hR.out]; rfl, hbw⟩
theorem fairHas_any (id : Int) (Q : Nat) (qu li : Int) (A : Option Addr) (n cap : Nat) (B : Option Addr) (m capd : Nat) (nx : Int) (op : Bool) (F : List (List Pk)) (D : List Int) (w : World) (hq : w.cell? ⟨Q, 2, none⟩ = some (.slice A n cap)) (hr : FRow w ⟨A, n, cap, B, m, capd⟩ (F.map fl) D) (hn : n ≤ 1048576) (hm : m ≤ 1048576) (hF : ∀ (k : Nat) (L : List Pk), F[k]? = some L → L.length ≤ 1048576) :
    Calls Try.prog 90 #[.pointer (some ⟨Q, 0, none⟩), .int .i64 id] w fun e w' => e = .returned (.bool (fhas F id)) ∧ Below w.heap.size w w' := by
  have HFN := Lib.hid (show F.length = n by simpa using hr.qn)
  have HR := Lib.hid (fun (W : World) (hb : Below w.heap.size w W) => hr.below hb)
  have HF := Lib.hid hF
  have HQ := Lib.hid (fidx_has (F := F) (id := id))
  have hQs := World.block_lt_of_cell? w _ hq
  clear hr hF
  obtain ⟨q, hqq⟩ : ∃ q, fidx F id = q := ⟨_, rfl⟩
  rw [hqq] at HQ
  have HQQ := Lib.hid hqq
  clear hqq
  go_enter Try.func90, Try.ntmps90
  go_wp2_with fail
  go_in
  go_wp2_with fail
  refine (indexFuncF_any _ _ _ F id _ _ (by simp) HFN.out (HR.out _ (ba (b0 w) _)).q hn HF.out).mono ?_
  rw [HQQ.out]
  rintro e w1 ⟨rfl, hg⟩
  go_wp2_with fail
  all_goals
    go_ret
    exact ⟨ret_b HQ.out, (by repeat (first | (with_reducible exact b0 _) | (with_reducible refine ba ?_ _) | (with_reducible refine bd ?_ _) | (with_reducible refine Below.drew ?_) | (with_reducible refine bs ?_ (by first | exact Nat.le_refl _ | exact Nat.le_add_right _ _ | omega) _) | (with_reducible refine bt ?_ (by assumption))))⟩
end Go.Proofs.Ytgdldmeeaejjpaa
