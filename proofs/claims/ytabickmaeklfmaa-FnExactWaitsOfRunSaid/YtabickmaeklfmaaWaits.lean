/- The contracts of WaitsOfRun and DropTimes: what the call returns; old memory is left as it was. -/
import Derived.Test.YtabickmaeklfmaaDelayLists
import Derived.StillTailTactics
import Derived.Deep.RegionHeld3
namespace Go.Proofs.Ytabickmaeklfmaa
open Go.ChangeShapes Go.WideShapes Go.ChangeAt Go.RowKit
set_option linter.unusedVariables false
theorem calls_flip {P : Program} {f : FuncId} {args : Array Value} {w : World} {v : Value} (h : Calls P f args w fun e w' => e = .returned v ∧ w = w') : Calls P f args w fun e w' => e = .returned v ∧ w' = w := h.mono fun _ _ ⟨a, b⟩ => ⟨a, b.symm⟩
theorem quiet_flip {P : Program} {f : FuncId} {args : Array Value} {w : World} {n : Nat} {v : Value} (h : Calls P f args (w.drewN n) fun e w' => e = .returned v ∧ w.drewN n = w') : Calls P f args (w.drewN n) fun e w'' => e = .returned v ∧ ∃ m, w'' = w.drewN m :=
  h.mono fun _ _ ⟨a, b⟩ => ⟨a, n, b.symm⟩
theorem IOwn.drew {w : World} {lo hi e s : Nat} {A : Option Addr} {n cap : Nat} {l : List Int} (h : IOwn w lo hi e s A n cap l) : IOwn w.drew lo hi e s A n cap l := h
def lef (n : Int) : Int := if n < 0 then -1 - n else n
theorem lef_bound {n : Int} (h1 : -100001 ≤ n) (h2 : n ≤ 100000) : 0 ≤ lef n ∧ lef n ≤ 100000 := by unfold lef; split <;> omega
theorem cdLeft_any (n : Int) (w : World) (h1 : -100001 ≤ n) (h2 : n ≤ 100000) : Calls Try.prog 45 #[.int .i64 n] w fun e w' => e = .returned (.int .i64 (lef n)) ∧ w = w' := by
  by_cases h : n < 0
  · have hR := Lib.hid (show lef n = -1 - n by simp [lef, h])
    go_enter Try.func45, Try.ntmps45
    go_wp2
    go_ret
    exact ⟨by rw [hR.out]; rfl, rfl⟩
  · have hR := Lib.hid (show lef n = n by simp [lef, h])
    go_enter Try.func45, Try.ntmps45
    go_wp2
    go_ret
    exact ⟨by rw [hR.out]; rfl, rfl⟩
def Wt (a l : List Int) (k : Nat) : Prop := ∀ i, i < k → (-100001 ≤ l[i]?.getD 0 ∧ l[i]?.getD 0 ≤ 100000) ∧ a[i]?.getD 0 ≤ lef (l[i]?.getD 0)
theorem Wt.succ {a l : List Int} {k : Nat} (h : Wt a l k) (h1 : (-100001 ≤ l[k]?.getD 0 ∧ l[k]?.getD 0 ≤ 100000) ∧ a[k]?.getD 0 ≤ lef (l[k]?.getD 0)) : Wt a l (k + 1) := fun i hi => by
  rcases Nat.lt_succ_iff_lt_or_eq.1 hi with h' | rfl
  · exact h i h'
  · exact h1
def waits (a l : List Int) (k : Nat) : List Int := (List.range k).map fun i => lef (l[i]?.getD 0) - a[i]?.getD 0
theorem waits_succ (a l : List Int) (k : Nat) : waits a l (k + 1) = waits a l k ++ [lef (l[k]?.getD 0) - a[k]?.getD 0] := by simp [waits, List.range_succ]
open Classical in
noncomputable def woR (a l : List Int) : List Int × Bool := if arrB a = true ∧ l.length = a.length ∧ Wt a l l.length then (waits a l l.length, true) else ([], false)
theorem specWaitsOfRun_any (A B : Option Addr) (n m cap cap' : Nat) (a l : List Int) (w : World) (ha : a.length = n) (hl : l.length = m) (hr : IRow w A a) (hs : IRow w B l) (hn : n ≤ 9223372036854775807) (hm : m ≤ 9223372036854775807) (hib : IBs l) :
    Calls Try.prog 30 #[.slice A n cap, .slice B m cap'] w (NewIntsB w (woR a l).1 (woR a l).2) := by
  have HN := Lib.hid ha
  have HL := Lib.hid hl
  have HR := Lib.hid hr
  have HS := Lib.hid hs
  have HI := Lib.hid hib
  clear hr hs hib
  rcases h1 : arrB a with _ | _
  · have hR := Lib.hid (show woR a l = ([], false) by simp [woR, h1])
    clear ha hl
    rw [hR.out]
    go_enter Try.func30, Try.ntmps30
    go_wp2_with (go_at_call 44; refine (cdArrivals_any _ _ _ a _ HN.out HR.out (by omega)).mono ?_; rintro e w' ⟨rfl, rfl⟩)
    go_ret2
    exact NewIntsB.none_ rfl (by repeat (first | (with_reducible exact b0 _) | (with_reducible refine ba ?_ _) | (with_reducible refine bd ?_ _) | (with_reducible refine Below.drew ?_) | (with_reducible refine bs ?_ (by first | exact Nat.le_refl _ | exact Nat.le_add_right _ _ | omega) _) | (with_reducible refine bt ?_ (by assumption))))
  have hA := arrB_iff.1 h1
  rw [ha] at hA
  have HA := Lib.hid hA.2
  have h40 := hA.1
  clear hA
  by_cases h2 : m = n
  rotate_left
  · have hR := Lib.hid (show woR a l = ([], false) by simp [woR, ha, hl, h2])
    clear ha hl
    rw [hR.out]
    have h2' : ((m : Int) != (n : Int)) = true := by simp; omega
    have h2'' : ¬ (m : Int) = (n : Int) := by omega
    clear h2
    go_enter Try.func30, Try.ntmps30
    go_wp2_with (go_at_call 44; refine (cdArrivals_any _ _ _ a _ HN.out HR.out (by omega)).mono ?_; rintro e w' ⟨rfl, rfl⟩)
    go_ret2
    exact NewIntsB.none_ rfl (by repeat (first | (with_reducible exact b0 _) | (with_reducible refine ba ?_ _) | (with_reducible refine bd ?_ _) | (with_reducible refine Below.drew ?_) | (with_reducible refine bs ?_ (by first | exact Nat.le_refl _ | exact Nat.le_add_right _ _ | omega) _) | (with_reducible refine bt ?_ (by assumption))))
  subst h2
  clear ha hl
  go_enter Try.func30, Try.ntmps30
  go_wp2_with (go_at_call 44; refine (cdArrivals_any _ _ _ a _ HN.out HR.out (by omega)).mono ?_; rintro e w' ⟨rfl, rfl⟩)
  go_loopw [6, 21] (fun v i wr => ∃ (k : Nat) (C : Option Addr) (c : Nat), k ≤ m ∧ i = .int .i64 k ∧ v = .slice C k c ∧ Wt a l k ∧ IOwn wr w.heap.size wr.heap.size 3 1 C k c (waits a l k) ∧ Below w.heap.size w wr) (fun _ i _ => m - (intOf i).toNat)
  case atStart => exact ⟨0, none, 0, Nat.zero_le _, rfl, rfl, fun j hj => by omega, IOwn.none_ _ _ _ _ _, b0 _⟩
  case round =>
    obtain ⟨k, C, c, hk, rfl, rfl, hw, hown, hb⟩ := hrel
    have HO := Lib.hid hown
    have HW := Lib.hid hw
    clear hown hw
    have zb := hb.size
    by_cases hlt : k < m
    · obtain ⟨g, off, rfl, hg0, hc0⟩ := HR.out.at_ (k := k) (by rw [HN.out]; exact hlt)
      have hck : wr.cell? ⟨g, off + k, none⟩ = some (.int .i64 (a[k]?.getD 0)) := (hb.cell (p := ⟨g, off + k, none⟩) hg0).trans (hc0 k (by rw [HN.out]; exact hlt))
      have hg : g < wr.heap.size := by omega
      obtain ⟨g', off', rfl, hg', hc'⟩ := (HS.out.below hb).at_ (k := k) (by rw [HL.out]; exact hlt)
      have hck' := hc' k (by rw [HL.out]; exact hlt)
      clear hc0 hc'
      have hlt' : (k : Int) < (m : Int) := by omega
      have htk : tickP (a[k]?.getD 0) = true := (HA.out k hlt).1
      have htk' : 0 ≤ a[k]?.getD 0 ∧ a[k]?.getD 0 ≤ 100000 := by simpa [tickP] using htk
      clear htk
      have HT := Lib.hid (waits_succ a l k)
      by_cases hin : -100001 ≤ l[k]?.getD 0 ∧ l[k]?.getD 0 ≤ 100000
      · have hd : decide (-100001 ≤ l[k]?.getD 0 ∧ l[k]?.getD 0 ≤ 100000) = true := by simpa using hin
        have lb := lef_bound hin.1 hin.2
        by_cases hle : a[k]?.getD 0 ≤ lef (l[k]?.getD 0)
        · have HS' := Lib.hid (HW.out.succ ⟨hin, hle⟩)
          generalize l[k]?.getD 0 = x at *
          generalize a[k]?.getD 0 = y at *
          go_wp2_with fail
          go_quiet ((first | (go_at_call 38; exact quiet_flip (l1In_any _ _ _ _)) | (go_at_call 45; exact quiet_flip (cdLeft_any _ _ hin.1 hin.2))))
          go_wp2_with fail
          obtain ⟨wd, hwd⟩ : ∃ wd, wd = wr.drewN nq := ⟨_, rfl⟩
          rw [← hwd]
          have HBD := Lib.hid (show Below w.heap.size w wd by rw [hwd]; exact bd hb nq)
          have HOD := Lib.hid (show IOwn wd w.heap.size wd.heap.size 3 1 C k c (waits a l k) by rw [hwd]; exact HO.out)
          have hckd : wd.cell? ⟨g, off + k, none⟩ = some (.int .i64 y) := by rw [hwd]; exact hck
          have zd := HBD.out.size
          clear hwd
          have hgd : g < wd.heap.size := by omega
          have hsub : IntKind.i64.wrap (lef x - y) = lef x - y := IntWalk.i64_in _ (by omega)
          go_region_held3 (fun w' => w'.cell? ⟨g, off + k, none⟩ = some (.int .i64 y)) (first | go_keep | exact (hb3.cell (p := ⟨g, off + k, none⟩) hg0).trans (by assumption))
            (first
              | (go_at_call 45; refine (cdLeft_any _ _ hin.1 hin.2).mono ?_; rintro e w' ⟨rfl, rfl⟩)
              | (refine step_append_int (by rfl) _ _ (by rfl) (lo := w.heap.size) (hh := wd.heap.size + 1) (l := waits a l k) (by rfl) (((HOD.out.below (ba (b0 wd) _) (Nat.le_refl _)).more (by omega)).drew) wd.heap.size (lef x - y) (by rfl) (by go_simp) (by omega) (by simp; omega) ?_; intro C' c' w4 ho3 hb3))
          clear hsub
          rw [← HT.out] at ho3
          have HO3 := Lib.hid ho3
          clear ho3
          go_wp2_with fail
          go_roundw
          case rel => exact ⟨k + 1, C', c', by omega, by go_num, rfl, HS'.out, HO3.out, (ba HBD.out _).drew.trans hb3⟩
          case measure => simp [intOf]; omega
        · have hR := Lib.hid (show woR a l = ([], false) by rw [woR, if_neg (fun h => hle (h.2.2 k (by rw [HL.out]; exact hlt)).2)])
          have hlt2 : lef (l[k]?.getD 0) < a[k]?.getD 0 := by omega
          generalize l[k]?.getD 0 = x at *
          generalize a[k]?.getD 0 = y at *
          go_wp2_with fail
          go_quiet ((first | (go_at_call 38; exact quiet_flip (l1In_any _ _ _ _)) | (go_at_call 45; exact quiet_flip (cdLeft_any _ _ hin.1 hin.2))))
          go_wp2_with fail
          go_ret2
          rw [hR.out]
          exact NewIntsB.none_ rfl (bd hb _)
      · have hR := Lib.hid (show woR a l = ([], false) by rw [woR, if_neg (fun h => hin (h.2.2 k (by rw [HL.out]; exact hlt)).1)])
        have hd : decide (-100001 ≤ l[k]?.getD 0 ∧ l[k]?.getD 0 ≤ 100000) = false := by simpa using hin
        generalize l[k]?.getD 0 = x at *
        generalize a[k]?.getD 0 = y at *
        go_wp2_with fail
        go_quiet ((first | (go_at_call 38; exact quiet_flip (l1In_any _ _ _ _))))
        go_wp2_with fail
        go_ret2
        rw [hR.out]
        exact NewIntsB.none_ rfl (bd hb _)
    · obtain rfl : k = m := by omega
      have hR := Lib.hid (show woR a l = (waits a l k, true) by rw [woR, if_pos ⟨h1, by rw [HL.out, HN.out], by rw [HL.out]; exact HW.out⟩, HL.out])
      go_wp2_with fail
      go_ret2
      rw [hR.out]
      exact ⟨C, k, c, rfl, HO.out, hb⟩
theorem implWaitsOfRun_any (A B : Option Addr) (n m cap cap' : Nat) (a l : List Int) (w : World) (ha : a.length = n) (hl : l.length = m) (hr : IRow w A a) (hs : IRow w B l) (hn : n ≤ 9223372036854775807) (hm : m ≤ 9223372036854775807) (hib : IBs l) :
    Calls Try.prog 31 #[.slice A n cap, .slice B m cap'] w (NewIntsB w (woR a l).1 (woR a l).2) := by
  have HN := Lib.hid ha
  have HL := Lib.hid hl
  have HR := Lib.hid hr
  have HS := Lib.hid hs
  have HI := Lib.hid hib
  clear hr hs hib
  rcases h1 : arrB a with _ | _
  · have hR := Lib.hid (show woR a l = ([], false) by simp [woR, h1])
    clear ha hl
    rw [hR.out]
    go_enter Try.func31, Try.ntmps31
    go_wp2_with (go_at_call 46; refine (areArrivals_any _ _ _ a _ HN.out HR.out (by omega)).mono ?_; rintro e w' ⟨rfl, rfl⟩)
    go_ret2
    exact NewIntsB.none_ rfl (by repeat (first | (with_reducible exact b0 _) | (with_reducible refine ba ?_ _) | (with_reducible refine bd ?_ _) | (with_reducible refine Below.drew ?_) | (with_reducible refine bs ?_ (by first | exact Nat.le_refl _ | exact Nat.le_add_right _ _ | omega) _) | (with_reducible refine bt ?_ (by assumption))))
  have hA := arrB_iff.1 h1
  rw [ha] at hA
  have HA := Lib.hid hA.2
  have h40 := hA.1
  clear hA
  by_cases h2 : m = n
  rotate_left
  · have hR := Lib.hid (show woR a l = ([], false) by simp [woR, ha, hl, h2])
    clear ha hl
    rw [hR.out]
    have h2' : ((m : Int) != (n : Int)) = true := by simp; omega
    have h2'' : ¬ (m : Int) = (n : Int) := by omega
    clear h2
    go_enter Try.func31, Try.ntmps31
    go_wp2_with (go_at_call 46; refine (areArrivals_any _ _ _ a _ HN.out HR.out (by omega)).mono ?_; rintro e w' ⟨rfl, rfl⟩)
    go_ret2
    exact NewIntsB.none_ rfl (by repeat (first | (with_reducible exact b0 _) | (with_reducible refine ba ?_ _) | (with_reducible refine bd ?_ _) | (with_reducible refine Below.drew ?_) | (with_reducible refine bs ?_ (by first | exact Nat.le_refl _ | exact Nat.le_add_right _ _ | omega) _) | (with_reducible refine bt ?_ (by assumption))))
  subst h2
  clear ha hl
  go_enter Try.func31, Try.ntmps31
  go_wp2_with (go_at_call 46; refine (areArrivals_any _ _ _ a _ HN.out HR.out (by omega)).mono ?_; rintro e w' ⟨rfl, rfl⟩)
  go_loopw [6, 22] (fun v i wr => ∃ (k : Nat) (C : Option Addr) (c : Nat), k ≤ m ∧ i = .int .i64 k ∧ v = .slice C k c ∧ Wt a l k ∧ IOwn wr w.heap.size wr.heap.size 3 1 C k c (waits a l k) ∧ Below w.heap.size w wr) (fun _ i _ => m - (intOf i).toNat)
  case atStart => exact ⟨0, _, 0, Nat.zero_le _, rfl, rfl, fun j hj => by omega, (IOwn.lit0 w _ 3 1 (Nat.le_refl _)).here, ba (b0 _) _⟩
  case round =>
    obtain ⟨k, C, c, hk, rfl, rfl, hw, hown, hb⟩ := hrel
    have HO := Lib.hid hown
    have HW := Lib.hid hw
    clear hown hw
    have zb := hb.size
    by_cases hlt : k < m
    · obtain ⟨g, off, rfl, hg, hc⟩ := (HR.out.below hb).at_ (k := k) (by rw [HN.out]; exact hlt)
      have hck := hc k (by rw [HN.out]; exact hlt)
      obtain ⟨g', off', rfl, hg', hc'⟩ := (HS.out.below hb).at_ (k := k) (by rw [HL.out]; exact hlt)
      have hck' := hc' k (by rw [HL.out]; exact hlt)
      clear hc hc'
      have hlt' : (k : Int) < (m : Int) := by omega
      have htk : tickP (a[k]?.getD 0) = true := (HA.out k hlt).1
      have htk' : 0 ≤ a[k]?.getD 0 ∧ a[k]?.getD 0 ≤ 100000 := by simpa [tickP] using htk
      clear htk
      have HT := Lib.hid (waits_succ a l k)
      have hib := HI.out k
      have HK := Lib.hid (show lef (l[k]?.getD 0) = if l[k]?.getD 0 < 0 then -1 - l[k]?.getD 0 else l[k]?.getD 0 from rfl)
      have HW1 := Lib.hid (fun h => HW.out.succ (k := k) h)
      have HR1 := Lib.hid (fun (h : ¬ ((-100001 ≤ l[k]?.getD 0 ∧ l[k]?.getD 0 ≤ 100000) ∧ a[k]?.getD 0 ≤ lef (l[k]?.getD 0))) => show woR a l = ([], false) by rw [woR, if_neg (fun h' => h (h'.2.2 k (by rw [HL.out]; exact hlt)))])
      have HR2 := Lib.hid (show tickP (lef (l[k]?.getD 0)) = decide (-100001 ≤ l[k]?.getD 0 ∧ l[k]?.getD 0 ≤ 100000) by
        have e := HK.out
        unfold tickP
        exact decide_eq_decide.2 (by rw [e]; split <;> omega))
      generalize l[k]?.getD 0 = x at *
      generalize a[k]?.getD 0 = y at *
      generalize hlx : lef x = z at *
      clear hlx
      by_cases hneg : x < 0
      · obtain rfl : z = -1 - x := HK.out.trans (if_pos hneg)
        rcases htz : tickP (-1 - x) with _ | _
        · have hR := Lib.hid (HR1.out (fun h => by have := HR2.out; rw [htz] at this; simp at this; omega))
          go_wp2_with (go_at_call 47; refine (isTicks_any _ _).mono ?_; rintro e w' ⟨rfl, rfl⟩)
          go_ret2
          rw [hR.out]
          exact NewIntsB.none_ rfl hb
        · have hz : 0 ≤ -1 - x ∧ -1 - x ≤ 100000 := by simpa [tickP] using htz
          by_cases hle : y ≤ -1 - x
          · have HS' := Lib.hid (HW1.out ⟨by omega, hle⟩)
            go_wp2_with (first | (go_at_call 47; refine (isTicks_any _ _).mono ?_; rintro e w' ⟨rfl, rfl⟩) | (at_builtin; refine append_int rfl _ _ rfl (lo := w.heap.size) (hh := wr.heap.size + 1) (l := waits a l k) rfl ((HO.out.below (ba (b0 wr) _) (Nat.le_refl _)).more (by omega)) wr.heap.size (-1 - x - y) rfl (by simp) (by omega) (by simp; omega) ?_; intro C' c' w4 ho3 hb3; rw [← HT.out] at ho3; have HO3 := Lib.hid ho3; clear ho3))
            go_roundw
            case rel => exact ⟨k + 1, C', c', by omega, by go_num, rfl, HS'.out, HO3.out, (ba hb _).trans hb3⟩
            case measure => simp [intOf]; omega
          · have hR := Lib.hid (HR1.out (fun h => hle h.2))
            have hlt2 : -1 - x < y := by omega
            go_wp2_with (go_at_call 47; refine (isTicks_any _ _).mono ?_; rintro e w' ⟨rfl, rfl⟩)
            go_ret2
            rw [hR.out]
            exact NewIntsB.none_ rfl hb
      · obtain rfl : z = x := HK.out.trans (if_neg hneg)
        rcases htz : tickP z with _ | _
        · have hR := Lib.hid (HR1.out (fun h => by have := HR2.out; rw [htz] at this; simp at this; omega))
          go_wp2_with (go_at_call 47; refine (isTicks_any _ _).mono ?_; rintro e w' ⟨rfl, rfl⟩)
          go_ret2
          rw [hR.out]
          exact NewIntsB.none_ rfl hb
        · have hz : 0 ≤ z ∧ z ≤ 100000 := by simpa [tickP] using htz
          by_cases hle : y ≤ z
          · have HS' := Lib.hid (HW1.out ⟨by omega, hle⟩)
            go_wp2_with (first | (go_at_call 47; refine (isTicks_any _ _).mono ?_; rintro e w' ⟨rfl, rfl⟩) | (at_builtin; refine append_int rfl _ _ rfl (lo := w.heap.size) (hh := wr.heap.size + 1) (l := waits a l k) rfl ((HO.out.below (ba (b0 wr) _) (Nat.le_refl _)).more (by omega)) wr.heap.size (z - y) rfl (by simp) (by omega) (by simp; omega) ?_; intro C' c' w4 ho3 hb3; rw [← HT.out] at ho3; have HO3 := Lib.hid ho3; clear ho3))
            go_roundw
            case rel => exact ⟨k + 1, C', c', by omega, by go_num, rfl, HS'.out, HO3.out, (ba hb _).trans hb3⟩
            case measure => simp [intOf]; omega
          · have hR := Lib.hid (HR1.out (fun h => hle h.2))
            have hlt2 : z < y := by omega
            go_wp2_with (go_at_call 47; refine (isTicks_any _ _).mono ?_; rintro e w' ⟨rfl, rfl⟩)
            go_ret2
            rw [hR.out]
            exact NewIntsB.none_ rfl hb
    · obtain rfl : k = m := by omega
      have hR := Lib.hid (show woR a l = (waits a l k, true) by rw [woR, if_pos ⟨h1, by rw [HL.out, HN.out], by rw [HL.out]; exact HW.out⟩, HL.out])
      go_wp2_with fail
      go_ret2
      rw [hR.out]
      exact ⟨C, k, c, rfl, HO.out, hb⟩

/-! ### DropTimes -/
noncomputable def gapSum (i : Int) : Nat → Int
  | 0 => 0
  | k + 1 => gapSum i k + gap i (k + 1)
theorem gapSum_bound {i : Int} (h1 : 1 ≤ i) (h2 : i ≤ 10000) (k : Nat) : 0 ≤ gapSum i k ∧ gapSum i k ≤ 10000 * k := by
  induction k with
  | zero => simp [gapSum]
  | succ k ih =>
    have := gap_bound (c := (k : Int) + 1) h1 h2 (by omega)
    rw [gapSum]
    omega
noncomputable def times (i : Int) (k : Nat) : List Int := (List.range k).map fun j => gapSum i (j + 1)
theorem times_succ (i : Int) (k : Nat) : times i (k + 1) = times i k ++ [gapSum i (k + 1)] := by simp [times, List.range_succ]
noncomputable def dtR (i n : Int) : List Int × Bool := if (1 ≤ i ∧ i ≤ 10000) ∧ 0 ≤ n ∧ n ≤ 40 then (times i n.toNat, true) else ([], false)
theorem specDropTimes_any (i n : Int) (w : World) :
    Calls Try.prog 26 #[.int .i64 i, .int .i64 n] w (NewIntsB w (dtR i n).1 (dtR i n).2) := by
  by_cases h : (1 ≤ i ∧ i ≤ 10000) ∧ 0 ≤ n ∧ n ≤ 40
  rotate_left
  · have hR := Lib.hid (show dtR i n = ([], false) by rw [dtR, if_neg h])
    rw [hR.out]
    go_enter Try.func26, Try.ntmps26
    go_wp2_with (first | (go_at_call 38; refine (l1In_any _ _ _ _).mono ?_; rintro e w' ⟨rfl, rfl⟩) | (go_at_call 41; refine (cdInterval_any _ _).mono ?_; rintro e w' ⟨rfl, rfl⟩))
    all_goals first | (go_ret2; exact NewIntsB.none_ rfl (by repeat (first | (with_reducible exact b0 _) | (with_reducible refine ba ?_ _) | (with_reducible refine bd ?_ _) | (with_reducible refine Below.drew ?_) | (with_reducible refine bs ?_ (by first | exact Nat.le_refl _ | exact Nat.le_add_right _ _ | omega) _) | (with_reducible refine bt ?_ (by assumption))))) | (exfalso; simp at *; omega)
  obtain ⟨⟨h1, h2⟩, h3, h4⟩ := h
  obtain ⟨m, rfl⟩ := Int.eq_ofNat_of_zero_le h3
  have hR := Lib.hid (show dtR i m = (times i m, true) by rw [dtR, if_pos ⟨⟨h1, h2⟩, h3, h4⟩]; simp)
  rw [hR.out]
  go_enter Try.func26, Try.ntmps26
  go_wp2_with (first | (go_at_call 38; refine (l1In_any _ _ _ _).mono ?_; rintro e w' ⟨rfl, rfl⟩) | (go_at_call 41; refine (cdInterval_any _ _).mono ?_; rintro e w' ⟨rfl, rfl⟩))
  go_loopw [6, 7, 8] (fun v t c wr => ∃ (k : Nat) (C : Option Addr) (p : Nat), k ≤ m ∧ c = .int .i64 (k + 1) ∧ t = .int .i64 (gapSum i k) ∧ v = .slice C k p ∧ IOwn wr w.heap.size wr.heap.size 3 1 C k p (times i k) ∧ Below w.heap.size w wr) (fun _ _ c _ => m + 1 - (intOf c).toNat)
  case atStart => exact ⟨0, none, 0, Nat.zero_le _, rfl, rfl, rfl, IOwn.none_ _ _ _ _ _, b0 _⟩
  case round =>
    obtain ⟨k, C, p, hk, rfl, rfl, rfl, hown, hb⟩ := hrel
    have HO := Lib.hid hown
    clear hown
    have zb := hb.size
    have gb := gapSum_bound h1 h2 k
    have gb2 := gap_bound (c := (k : Int) + 1) h1 h2 (by omega)
    have HT := Lib.hid (times_succ i k)
    have HG := Lib.hid (show gapSum i (k + 1) = gapSum i k + gap i (k + 1) from rfl)
    by_cases hlt : k < m
    · go_wp2_with (first | (go_at_call 42; refine (cdGap_any _ _ _ (by omega) (by omega) (by omega) (by omega)).mono ?_; rintro e w2 ⟨rfl, rfl⟩) | (at_builtin; refine append_int rfl _ _ rfl (lo := w.heap.size) (hh := wr.heap.size + 1) (l := times i k) rfl ((HO.out.below (ba (b0 wr) _) (by omega)).more (by omega)) wr.heap.size (gapSum i k + gap i (k + 1)) rfl (by simp) (by omega) (by simp; omega) ?_; intro C' c' w4 ho3 hb3; rw [← HG.out, ← HT.out] at ho3; have HO3 := Lib.hid ho3; clear ho3))
      go_roundw
      case rel => exact ⟨k + 1, C', c', by omega, by go_num, by rw [HG.out], rfl, HO3.out, (ba hb _).trans hb3⟩
      case measure => simp [intOf]; omega
    · obtain rfl : k = m := by omega
      go_wp2_with fail
      go_ret2
      exact ⟨C, k, p, rfl, HO.out, hb⟩
theorem implDropTimes_any (i n : Int) (w : World) :
    Calls Try.prog 27 #[.int .i64 i, .int .i64 n] w (NewIntsB w (dtR i n).1 (dtR i n).2) := by
  by_cases h : (1 ≤ i ∧ i ≤ 10000) ∧ 0 ≤ n ∧ n ≤ 40
  rotate_left
  · have hR := Lib.hid (show dtR i n = ([], false) by rw [dtR, if_neg h])
    rw [hR.out]
    go_enter Try.func27, Try.ntmps27
    go_wp2_with (first | (go_at_call 37; refine (isInterval_any _ _).mono ?_; rintro e w' ⟨rfl, rfl⟩))
    all_goals first | (go_ret2; exact NewIntsB.none_ rfl (by repeat (first | (with_reducible exact b0 _) | (with_reducible refine ba ?_ _) | (with_reducible refine bd ?_ _) | (with_reducible refine Below.drew ?_) | (with_reducible refine bs ?_ (by first | exact Nat.le_refl _ | exact Nat.le_add_right _ _ | omega) _) | (with_reducible refine bt ?_ (by assumption))))) | (exfalso; simp at *; omega)
  obtain ⟨⟨h1, h2⟩, h3, h4⟩ := h
  obtain ⟨m, rfl⟩ := Int.eq_ofNat_of_zero_le h3
  have hR := Lib.hid (show dtR i m = (times i m, true) by rw [dtR, if_pos ⟨⟨h1, h2⟩, h3, h4⟩]; simp)
  rw [hR.out]
  go_enter Try.func27, Try.ntmps27
  go_wp2_with (first | (go_at_call 37; refine (isInterval_any _ _).mono ?_; rintro e w' ⟨rfl, rfl⟩))
  go_loopw [6, 7, 8] (fun v t c wr => ∃ (k : Nat) (C : Option Addr) (p : Nat), k ≤ m ∧ c = .int .i64 (k + 1) ∧ t = .int .i64 (gapSum i k) ∧ v = .slice C k p ∧ IOwn wr w.heap.size wr.heap.size 3 1 C k p (times i k) ∧ Below w.heap.size w wr) (fun _ _ c _ => m + 1 - (intOf c).toNat)
  case atStart => exact ⟨0, _, 0, Nat.zero_le _, rfl, rfl, rfl, (IOwn.lit0 w _ 3 1 (Nat.le_refl _)).here, ba (b0 _) _⟩
  case round =>
    obtain ⟨k, C, p, hk, rfl, rfl, rfl, hown, hb⟩ := hrel
    have HO := Lib.hid hown
    clear hown
    have zb := hb.size
    have gb := gapSum_bound h1 h2 k
    have gb2 := gap_bound (c := (k : Int) + 1) h1 h2 (by omega)
    have HT := Lib.hid (times_succ i k)
    have HG := Lib.hid (show gapSum i (k + 1) = gapSum i k + gap i (k + 1) from rfl)
    by_cases hlt : k < m
    · go_wp2_with (first | (go_at_call 43; refine (gapAfter_any _ _ _ (by omega) (by omega) (by omega) (by omega)).mono ?_; rintro e w2 ⟨rfl, hgp⟩; have zg := hgp.size) | (at_builtin; refine append_int rfl _ _ rfl (lo := w.heap.size) (hh := w2.heap.size + 1) (l := times i k) rfl (((HO.out.below hgp (Nat.le_refl _)).below (ba (b0 w2) _) (by omega)).more (by omega)) w2.heap.size (gapSum i k + gap i (k + 1)) rfl (by simp) (by omega) (by simp; omega) ?_; intro C' c' w4 ho3 hb3; rw [← HG.out, ← HT.out] at ho3; have HO3 := Lib.hid ho3; clear ho3))
      go_roundw
      case rel => exact ⟨k + 1, C', c', by omega, by go_num, by rw [HG.out], rfl, HO3.out, (ba (bt hb hgp) _).trans hb3⟩
      case measure => simp [intOf]; omega
    · obtain rfl : k = m := by omega
      go_wp2_with fail
      go_ret2
      exact ⟨C, k, p, rfl, HO.out, hb⟩
end Go.Proofs.Ytabickmaeklfmaa
