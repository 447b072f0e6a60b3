/- The contracts of the reference's IsFair. -/
import Derived.Test.YtgdldmeeaejjpaaFairLaw
import Derived.Test.YtgdldmeeaejjpaaFairBox
import Derived.Test.YtgdldmeeaejjpaaQueue
namespace Go.Proofs.Ytgdldmeeaejjpaa
open Go.ChangeShapes Go.WideShapes Go.ChangeAt Go.RowKit
set_option linter.unusedVariables false
theorem hasL_get {l : List Int} {k : Nat} (hk : k < l.length) : l[k]?.getD 0 ∈ l := by
  rw [List.getElem?_eq_getElem hk]
  exact List.getElem_mem hk
theorem l1Has_any (A : Option Addr) (n cap : Nat) (l : List Int) (x : Int) (w : World) (hl : l.length = n) (hr : IRow w A l) (hn : n ≤ 1099511627776) :
    Calls Try.prog 101 #[.slice A n cap, .int .i64 x] w fun e w' => e = .returned (.bool (hasL l x)) ∧ Below w.heap.size w w' := by
  have HL := Lib.hid hl
  have HR := Lib.hid hr
  clear hl hr
  go_enter Try.func101, Try.ntmps101
  go_wp2_with fail
  go_loopw [9] (fun i wr => ∃ k : Nat, k ≤ n ∧ i = .int .i64 k ∧ (∀ j, j < k → l[j]?.getD 0 ≠ x) ∧ Below w.heap.size w wr) (fun i _ => n - (intOf i).toNat)
  case atStart => exact ⟨0, Nat.zero_le _, rfl, fun j hj => by omega, b0 _⟩
  case round =>
    obtain ⟨k, hk, rfl, hall, hbw⟩ := hrel
    have HA := Lib.hid hall
    clear hall
    by_cases hlt : k < n
    · obtain ⟨g, off, rfl, hg, hc⟩ := (HR.out.below hbw).at_ (k := k) (by rw [HL.out]; exact hlt)
      have hck := hc k (by rw [HL.out]; exact hlt)
      have HM := Lib.hid (hasL_get (l := l) (k := k) (by rw [HL.out]; exact hlt))
      clear hc
      rcases hd : (l[k]?.getD 0 == x) with _ | _
      · have HS := Lib.hid (show ∀ j, j < k + 1 → l[j]?.getD 0 ≠ x from fun j hj => by
          rcases Nat.lt_succ_iff_lt_or_eq.1 hj with h' | rfl
          · exact HA.out j h'
          · simpa using hd)
        go_wp2_with fail
        go_roundw
        case rel => exact ⟨k + 1, by omega, by go_num, HS.out, hbw⟩
        case measure => simp [intOf]; omega
      · have hR := Lib.hid (show hasL l x = true from decide_eq_true (by have h := HM.out; rw [beq_iff_eq.1 hd] at h; exact h))
        go_wp2_with fail
        go_ret
        exact ⟨by rw [hR.out]; rfl, hbw⟩
    · obtain rfl : k = n := by omega
      have hR := Lib.hid (show hasL l x = false from decide_eq_false (fun h => by
        obtain ⟨j, hj, e⟩ := List.mem_iff_getElem.1 h
        have := HA.out j (by rw [← HL.out]; exact hj)
        rw [List.getElem?_eq_getElem hj, e] at this
        exact this rfl))
      go_wp2_with fail
      go_ret
      exact ⟨by rw [hR.out]; rfl, hbw⟩
theorem l1Has_b {b : Bool} (A : Option Addr) (n cap : Nat) (l : List Int) (x : Int) (w : World) (hl : l.length = n) (hr : IRow w A l) (hn : n ≤ 1099511627776) (h : hasL l x = b) :
    Calls Try.prog 101 #[.slice A n cap, .int .i64 x] w fun e w' => e = .returned (.bool b) ∧ Below w.heap.size w w' := h ▸ l1Has_any A n cap l x w hl hr hn
theorem l1All_any (A : Option Addr) (n cap : Nat) (D : List Int) (hi : Int) (w : World) (hl : D.length = n) (hr : IRow w A D) (hn : n ≤ 1099511627776) :
    Calls Try.prog 99 #[.slice A n cap, .int .i64 0, .int .i64 hi] w fun e w' => e = .returned (.bool (dAll D hi)) ∧ Below w.heap.size w w' := by
  have HL := Lib.hid hl
  have HR := Lib.hid hr
  clear hl hr
  go_enter Try.func99, Try.ntmps99
  go_wp2_with fail
  go_loopw [11] (fun i wr => ∃ k : Nat, k ≤ n ∧ i = .int .i64 k ∧ (∀ j, j < k → decide (0 ≤ datD D j ∧ datD D j ≤ hi) = true) ∧ Below w.heap.size w wr) (fun i _ => n - (intOf i).toNat)
  case atStart => exact ⟨0, Nat.zero_le _, rfl, all_zero, b0 _⟩
  case round =>
    obtain ⟨k, hk, rfl, hall, hbw⟩ := hrel
    have HA := Lib.hid hall
    clear hall
    by_cases hlt : k < n
    · obtain ⟨g, off, rfl, hg, hc⟩ := (HR.out.below hbw).at_ (k := k) (by rw [HL.out]; exact hlt)
      have hck : wr.cell? ⟨g, off + k, none⟩ = some (.int .i64 (datD D k)) := hc k (by rw [HL.out]; exact hlt)
      clear hc
      rcases hd : decide (0 ≤ datD D k ∧ datD D k ≤ hi) with _ | _
      · have hR := Lib.hid (show dAll D hi = false from allB_no (k := k) (by rw [HL.out]; exact hlt) hd)
        generalize datD D k = x at *
        go_wp2_with (go_at_call 61; (with_reducible refine (l1In_b hd _).mono ?_); rintro e w' ⟨rfl, rfl⟩)
        go_ret
        exact ⟨by rw [hR.out]; rfl, hbw⟩
      · have HS := Lib.hid (all_succ (g := fun j => decide (0 ≤ datD D j ∧ datD D j ≤ hi)) HA.out hd)
        generalize hx : datD D k = x at *
        go_wp2_with (go_at_call 61; (with_reducible refine (l1In_b hd _).mono ?_); rintro e w' ⟨rfl, rfl⟩)
        go_roundw
        case rel => exact ⟨k + 1, by omega, by go_num, HS.out, hbw⟩
        case measure => simp [intOf]; omega
    · obtain rfl : k = n := by omega
      have hR := Lib.hid (show dAll D hi = true from allB_yes (by rw [HL.out]; exact HA.out))
      go_wp2_with fail
      go_ret
      exact ⟨by rw [hR.out]; rfl, hbw⟩
theorem l1All_b {b : Bool} (A : Option Addr) (n cap : Nat) (D : List Int) (hi : Int) (w : World) (hl : D.length = n) (hr : IRow w A D) (hn : n ≤ 1099511627776) (h : dAll D hi = b) :
    Calls Try.prog 99 #[.slice A n cap, .int .i64 0, .int .i64 hi] w fun e w' => e = .returned (.bool b) ∧ Below w.heap.size w w' := h ▸ l1All_any A n cap D hi w hl hr hn
set_option maxHeartbeats 2000000 in
theorem faGood_num (qu li : Int) (A : Option Addr) (n cap : Nat) (B : Option Addr) (m capd : Nat) (nx : Int) (op : Bool) (F : List (List Pk)) (D : List Int) (w : World) (hr : FRow w ⟨A, n, cap, B, m, capd⟩ (F.map fl) D) (hn : n ≤ 1048576) (hm : m ≤ 1048576) (h : fnum qu li n m nx = false) :
    Calls Try.prog 72 #[.agg #[.int .i64 qu, .int .i64 li, .slice A n cap, .slice B m capd, .int .i64 nx, .bool op]] w fun e w' => e = .returned (.bool (fok qu li F D nx op)) ∧ Below w.heap.size w w' := by
  have hdn : D.length = m := hr.dn
  have hR := Lib.hid (show fok qu li F D nx op = false from fok_num (by rw [show F.length = n by simpa using hr.qn, hdn]; exact h))
  have HN := Lib.hid (show ¬ ((100 ≤ qu ∧ qu ≤ 3000) ∧ (1 ≤ li ∧ li ≤ 20) ∧ (1 ≤ n ∧ n ≤ 8) ∧ m = n ∧ (0 ≤ nx ∧ nx < (n : Int))) from fun h' => by rw [fnum_iff.2 h'] at h; cases h)
  have HR := Lib.hid (fun (W : World) (hb : Below w.heap.size w W) => hr.below hb)
  clear hr h
  go_enter Try.func72, Try.ntmps72
  go_wp2_with (first | (go_at_call 61; refine (l1In_any _ _ _ _).mono ?_; rintro e w' ⟨rfl, rfl⟩) | (go_at_call 99; exfalso; have := HN.out; simp only [decide_eq_true_eq, decide_eq_false_iff_not] at *; omega))
  all_goals first
    | (go_ret; exact ⟨by rw [hR.out]; rfl, (by repeat (first | (with_reducible exact b0 _) | (with_reducible refine ba ?_ _) | (with_reducible refine bd ?_ _) | (with_reducible refine Below.drew ?_) | (with_reducible refine bs ?_ (by first | exact Nat.le_refl _ | exact Nat.le_add_right _ _ | omega) _) | (with_reducible refine bt ?_ (by assumption))))⟩)
    | (exfalso; have := HN.out; omega)
set_option maxHeartbeats 2000000 in
theorem faGood_dall (qu li : Int) (A : Option Addr) (n cap : Nat) (B : Option Addr) (m capd : Nat) (nx : Int) (op : Bool) (F : List (List Pk)) (D : List Int) (w : World) (hr : FRow w ⟨A, n, cap, B, m, capd⟩ (F.map fl) D) (hn : n ≤ 1048576) (hm : m ≤ 1048576) (h : fnum qu li n m nx = true) (hd : dAll D (qu + 1500) = false) :
    Calls Try.prog 72 #[.agg #[.int .i64 qu, .int .i64 li, .slice A n cap, .slice B m capd, .int .i64 nx, .bool op]] w fun e w' => e = .returned (.bool (fok qu li F D nx op)) ∧ Below w.heap.size w w' := by
  have hdn : D.length = m := hr.dn
  have hR := Lib.hid (show fok qu li F D nx op = false from fok_dall hd)
  have HR := Lib.hid (fun (W : World) (hb : Below w.heap.size w W) => hr.below hb)
  clear hr
  have gn := fnum_iff.1 h; obtain ⟨i, rfl⟩ : ∃ i : Nat, nx = (i : Int) := ⟨nx.toNat, by omega⟩; obtain rfl : m = n := gn.2.2.2.1; have h1 : decide (100 ≤ qu ∧ qu ≤ 3000) = true := decide_eq_true gn.1; have h2 : decide (1 ≤ li ∧ li ≤ 20) = true := decide_eq_true gn.2.1; have h3 : decide (1 ≤ (m : Int) ∧ (m : Int) ≤ 8) = true := decide_eq_true (by omega); have h5 : decide (0 ≤ (i : Int) ∧ (i : Int) ≤ (m : Int) - 1) = true := decide_eq_true (by omega); have g1 : 100 ≤ qu ∧ qu ≤ 3000 := gn.1; have g2 : 1 ≤ li ∧ li ≤ 20 := gn.2.1; have g3 : 1 ≤ m ∧ m ≤ 8 := gn.2.2.1; have g4 : i < m := (by omega); clear gn h
  have HDN := Lib.hid hdn
  clear hdn
  go_enter Try.func72, Try.ntmps72
  go_wp2_with (first | (go_at_call 61; (with_reducible refine (l1In_b h1 _).mono ?_); rintro e w' ⟨rfl, rfl⟩) | (go_at_call 61; (with_reducible refine (l1In_b h2 _).mono ?_); rintro e w' ⟨rfl, rfl⟩) | (go_at_call 61; (with_reducible refine (l1In_b h3 _).mono ?_); rintro e w' ⟨rfl, rfl⟩) | (go_at_call 61; (with_reducible refine (l1In_b h5 _).mono ?_); rintro e w' ⟨rfl, rfl⟩))
  refine (l1All_b _ _ _ D _ _ HDN.out (HR.out _ (ba (b0 w) _)).d (by omega) hd).mono ?_
  rintro e w1 ⟨rfl, hg⟩
  go_wp2_with fail
  go_ret
  exact ⟨by rw [hR.out]; rfl, (by repeat (first | (with_reducible exact b0 _) | (with_reducible refine ba ?_ _) | (with_reducible refine bd ?_ _) | (with_reducible refine Below.drew ?_) | (with_reducible refine bs ?_ (by first | exact Nat.le_refl _ | exact Nat.le_add_right _ _ | omega) _) | (with_reducible refine bt ?_ (by assumption))))⟩
set_option maxRecDepth 100000 in
set_option maxHeartbeats 4000000 in
theorem faGood_yes (qu li : Int) (A : Option Addr) (n cap : Nat) (B : Option Addr) (m capd : Nat) (nx : Int) (op : Bool) (F : List (List Pk)) (D : List Int) (w : World) (hr : FRow w ⟨A, n, cap, B, m, capd⟩ (F.map fl) D) (hn : n ≤ 1048576) (hm : m ≤ 1048576) (h : fnum qu li n m nx = true) (hd : dAll D (qu + 1500) = true) :
    Calls Try.prog 72 #[.agg #[.int .i64 qu, .int .i64 li, .slice A n cap, .slice B m capd, .int .i64 nx, .bool op]] w fun e w' => e = .returned (.bool (fok qu li F D nx op)) ∧ Below w.heap.size w w' := by
  have hdn : D.length = m := hr.dn
  have hfn : F.length = n := by simpa using hr.qn
  have HR := Lib.hid (fun (W : World) (hb : Below w.heap.size w W) => hr.below hb)
  have HD := Lib.hid (fun k hk => dAll_at hd (k := k) hk)
  have HDA := Lib.hid hd
  have HNM := Lib.hid h
  clear hr hd
  have gn := fnum_iff.1 h; obtain ⟨i, rfl⟩ : ∃ i : Nat, nx = (i : Int) := ⟨nx.toNat, by omega⟩; obtain rfl : m = n := gn.2.2.2.1; have h1 : decide (100 ≤ qu ∧ qu ≤ 3000) = true := decide_eq_true gn.1; have h2 : decide (1 ≤ li ∧ li ≤ 20) = true := decide_eq_true gn.2.1; have h3 : decide (1 ≤ (m : Int) ∧ (m : Int) ≤ 8) = true := decide_eq_true (by omega); have h5 : decide (0 ≤ (i : Int) ∧ (i : Int) ≤ (m : Int) - 1) = true := decide_eq_true (by omega); have g1 : 100 ≤ qu ∧ qu ≤ 3000 := gn.1; have g2 : 1 ≤ li ∧ li ≤ 20 := gn.2.1; have g3 : 1 ≤ m ∧ m ≤ 8 := gn.2.2.1; have g4 : i < m := (by omega); clear gn h
  have HDN := Lib.hid hdn
  have HFN := Lib.hid hfn
  clear hdn hfn
  have HNO := Lib.hid (fun (k : Nat) (L : List Pk) (hk : F[k]? = some L) (h : ¬ flowR qu li i op F.length L (datD D k) k = true) => fok_flow (D := D) hk h)
  have HNA := Lib.hid (fun (k j : Nat) (h : apart (fpre F k j) = false) => fok_apart (qu := qu) (li := li) (D := D) (nx := i) (op := op) (fpre_no h))
  go_enter Try.func72, Try.ntmps72
  go_wp2_with (first | (go_at_call 61; (with_reducible refine (l1In_b h1 _).mono ?_); rintro e w' ⟨rfl, rfl⟩) | (go_at_call 61; (with_reducible refine (l1In_b h2 _).mono ?_); rintro e w' ⟨rfl, rfl⟩) | (go_at_call 61; (with_reducible refine (l1In_b h3 _).mono ?_); rintro e w' ⟨rfl, rfl⟩) | (go_at_call 61; (with_reducible refine (l1In_b h5 _).mono ?_); rintro e w' ⟨rfl, rfl⟩))
  refine (l1All_b _ _ _ D _ _ HDN.out (HR.out _ (ba (b0 w) _)).d (by omega) HDA.out).mono ?_
  rintro e w1 ⟨rfl, hg⟩
  have z1 := hg.size
  simp at z1
  have f : Bk w1 (w.heap.size) 56 #[.int .i64 qu, .int .i64 li, .slice A m cap, .slice B m capd, .int .i64 i, .bool op] := (Bk.new w _ _).old hg
  have zf : w.heap.size < w1.heap.size := f.lt
  have f_0 : w1.cell? ⟨w.heap.size, 0, none⟩ = some (.int .i64 qu) := f.cell 0
  have f_1 : w1.cell? ⟨w.heap.size, 1, none⟩ = some (.int .i64 li) := f.cell 1
  have f_2 : w1.cell? ⟨w.heap.size, 2, none⟩ = some (.slice A m cap) := f.cell 2
  have f_3 : w1.cell? ⟨w.heap.size, 3, none⟩ = some (.slice B m capd) := f.cell 3
  have f_4 : w1.cell? ⟨w.heap.size, 4, none⟩ = some (.int .i64 i) := f.cell 4
  have f_5 : w1.cell? ⟨w.heap.size, 5, none⟩ = some (.bool op) := f.cell 5
  have ff := f.free
  have Hf := Lib.hid f
  clear f
  have HB1 := Lib.hid (bt (ba (b0 w) _) hg)
  have HF1 := Lib.hid Hf.out
  clear hg
  go_wp2_with fail
  go_loopw [4, 54] (fun v z wr => ∃ (k : Nat) (C : Option Addr) (c : Nat), k ≤ m ∧ z = .int .i64 k ∧ v = .slice C (fpre F k 0).length c ∧ IOwn wr w1.heap.size wr.heap.size 3 1 C (fpre F k 0).length c ((fpre F k 0).map Pk.id) ∧ FGood qu li i op F D k ∧ apart (fpre F k 0) = true ∧ (fpre F k 0).length ≤ k * 20 ∧ Below w1.heap.size w1 wr) (fun _ z _ => m - (intOf z).toNat)
  case atStart => exact ⟨0, none, 0, Nat.zero_le _, rfl, by rw [fpre_zero]; rfl, by rw [fpre_zero]; exact IOwn.none_ _ _ _ _ _, FGood.zero, by rw [fpre_zero]; rfl, by rw [fpre_zero]; simp, b0 _⟩
  case round =>
    obtain ⟨k, C, c, hk, rfl, rfl, hmet, hgood, hap, hlen, hbw⟩ := hrel
    have HMET := Lib.hid hmet
    have HGD := Lib.hid hgood
    have HAP := Lib.hid hap
    have HBW := Lib.hid hbw
    have zw := hbw.size
    clear hmet hgood hap hbw f_0 f_1 f_2 f_3 f_4 f_5 ff zf
    have f : Bk wr (w.heap.size) 56 #[.int .i64 qu, .int .i64 li, .slice A m cap, .slice B m capd, .int .i64 i, .bool op] := HF1.out.old HBW.out
    have zf : w.heap.size < wr.heap.size := f.lt
    have f_0 : wr.cell? ⟨w.heap.size, 0, none⟩ = some (.int .i64 qu) := f.cell 0
    have f_1 : wr.cell? ⟨w.heap.size, 1, none⟩ = some (.int .i64 li) := f.cell 1
    have f_2 : wr.cell? ⟨w.heap.size, 2, none⟩ = some (.slice A m cap) := f.cell 2
    have f_3 : wr.cell? ⟨w.heap.size, 3, none⟩ = some (.slice B m capd) := f.cell 3
    have f_4 : wr.cell? ⟨w.heap.size, 4, none⟩ = some (.int .i64 i) := f.cell 4
    have f_5 : wr.cell? ⟨w.heap.size, 5, none⟩ = some (.bool op) := f.cell 5
    have ff := f.free
    have Hf := Lib.hid f
    clear f
    by_cases hlt : k < m
    · obtain ⟨L, hkl⟩ : ∃ L, F[k]? = some L := ⟨_, List.getElem?_eq_getElem (by rw [HFN.out]; exact hlt)⟩
      have HKL := Lib.hid hkl
      have hrw := HR.out w (b0 w)
      obtain ⟨g, off, X, x, xc, rfl, hgl, hck0, hxl, hxc, hx0, hxr⟩ := hrw.q.at_ (k := k) (l := fl L) (by simp [hkl])
      have hck := ((bt HB1.out HBW.out).cell (p := ⟨g, off + k, none⟩) hgl).trans hck0
      obtain rfl : L.length = x := by rw [fl_len] at hxl; omega
      obtain ⟨gd, od, rfl, hgd, hcd⟩ := hrw.d.at_ (k := k) (by rw [HDN.out]; exact hlt)
      have hdk0 : w.cell? ⟨gd, od + k, none⟩ = some (.int .i64 (datD D k)) := hcd k (by rw [HDN.out]; exact hlt)
      have HXR := Lib.hid (fun (W : World) (hb : Below w.heap.size w W) => hxr.below hb)
      have hdb := HD.out k (by rw [HDN.out]; exact hlt)
      have HROW := Lib.hid (fpre_row hkl (Nat.le_refl _))
      clear hkl hrw hxl hxr hcd hck0
      obtain ⟨d, hdd⟩ : ∃ d, d = datD D k := ⟨_, rfl⟩
      rw [← hdd] at hdk0 hdb
      have HDK := Lib.hid (fun (W : World) (hb : Below w.heap.size w W) => (hb.cell (p := ⟨gd, od + k, none⟩) hgd).trans hdk0)
      have hdk := HDK.out _ (bt HB1.out HBW.out)
      clear hdk0
      have HDD := Lib.hid hdd
      clear hdd
      by_cases hli : (L.length : Int) ≤ li
      rotate_left
      · have hR := Lib.hid (HNO.out k L HKL.out (fun h => hli (flowR_iff.1 h).1))
        have hb1 : decide (li < (L.length : Int)) = true := decide_eq_true (by omega)
        go_wp2_with fail
        go_ret
        exact ⟨by rw [hR.out]; rfl, bt HB1.out HBW.out⟩
      have hb1 : decide (li < (L.length : Int)) = false := decide_eq_false (by omega)
      by_cases hz : L.length = 0 ∧ d ≠ 0
      · have hR := Lib.hid (HNO.out k L HKL.out (fun h => hz.2 (by rw [HDD.out]; exact (flowR_iff.1 h).2.2.2.1 hz.1)))
        have hb2 : ((L.length : Int) == 0) = true := by simp; exact List.eq_nil_of_length_eq_zero hz.1
        have hb3 : (d != 0) = true := by simpa using hz.2
        go_wp2_with fail
        go_ret
        exact ⟨by rw [hR.out]; rfl, bt HB1.out HBW.out⟩
      have hb3 : ((L.length : Int) == 0) = true → (d != 0) = false := fun h => by
        rcases h' : (d != 0) with _ | _
        · rfl
        · exact (hz ⟨by simpa using h, by simpa using h'⟩).elim
      have HZ := Lib.hid (show L.length = 0 → d = 0 from fun h => Classical.byContradiction fun h' => hz ⟨h, h'⟩)
      clear hz
      rcases hb2 : ((L.length : Int) == 0) with _ | _
      rotate_left
      have hb4 := hb3 hb2
      all_goals
        clear hb3
        go_wp2_with fail
        clear hck hdk f_0 f_1 f_2 f_3 f_4 f_5 ff zf
        go_loopw [4, 79] (fun v z ws => ∃ (j : Nat) (C : Option Addr) (c : Nat), j ≤ L.length ∧ z = .int .i64 j ∧ v = .slice C (fpre F k j).length c ∧ IOwn ws w1.heap.size ws.heap.size 3 1 C (fpre F k j).length c ((fpre F k j).map Pk.id) ∧ fpk L F.length k j = true ∧ apart (fpre F k j) = true ∧ (fpre F k j).length ≤ k * 20 + j ∧ Below w1.heap.size w1 ws) (fun _ z _ => L.length - (intOf z).toNat)
        case atStart => exact ⟨0, C, c, Nat.zero_le _, rfl, rfl, HMET.out, fpk_zero _ _ _, HAP.out, by omega, HBW.out⟩
        case round =>
          obtain ⟨j, C', c', hj, rfl, rfl, hmet, hfp, hap, hlen2, hbw⟩ := hrel
          have HM2 := Lib.hid hmet
          have HFP := Lib.hid hfp
          have HA2 := Lib.hid hap
          have HB2 := Lib.hid hbw
          have z2 := hbw.size
          clear hmet hfp hap hbw
          by_cases hjl : j < L.length
          · obtain ⟨gx, ox, p, rfl, hgx, hpk, c0, c1', c2', c3, c4, c5⟩ := pk_at (HXR.out _ (bt HB1.out HB2.out)) hjl
            have HPK := Lib.hid hpk
            clear hpk
            rcases hp : p.ok with _ | _
            · have hR := Lib.hid (HNO.out k L HKL.out (fun h => by
                have h1 := (flowR_iff.1 h).2.2.1
                rw [fpk_no HPK.out (by rw [hp]; rfl)] at h1
                cases h1))
              go_wp2_with fail
              refine (pkGood_b hp _).mono ?_
              rintro e w3 ⟨rfl, hg3⟩
              go_wp2_with fail
              go_ret
              exact ⟨by rw [hR.out]; rfl, bt (ba (bt HB1.out HB2.out) _) hg3⟩
            rcases hf : decide (flw p (m : Int) = (k : Int)) with _ | _
            · have hR := Lib.hid (HNO.out k L HKL.out (fun h => by
                have h1 := (flowR_iff.1 h).2.2.1
                rw [fpk_no HPK.out (by rw [HFN.out, hf, Bool.and_false])] at h1
                cases h1))
              have hfb : (flw p (m : Int) != (k : Int)) = true := by simpa using hf
              go_wp2_with (first | (go_at_call 62; (with_reducible refine (pkGood_b hp _).mono ?_); rintro e w3 ⟨rfl, hg3⟩; have z3 := hg3.size; (try simp at z3); have r3 := fun o => bkeep hg3 wr.heap.size o (by simp)) | (go_at_call 100; refine (pkFlow_any p _ _ hp (by omega) (by omega)).mono ?_; rintro e w4 ⟨rfl, hg4⟩; have z4 := hg4.size; have r4 := fun o => bkeep hg4 wr.heap.size o (by omega)))
              go_ret
              exact ⟨by rw [hR.out]; rfl, bt (bt (ba (bt HB1.out HB2.out) _) hg3) hg4⟩
            have hfb : (flw p (m : Int) != (k : Int)) = false := by simpa using hf
            rcases hh : hasL ((fpre F k j).map Pk.id) p.id with _ | _
            rotate_left
            · have hR := Lib.hid (HNA.out k (j + 1) (fpre_bad HKL.out HPK.out hh))
              go_wp2_with (first | (go_at_call 62; (with_reducible refine (pkGood_b hp _).mono ?_); rintro e w3 ⟨rfl, hg3⟩; have z3 := hg3.size; (try simp at z3); have r3 := fun o => bkeep hg3 wr.heap.size o (by simp)) | (go_at_call 100; refine (pkFlow_any p _ _ hp (by omega) (by omega)).mono ?_; rintro e w4 ⟨rfl, hg4⟩; have z4 := hg4.size; have r4 := fun o => bkeep hg4 wr.heap.size o (by omega)) | (go_at_call 101; refine (l1Has_b _ _ _ ((fpre F k j).map Pk.id) _ _ (by simp) ((((HM2.out.alloc _).old hg3).old hg4).row) (by omega) hh).mono ?_; rintro e w5 ⟨rfl, hg5⟩; have z5 := hg5.size; have r5 := fun o => bkeep hg5 wr.heap.size o (by omega)))
              go_ret
              exact ⟨by rw [hR.out]; rfl, bt (bt (bt (ba (bt HB1.out HB2.out) _) hg3) hg4) hg5⟩
            have HS1 := Lib.hid (show fpk L F.length k (j + 1) = true from by rw [fpk_succ HPK.out, HFP.out, hp, HFN.out, hf]; rfl)
            have HS2 := Lib.hid (fpre_fine HKL.out HPK.out HA2.out hp hh)
            have HE := Lib.hid (fpre_succ HKL.out HPK.out)
            go_wp2_with (first | (go_at_call 62; (with_reducible refine (pkGood_b hp _).mono ?_); rintro e w3 ⟨rfl, hg3⟩; have z3 := hg3.size; (try simp at z3); have r3 := fun o => bkeep hg3 wr.heap.size o (by simp)) | (go_at_call 100; refine (pkFlow_any p _ _ hp (by omega) (by omega)).mono ?_; rintro e w4 ⟨rfl, hg4⟩; have z4 := hg4.size; have r4 := fun o => bkeep hg4 wr.heap.size o (by omega)) | (go_at_call 101; refine (l1Has_b _ _ _ ((fpre F k j).map Pk.id) _ _ (by simp) ((((HM2.out.alloc _).old hg3).old hg4).row) (by omega) hh).mono ?_; rintro e w5 ⟨rfl, hg5⟩; have z5 := hg5.size; have r5 := fun o => bkeep hg5 wr.heap.size o (by omega)) | (at_builtin; refine append_int rfl _ _ rfl (lo := w1.heap.size) (hh := wr.heap.size) (l := (fpre F k j).map Pk.id) rfl ((((HM2.out.alloc _).old hg3).old hg4).old hg5 |>.alloc _) w5.heap.size p.id rfl ((Bk.new_ rfl).cell 0) (by omega) (by simp; omega) ?_; intro C2 c2 w6 ho6 hb6; have HM6 := Lib.hid ho6; have HB6 := Lib.hid ((ba (bt (bt (bt (ba HB2.out _) hg3) hg4) hg5) _).trans hb6); clear ho6 hb6))
            go_roundw
            case rel => exact ⟨j + 1, C2, c2, by omega, by go_num, by rw [HE.out, List.length_append]; rfl, by rw [HE.out, List.length_append, List.map_append]; exact HM6.out, HS1.out, HS2.out, by rw [HE.out, List.length_append]; simp; omega, HB6.out⟩
            case measure => simp [intOf]; omega
          · obtain rfl : j = L.length := by omega
            have hgood : (L.length : Int) ≤ li ∧ (0 ≤ d ∧ d ≤ qu + 1500) := ⟨by omega, by omega⟩
            have HFR := Lib.hid (fun (h0 : 0 < L.length → (op = true ∧ (k : Int) = (i : Int)) ∨ d < (pat L 0).si) => show flowR qu li i op F.length L (datD D k) k = true from flowR_iff.2 ⟨hgood.1, by rw [← HDD.out]; exact hgood.2, HFP.out, by rw [← HDD.out]; exact HZ.out, by rw [← HDD.out]; exact h0⟩)
            have HREL := Lib.hid (fun (h : flowR qu li i op F.length L (datD D k) k = true) => HGD.out.succ HKL.out h)
            clear hgood
            have f : Bk wr (w.heap.size) 56 #[.int .i64 qu, .int .i64 li, .slice (some ⟨g, off, none⟩) m cap, .slice (some ⟨gd, od, none⟩) m capd, .int .i64 i, .bool op] := (HF1.out.old HB2.out)
            have zf : w.heap.size < wr.heap.size := f.lt
            have f_0 : wr.cell? ⟨w.heap.size, 0, none⟩ = some (.int .i64 qu) := f.cell 0
            have f_1 : wr.cell? ⟨w.heap.size, 1, none⟩ = some (.int .i64 li) := f.cell 1
            have f_2 : wr.cell? ⟨w.heap.size, 2, none⟩ = some (.slice (some ⟨g, off, none⟩) m cap) := f.cell 2
            have f_3 : wr.cell? ⟨w.heap.size, 3, none⟩ = some (.slice (some ⟨gd, od, none⟩) m capd) := f.cell 3
            have f_4 : wr.cell? ⟨w.heap.size, 4, none⟩ = some (.int .i64 i) := f.cell 4
            have f_5 : wr.cell? ⟨w.heap.size, 5, none⟩ = some (.bool op) := f.cell 5
            have ff := f.free
            have Hf := Lib.hid f
            clear f
            have hdk' := HDK.out _ (bt HB1.out HB2.out)
            rcases Nat.eq_zero_or_pos L.length with hz0 | hpos
            · have hq0 : decide (0 < (L.length : Int)) = false := decide_eq_false (by omega)
              have HS := Lib.hid (HREL.out (HFR.out (fun h => by omega)))
              go_wp2_with fail
              go_quiet (fail)
              go_wp2_with fail
              go_roundw
              case rel => exact ⟨k + 1, C', c', by omega, by go_num, by rw [← HROW.out], by rw [← HROW.out]; exact HM2.out, HS.out, by rw [← HROW.out]; exact HA2.out, by rw [← HROW.out]; omega, bd HB2.out _⟩
              case measure => simp [intOf]; omega
            · obtain ⟨gx, ox, p0, rfl, hgx, hpk, c0, c1', c2', c3, c4, c5⟩ := pk_at (HXR.out _ (bt HB1.out HB2.out)) hpos
              simp only [Nat.zero_mul, Nat.add_zero] at c5
              have HP0 := Lib.hid (show (pat L 0).si = p0.si from by rw [pat_of hpk])
              clear hpk c0 c1' c2' c3 c4
              have hq0 : decide (0 < (L.length : Int)) = true := decide_eq_true (by omega)
              rcases hq1 : decide (p0.si ≤ d) with _ | _
              · have HS := Lib.hid (HREL.out (HFR.out (fun _ => .inr (by rw [HP0.out]; have := of_decide_eq_false hq1; omega))))
                go_wp2_with fail
                go_quiet (fail)
                go_wp2_with fail
                go_roundw
                case rel => exact ⟨k + 1, C', c', by omega, by go_num, by rw [← HROW.out], by rw [← HROW.out]; exact HM2.out, HS.out, by rw [← HROW.out]; exact HA2.out, by rw [← HROW.out]; omega, bd HB2.out _⟩
                case measure => simp [intOf]; omega
              have HX := Lib.hid (show ¬ d < p0.si from by have := of_decide_eq_true hq1; omega)
              rcases op with _ | _
              · have hR := Lib.hid (HNO.out k L HKL.out (fun h => by
                  rcases (flowR_iff.1 h).2.2.2.2 hpos with h1 | h1
                  · cases h1.1
                  · rw [← HDD.out, HP0.out] at h1; exact HX.out h1))
                go_wp2_with fail
                go_quiet (fail)
                go_wp2_with fail
                go_ret
                exact ⟨by rw [hR.out]; rfl, bd (bt HB1.out HB2.out) _⟩
              rcases hq2 : ((i : Int) != (k : Int)) with _ | _
              · have HS := Lib.hid (HREL.out (HFR.out (fun _ => .inl ⟨rfl, by have h := hq2; simp at h; omega⟩)))
                go_wp2_with fail
                go_quiet (fail)
                go_wp2_with fail
                go_roundw
                case rel => exact ⟨k + 1, C', c', by omega, by go_num, by rw [← HROW.out], by rw [← HROW.out]; exact HM2.out, HS.out, by rw [← HROW.out]; exact HA2.out, by rw [← HROW.out]; omega, bd HB2.out _⟩
                case measure => simp [intOf]; omega
              · have hR := Lib.hid (HNO.out k L HKL.out (fun h => by
                  rcases (flowR_iff.1 h).2.2.2.2 hpos with h1 | h1
                  · have h2 : (i : Int) ≠ (k : Int) := by simpa using hq2
                    exact h2 h1.2.symm
                  · rw [← HDD.out, HP0.out] at h1; exact HX.out h1))
                go_wp2_with fail
                go_quiet (fail)
                go_wp2_with fail
                go_ret
                exact ⟨by rw [hR.out]; rfl, bd (bt HB1.out HB2.out) _⟩
    · obtain rfl : k = m := by omega
      have hflat : apart F.flatten = true := by have h := HAP.out; rwa [← HFN.out, fpre_all] at h
      have HK := Lib.hid (show fok qu li F D i op = decide (op = true → 0 < (rowF F i).length) from by
        rw [Bool.eq_iff_iff, fok_iff, decide_eq_true_eq]
        exact ⟨fun h => by simpa using h.2.2.1, fun h => ⟨by rw [HFN.out, HDN.out]; exact HNM.out, fun k' hk' => HGD.out k' (by rw [← HFN.out]; exact hk'), by simpa using h, hflat⟩⟩)
      clear hflat
      obtain ⟨L, hkl⟩ : ∃ L, F[i]? = some L := ⟨_, List.getElem?_eq_getElem (by rw [HFN.out]; exact g4)⟩
      obtain ⟨g, off, X, x, xc, rfl, hgl, hck0, hxl, hxc, hx0, hxr⟩ := (HR.out w (b0 w)).q.at_ (k := i) (l := fl L) (by simp [hkl])
      have hck := ((bt HB1.out HBW.out).cell (p := ⟨g, off + i, none⟩) hgl).trans hck0
      obtain rfl : L.length = x := by rw [fl_len] at hxl; omega
      have HRF := Lib.hid (rowF_of hkl)
      clear hck0 hxl hxr hkl
      rcases op with _ | _
      · have hR := Lib.hid (HK.out.trans (decide_eq_true (fun h => by cases h)))
        go_wp2_with fail
        go_ret
        exact ⟨by rw [hR.out]; rfl, bt HB1.out HBW.out⟩
      · have hR := Lib.hid (show fok qu li F D i true = decide (0 < (L.length : Int)) from by rw [HK.out, HRF.out]; exact decide_eq_decide.2 ⟨fun h => by have := h rfl; omega, fun h _ => by omega⟩)
        go_wp2_with fail
        go_ret
        exact ⟨ret_b (by rw [hR.out]; exact decide_eq_decide.2 (by omega)), bt HB1.out HBW.out⟩
theorem faGood_any (qu li : Int) (A : Option Addr) (n cap : Nat) (B : Option Addr) (m capd : Nat) (nx : Int) (op : Bool) (F : List (List Pk)) (D : List Int) (w : World) (hr : FRow w ⟨A, n, cap, B, m, capd⟩ (F.map fl) D) (hn : n ≤ 1048576) (hm : m ≤ 1048576) :
    Calls Try.prog 72 #[.agg #[.int .i64 qu, .int .i64 li, .slice A n cap, .slice B m capd, .int .i64 nx, .bool op]] w fun e w' => e = .returned (.bool (fok qu li F D nx op)) ∧ Below w.heap.size w w' := by
  rcases h : fnum qu li n m nx with _ | _
  · exact faGood_num qu li A n cap B m capd nx op F D w hr hn hm h
  rcases hd : dAll D (qu + 1500) with _ | _
  · exact faGood_dall qu li A n cap B m capd nx op F D w hr hn hm h hd
  · exact faGood_yes qu li A n cap B m capd nx op F D w hr hn hm h hd
theorem faGood_b {b : Bool} (qu li : Int) (A : Option Addr) (n cap : Nat) (B : Option Addr) (m capd : Nat) (nx : Int) (op : Bool) (F : List (List Pk)) (D : List Int) (w : World) (hr : FRow w ⟨A, n, cap, B, m, capd⟩ (F.map fl) D) (hn : n ≤ 1048576) (hm : m ≤ 1048576) (h : fok qu li F D nx op = b) :
    Calls Try.prog 72 #[.agg #[.int .i64 qu, .int .i64 li, .slice A n cap, .slice B m capd, .int .i64 nx, .bool op]] w fun e w' => e = .returned (.bool b) ∧ Below w.heap.size w w' := h ▸ faGood_any qu li A n cap B m capd nx op F D w hr hn hm
theorem specIsFair_any (qu li : Int) (A : Option Addr) (n cap : Nat) (B : Option Addr) (m capd : Nat) (nx : Int) (op : Bool) (F : List (List Pk)) (D : List Int) (w : World) (hr : FRow w ⟨A, n, cap, B, m, capd⟩ (F.map fl) D) (hn : n ≤ 1048576) (hm : m ≤ 1048576) :
    Calls Try.prog 30 #[.agg #[.int .i64 qu, .int .i64 li, .slice A n cap, .slice B m capd, .int .i64 nx, .bool op]] w fun e w' => e = .returned (.bool (fok qu li F D nx op)) ∧ Below w.heap.size w w' := by
  have HR := Lib.hid (fun (W : World) (hb : Below w.heap.size w W) => hr.below hb)
  clear hr
  go_enter Try.func30, Try.ntmps30
  go_wp2_with fail
  refine (faGood_any _ _ _ _ _ _ _ _ _ _ F D _ (HR.out _ (ba (b0 w) _)) hn hm).mono ?_
  rintro e w1 ⟨rfl, hg⟩
  go_wp2_with fail
  go_ret
  exact ⟨rfl, (by repeat (first | (with_reducible exact b0 _) | (with_reducible refine ba ?_ _) | (with_reducible refine bd ?_ _) | (with_reducible refine Below.drew ?_) | (with_reducible refine bs ?_ (by first | exact Nat.le_refl _ | exact Nat.le_add_right _ _ | omega) _) | (with_reducible refine bt ?_ (by assumption))))⟩
end Go.Proofs.Ytgdldmeeaejjpaa
