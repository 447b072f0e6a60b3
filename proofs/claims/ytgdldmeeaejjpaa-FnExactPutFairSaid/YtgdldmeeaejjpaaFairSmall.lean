/- The contracts of BacklogOf and RoundsFor. -/
import Derived.Test.YtgdldmeeaejjpaaFairSpec
import Derived.Test.YtgdldmeeaejjpaaFairImpl
import Derived.Test.YtgdldmeeaejjpaaTakeAll
namespace Go.Proofs.Ytgdldmeeaejjpaa
open Go.ChangeShapes Go.WideShapes Go.ChangeAt Go.RowKit
set_option linter.unusedVariables false
theorem fok_row {qu li : Int} {F : List (List Pk)} {D : List Int} {nx : Int} {op : Bool} (h : fok qu li F D nx op = true) {k : Nat} {L : List Pk} (hk : F[k]? = some L) : L.length ≤ 20 ∧ SzOk L ∧ 0 ≤ datD D k ∧ datD D k ≤ qu + 1500 := by
  have g := fok_iff.1 h
  have gn := fnum_iff.1 g.1
  have h1 := g.2.1 k (List.getElem?_eq_some_iff.1 hk).1
  rw [rowF_of hk] at h1
  have h2 := flowR_iff.1 h1
  refine ⟨by omega, SzOk.of_ok fun i hi => ?_, h2.2.1⟩
  have h3 := allB_iff.1 h2.2.2.1 i hi
  simp only [Bool.and_eq_true] at h3
  exact h3.1
/-- The bytes of a row. -/
def bks (L : List Pk) : Int := szs L L.length
def bkl (F : List (List Pk)) (k : Nat) : List Int := (F.take k).map bks
theorem bkl_zero (F : List (List Pk)) : bkl F 0 = [] := by simp [bkl]
theorem bkl_succ {F : List (List Pk)} {k : Nat} {L : List Pk} (h : F[k]? = some L) : bkl F (k + 1) = bkl F k ++ [bks L] := by
  obtain ⟨hk, e⟩ := List.getElem?_eq_some_iff.1 h
  simp [bkl, List.take_succ_eq_append_getElem hk, e]
theorem bkl_all {F : List (List Pk)} {n : Nat} (h : F.length ≤ n) : bkl F n = F.map bks := by rw [bkl, List.take_of_length_le h]
theorem fok_num8 {qu li : Int} {F : List (List Pk)} {D : List Int} {nx : Int} {op : Bool} (h : fok qu li F D nx op = true) : (100 ≤ qu ∧ qu ≤ 3000) ∧ (1 ≤ li ∧ li ≤ 20) ∧ (1 ≤ F.length ∧ F.length ≤ 8) ∧ D.length = F.length ∧ (0 ≤ nx ∧ nx < (F.length : Int)) := fnum_iff.1 (fok_iff.1 h).1
set_option maxRecDepth 100000 in
set_option maxHeartbeats 2000000 in
theorem specBacklogOf_any (qu li : Int) (A : Option Addr) (n cap : Nat) (B : Option Addr) (m capd : Nat) (nx : Int) (op : Bool) (F : List (List Pk)) (D : List Int) (w : World) (hr : FRow w ⟨A, n, cap, B, m, capd⟩ (F.map fl) D) (hn : n ≤ 1048576) (hm : m ≤ 1048576) :
    Calls Try.prog 42 #[.agg #[.int .i64 qu, .int .i64 li, .slice A n cap, .slice B m capd, .int .i64 nx, .bool op]] w (NewIntsB w (ifl (fok qu li F D nx op) (F.map bks)) (fok qu li F D nx op)) := by
  have HFN := Lib.hid (show F.length = n by simpa using hr.qn)
  have HR := Lib.hid (fun (W : World) (hb : Below w.heap.size w W) => hr.below hb)
  clear hr
  rcases h : fok qu li F D nx op with _ | _
  · go_enter Try.func42, Try.ntmps42
    go_wp2_with fail
    refine (faGood_b _ _ _ _ _ _ _ _ _ _ F D _ (HR.out _ (ba (b0 w) _)) hn hm h).mono ?_
    rintro e w1 ⟨rfl, hg⟩
    go_wp2_with fail
    go_ret2
    exact NewIntsB.none_ rfl (by repeat (first | (with_reducible exact b0 _) | (with_reducible refine ba ?_ _) | (with_reducible refine bd ?_ _) | (with_reducible refine Below.drew ?_) | (with_reducible refine bs ?_ (by first | exact Nat.le_refl _ | exact Nat.le_add_right _ _ | omega) _) | (with_reducible refine bt ?_ (by assumption))))
  have HROW := Lib.hid (fun (k : Nat) (L : List Pk) (hk : F[k]? = some L) => fok_row h hk)
  have h8 := (fok_num8 h).2.2.1
  have hn8 : n ≤ 8 := by have := HFN.out; omega
  clear h8
  go_enter Try.func42, Try.ntmps42
  go_wp2_with fail
  refine (faGood_b _ _ _ _ _ _ _ _ _ _ F D _ (HR.out _ (ba (b0 w) _)) hn hm h).mono ?_
  rintro e w1 ⟨rfl, hg⟩
  have z1 := hg.size
  simp at z1
  have f : Bk w1 (w.heap.size) 56 #[.int .i64 qu, .int .i64 li, .slice A n cap, .slice B m capd, .int .i64 nx, .bool op] := (Bk.new w _ _).old hg
  have zf : w.heap.size < w1.heap.size := f.lt
  have f_0 : w1.cell? ⟨w.heap.size, 0, none⟩ = some (.int .i64 qu) := f.cell 0
  have f_1 : w1.cell? ⟨w.heap.size, 1, none⟩ = some (.int .i64 li) := f.cell 1
  have f_2 : w1.cell? ⟨w.heap.size, 2, none⟩ = some (.slice A n cap) := f.cell 2
  have f_3 : w1.cell? ⟨w.heap.size, 3, none⟩ = some (.slice B m capd) := f.cell 3
  have f_4 : w1.cell? ⟨w.heap.size, 4, none⟩ = some (.int .i64 nx) := f.cell 4
  have f_5 : w1.cell? ⟨w.heap.size, 5, none⟩ = some (.bool op) := f.cell 5
  have ff := f.free
  have Hf := Lib.hid f
  clear f
  have HB1 := Lib.hid (bt (ba (b0 w) _) hg)
  clear hg
  go_wp2_with fail
  go_loopw [4, 13] (fun v z wr => ∃ (k : Nat) (C : Option Addr) (c : Nat), k ≤ n ∧ z = .int .i64 k ∧ v = .slice C k c ∧ IOwn wr w1.heap.size wr.heap.size 3 1 C k c (bkl F k) ∧ Below w1.heap.size w1 wr) (fun _ z _ => n - (intOf z).toNat)
  case atStart => first | exact ⟨0, none, 0, Nat.zero_le _, rfl, rfl, by rw [bkl_zero]; exact IOwn.none_ _ _ _ _ _, b0 _⟩ | exact ⟨0, _, 0, Nat.zero_le _, rfl, rfl, by rw [bkl_zero]; exact (IOwn.lit0 w1 _ _ _ (Nat.le_refl _)).here, ba (b0 _) _⟩
  case round =>
    obtain ⟨k, C, c, hk, rfl, rfl, ho, hbw⟩ := hrel
    have HO := Lib.hid ho
    have HBW := Lib.hid hbw
    have zw := hbw.size
    clear ho hbw
    by_cases hlt : k < n
    · obtain ⟨L, hkl⟩ : ∃ L, F[k]? = some L := ⟨_, List.getElem?_eq_getElem (by rw [HFN.out]; exact hlt)⟩
      obtain ⟨g, off, X, x, xc, rfl, hgl, hck, hxl, hxc, hx0, hxr⟩ := (HR.out _ (bt HB1.out HBW.out)).q.at_ (k := k) (l := fl L) (by simp [hkl])
      obtain rfl : L.length = x := by rw [fl_len] at hxl; omega
      have HE := Lib.hid (bkl_succ hkl)
      have hl20 := (HROW.out k L hkl).1
      have HZ := Lib.hid (HROW.out k L hkl).2.1
      have HX := Lib.hid hxr
      have HB := Lib.hid (show szs L L.length = bks L from rfl)
      clear hkl hxl hxr
      go_wp2_with fail
      refine (pkSum_any _ _ _ L _ rfl HX.out (by omega) HZ.out).mono ?_
      rw [HB.out]
      rintro e w2 ⟨rfl, hg2⟩
      have z2 := hg2.size
      have HO2 := Lib.hid (HO.out.old hg2)
      have HB2 := Lib.hid (bt HBW.out hg2)
      clear hg2
      go_wp2_with (at_builtin; refine append_int rfl _ _ rfl (lo := w1.heap.size) (hh := wr.heap.size) (l := bkl F k) rfl (HO2.out.alloc _) w2.heap.size (bks L) rfl ((Bk.new_ rfl).cell 0) (by omega) (by simp; omega) ?_; intro C2 c2 w4 ho4 hb4; have HO4 := Lib.hid ho4; have HB4 := Lib.hid ((ba HB2.out _).trans hb4); clear ho4 hb4)
      go_roundw
      case rel => exact ⟨k + 1, C2, c2, by omega, by go_num, rfl, by rw [HE.out]; exact HO4.out, HB4.out⟩
      case measure => simp [intOf]; omega
    · obtain rfl : n = k := by omega
      have HA := Lib.hid (bkl_all (F := F) (n := n) (by rw [HFN.out]; exact Nat.le_refl _))
      go_wp2_with fail
      go_ret2
      exact ⟨C, n, c, rfl, by rw [← HA.out]; exact HO.out.lo_le (by omega), bt HB1.out HBW.out⟩
set_option maxRecDepth 100000 in
set_option maxHeartbeats 2000000 in
theorem implBacklogOf_any (qu li : Int) (A : Option Addr) (n cap : Nat) (B : Option Addr) (m capd : Nat) (nx : Int) (op : Bool) (F : List (List Pk)) (D : List Int) (w : World) (hr : FRow w ⟨A, n, cap, B, m, capd⟩ (F.map fl) D) (hn : n ≤ 1048576) (hm : m ≤ 1048576) :
    Calls Try.prog 43 #[.agg #[.int .i64 qu, .int .i64 li, .slice A n cap, .slice B m capd, .int .i64 nx, .bool op]] w (NewIntsB w (ifl (fok qu li F D nx op) (F.map bks)) (fok qu li F D nx op)) := by
  have HFN := Lib.hid (show F.length = n by simpa using hr.qn)
  have HR := Lib.hid (fun (W : World) (hb : Below w.heap.size w W) => hr.below hb)
  clear hr
  rcases h : fok qu li F D nx op with _ | _
  · go_enter Try.func43, Try.ntmps43
    go_wp2_with fail
    refine (implIsFair_b _ _ _ _ _ _ _ _ _ _ F D _ (HR.out _ (ba (b0 w) _)) hn hm h).mono ?_
    rintro e w1 ⟨rfl, hg⟩
    go_wp2_with fail
    go_ret2
    exact NewIntsB.none_ rfl (by repeat (first | (with_reducible exact b0 _) | (with_reducible refine ba ?_ _) | (with_reducible refine bd ?_ _) | (with_reducible refine Below.drew ?_) | (with_reducible refine bs ?_ (by first | exact Nat.le_refl _ | exact Nat.le_add_right _ _ | omega) _) | (with_reducible refine bt ?_ (by assumption))))
  have HROW := Lib.hid (fun (k : Nat) (L : List Pk) (hk : F[k]? = some L) => fok_row h hk)
  have h8 := (fok_num8 h).2.2.1
  have hn8 : n ≤ 8 := by have := HFN.out; omega
  clear h8
  go_enter Try.func43, Try.ntmps43
  go_wp2_with fail
  refine (implIsFair_b _ _ _ _ _ _ _ _ _ _ F D _ (HR.out _ (ba (b0 w) _)) hn hm h).mono ?_
  rintro e w1 ⟨rfl, hg⟩
  have z1 := hg.size
  simp at z1
  have f : Bk w1 (w.heap.size) 56 #[.int .i64 qu, .int .i64 li, .slice A n cap, .slice B m capd, .int .i64 nx, .bool op] := (Bk.new w _ _).old hg
  have zf : w.heap.size < w1.heap.size := f.lt
  have f_0 : w1.cell? ⟨w.heap.size, 0, none⟩ = some (.int .i64 qu) := f.cell 0
  have f_1 : w1.cell? ⟨w.heap.size, 1, none⟩ = some (.int .i64 li) := f.cell 1
  have f_2 : w1.cell? ⟨w.heap.size, 2, none⟩ = some (.slice A n cap) := f.cell 2
  have f_3 : w1.cell? ⟨w.heap.size, 3, none⟩ = some (.slice B m capd) := f.cell 3
  have f_4 : w1.cell? ⟨w.heap.size, 4, none⟩ = some (.int .i64 nx) := f.cell 4
  have f_5 : w1.cell? ⟨w.heap.size, 5, none⟩ = some (.bool op) := f.cell 5
  have ff := f.free
  have Hf := Lib.hid f
  clear f
  have HB1 := Lib.hid (bt (ba (b0 w) _) hg)
  clear hg
  go_wp2_with fail
  go_loopw [4, 14] (fun v z wr => ∃ (k : Nat) (C : Option Addr) (c : Nat), k ≤ n ∧ z = .int .i64 k ∧ v = .slice C k c ∧ IOwn wr w1.heap.size wr.heap.size 3 1 C k c (bkl F k) ∧ Below w1.heap.size w1 wr) (fun _ z _ => n - (intOf z).toNat)
  case atStart => first | exact ⟨0, none, 0, Nat.zero_le _, rfl, rfl, by rw [bkl_zero]; exact IOwn.none_ _ _ _ _ _, b0 _⟩ | exact ⟨0, _, 0, Nat.zero_le _, rfl, rfl, by rw [bkl_zero]; exact (IOwn.lit0 w1 _ _ _ (Nat.le_refl _)).here, ba (b0 _) _⟩
  case round =>
    obtain ⟨k, C, c, hk, rfl, rfl, ho, hbw⟩ := hrel
    have HO := Lib.hid ho
    have HBW := Lib.hid hbw
    have zw := hbw.size
    clear ho hbw
    by_cases hlt : k < n
    · obtain ⟨L, hkl⟩ : ∃ L, F[k]? = some L := ⟨_, List.getElem?_eq_getElem (by rw [HFN.out]; exact hlt)⟩
      obtain ⟨g, off, X, x, xc, rfl, hgl, hck, hxl, hxc, hx0, hxr⟩ := (HR.out _ (bt HB1.out HBW.out)).q.at_ (k := k) (l := fl L) (by simp [hkl])
      obtain rfl : L.length = x := by rw [fl_len] at hxl; omega
      have HE := Lib.hid (bkl_succ hkl)
      have hl20 := (HROW.out k L hkl).1
      have HZ := Lib.hid (HROW.out k L hkl).2.1
      have HX := Lib.hid hxr
      have HB := Lib.hid (show szs L L.length = bks L from rfl)
      clear hkl hxl hxr
      go_wp2_with fail
      refine (sumSizes_any _ _ _ L _ rfl HX.out (by omega) HZ.out).mono ?_
      rw [HB.out]
      rintro e w2 ⟨rfl, hg2⟩
      have z2 := hg2.size
      have HO2 := Lib.hid (HO.out.old hg2)
      have HB2 := Lib.hid (bt HBW.out hg2)
      clear hg2
      go_wp2_with (at_builtin; refine append_int rfl _ _ rfl (lo := w1.heap.size) (hh := wr.heap.size) (l := bkl F k) rfl (HO2.out.alloc _) w2.heap.size (bks L) rfl ((Bk.new_ rfl).cell 0) (by omega) (by simp; omega) ?_; intro C2 c2 w4 ho4 hb4; have HO4 := Lib.hid ho4; have HB4 := Lib.hid ((ba HB2.out _).trans hb4); clear ho4 hb4)
      go_roundw
      case rel => exact ⟨k + 1, C2, c2, by omega, by go_num, rfl, by rw [HE.out]; exact HO4.out, HB4.out⟩
      case measure => simp [intOf]; omega
    · obtain rfl : n = k := by omega
      have HA := Lib.hid (bkl_all (F := F) (n := n) (by rw [HFN.out]; exact Nat.le_refl _))
      go_wp2_with fail
      go_ret2
      exact ⟨C, n, c, rfl, by rw [← HA.out]; exact HO.out.lo_le (by omega), bt HB1.out HBW.out⟩
def rdOk (qu li : Int) (F : List (List Pk)) (D : List Int) (nx : Int) (op : Bool) (z : Int) : Bool := fok qu li F D nx op && decide (0 ≤ z ∧ z < (F.length : Int))
/-- How often a quantum must be added. -/
def rdV (s d qu : Int) : Int := if s ≤ d then 0 else (s - d + qu - 1) / qu
def rdR (qu li : Int) (F : List (List Pk)) (D : List Int) (nx : Int) (op : Bool) (z : Int) : Int := if rdOk qu li F D nx op z then rdV (bks (rowF F z.toNat)) (datD D z.toNat) qu else 0
theorem ticksFor_v {s d qu v : Int} (hv : rdV s d qu = v) (h1 : 1 ≤ qu ∧ qu ≤ 3000) (h2 : 0 ≤ s ∧ s ≤ 1000000) (h3 : 0 ≤ d ∧ d ≤ 1000000) (w : World) :
    Calls Try.prog 84 #[.int .i64 d, .int .i64 qu, .int .i64 s] w fun e w' => e = .returned (.int .i64 v) ∧ w = w' := by
  subst hv
  by_cases h : s ≤ d
  · have hR := Lib.hid (show rdV s d qu = 0 from if_pos h)
    go_enter Try.func84, Try.ntmps84
    go_wp2_with fail
    go_ret
    exact ⟨by rw [hR.out]; rfl, rfl⟩
  · have hR := Lib.hid (show rdV s d qu = (s - d + qu - 1) / qu from if_neg h)
    go_enter Try.func84, Try.ntmps84
    go_wp2_with fail
    go_ret
    exact ⟨by rw [hR.out]; rfl, rfl⟩
theorem l1Most_v {x v : Int} (hv : (if x < 0 then 0 else x) = v) (w : World) :
    Calls Try.prog 82 #[.int .i64 0, .int .i64 x] w fun e w' => e = .returned (.int .i64 v) ∧ w = w' := by
  by_cases h : x < 0
  · rw [if_pos h] at hv
    subst hv
    go_enter Try.func82, Try.ntmps82
    go_wp2_with fail
    go_ret
    exact ⟨rfl, rfl⟩
  · rw [if_neg h] at hv
    subst hv
    go_enter Try.func82, Try.ntmps82
    go_wp2_with fail
    go_ret
    exact ⟨rfl, rfl⟩
theorem pkSum_v {s : Int} (A : Option Addr) (n cap : Nat) (L : List Pk) (w : World) (hl : L.length = n) (hr : IRow w A (fl L)) (hn : n ≤ 1000000) (hs : SzOk L) (h : szs L n = s) :
    Calls Try.prog 83 #[.slice A n cap] w fun e w' => e = .returned (.int .i64 s) ∧ Below w.heap.size w w' := h ▸ pkSum_any A n cap L w hl hr hn hs
theorem sumSizes_v {s : Int} (A : Option Addr) (n cap : Nat) (L : List Pk) (w : World) (hl : L.length = n) (hr : IRow w A (fl L)) (hn : n ≤ 1000000) (hs : SzOk L) (h : szs L n = s) :
    Calls Try.prog 85 #[.slice A n cap] w fun e w' => e = .returned (.int .i64 s) ∧ Below w.heap.size w w' := h ▸ sumSizes_any A n cap L w hl hr hn hs
theorem rdV_most {s d qu v : Int} (hv : (if s - d < 0 then 0 else s - d) = v) (h1 : 1 ≤ qu) : rdV s d qu = (v + qu - 1) / qu := by
  unfold rdV
  split at hv
  · rw [if_pos (by omega), ← hv]
    exact (Int.ediv_eq_zero_of_lt (by omega) (by omega)).symm
  · rcases Int.lt_or_le d s with h | h
    · rw [if_neg (by omega), ← hv]
    · rw [if_pos h, ← hv]
      exact (Int.ediv_eq_zero_of_lt (by omega) (by omega)).symm
set_option maxHeartbeats 2000000 in
theorem specRounds_bad (z : Int) (qu li : Int) (A : Option Addr) (n cap : Nat) (B : Option Addr) (m capd : Nat) (nx : Int) (op : Bool) (F : List (List Pk)) (D : List Int) (w : World) (hr : FRow w ⟨A, n, cap, B, m, capd⟩ (F.map fl) D) (hn : n ≤ 1048576) (hm : m ≤ 1048576) (h : rdOk qu li F D nx op z = false) :
    Calls Try.prog 40 #[.agg #[.int .i64 qu, .int .i64 li, .slice A n cap, .slice B m capd, .int .i64 nx, .bool op], .int .i64 z] w fun e w' => e = .returned (.tuple #[.int .i64 (rdR qu li F D nx op z), .bool (rdOk qu li F D nx op z)]) ∧ Below w.heap.size w w' := by
  have HV := Lib.hid (show rdR qu li F D nx op z = 0 by simp [rdR, h])
  have HO := Lib.hid h
  have HFN := Lib.hid (show F.length = n by simpa using hr.qn); have HDN := Lib.hid (show D.length = m from hr.dn); have HR := Lib.hid (fun (W : World) (hb : Below w.heap.size w W) => hr.below hb); clear hr
  have HE := Lib.hid (show rdOk qu li F D nx op z = (fok qu li F D nx op && decide (0 ≤ z ∧ z < (n : Int))) by rw [rdOk, HFN.out])
  clear h
  rcases h : fok qu li F D nx op with _ | _
  · go_enter Try.func40, Try.ntmps40
    go_wp2_with (go_at_call 72; (with_reducible refine (faGood_b _ _ _ _ _ _ _ _ _ _ F D _ (HR.out _ (ba (b0 w) _)) hn hm h).mono ?_); rintro e w1 ⟨rfl, hg⟩; have zhg := hg.size; (try simp at zhg); have c0hg := fun o => bkeep hg (w.heap.size) o (by first | omega | (simp; done) | (simp; omega)); have f0hg := fun o => bfree hg (w.heap.size) o (by first | omega | (simp; done) | (simp; omega)))
    go_ret2
    exact ⟨by rw [HV.out, HO.out]; rfl, (by repeat (first | (with_reducible exact b0 _) | (with_reducible refine ba ?_ _) | (with_reducible refine bd ?_ _) | (with_reducible refine Below.drew ?_) | (with_reducible refine bs ?_ (by first | exact Nat.le_refl _ | exact Nat.le_add_right _ _ | omega) _) | (with_reducible refine bt ?_ (by assumption))))⟩
  · have hz : decide (0 ≤ z ∧ z ≤ (n : Int) - 1) = false := by
      have h1 := HO.out
      rw [HE.out, h, Bool.true_and] at h1
      have := of_decide_eq_false h1
      exact decide_eq_false (by omega)
    go_enter Try.func40, Try.ntmps40
    go_wp2_with (first | (go_at_call 72; (with_reducible refine (faGood_b _ _ _ _ _ _ _ _ _ _ F D _ (HR.out _ (ba (b0 w) _)) hn hm h).mono ?_); rintro e w1 ⟨rfl, hg⟩; have zhg := hg.size; (try simp at zhg); have c0hg := fun o => bkeep hg (w.heap.size) o (by first | omega | (simp; done) | (simp; omega)); have f0hg := fun o => bfree hg (w.heap.size) o (by first | omega | (simp; done) | (simp; omega))) | (go_at_call 61; (with_reducible refine (l1In_b hz _).mono ?_); rintro e w' ⟨rfl, rfl⟩))
    go_ret2
    exact ⟨by rw [HV.out, HO.out]; rfl, (by repeat (first | (with_reducible exact b0 _) | (with_reducible refine ba ?_ _) | (with_reducible refine bd ?_ _) | (with_reducible refine Below.drew ?_) | (with_reducible refine bs ?_ (by first | exact Nat.le_refl _ | exact Nat.le_add_right _ _ | omega) _) | (with_reducible refine bt ?_ (by assumption))))⟩
set_option maxHeartbeats 2000000 in
theorem implRounds_bad (z : Int) (qu li : Int) (A : Option Addr) (n cap : Nat) (B : Option Addr) (m capd : Nat) (nx : Int) (op : Bool) (F : List (List Pk)) (D : List Int) (w : World) (hr : FRow w ⟨A, n, cap, B, m, capd⟩ (F.map fl) D) (hn : n ≤ 1048576) (hm : m ≤ 1048576) (h : rdOk qu li F D nx op z = false) :
    Calls Try.prog 41 #[.agg #[.int .i64 qu, .int .i64 li, .slice A n cap, .slice B m capd, .int .i64 nx, .bool op], .int .i64 z] w fun e w' => e = .returned (.tuple #[.int .i64 (rdR qu li F D nx op z), .bool (rdOk qu li F D nx op z)]) ∧ Below w.heap.size w w' := by
  have HV := Lib.hid (show rdR qu li F D nx op z = 0 by simp [rdR, h])
  have HO := Lib.hid h
  have HFN := Lib.hid (show F.length = n by simpa using hr.qn); have HDN := Lib.hid (show D.length = m from hr.dn); have HR := Lib.hid (fun (W : World) (hb : Below w.heap.size w W) => hr.below hb); clear hr
  have HE := Lib.hid (show rdOk qu li F D nx op z = (fok qu li F D nx op && decide (0 ≤ z ∧ z < (n : Int))) by rw [rdOk, HFN.out])
  clear h
  rcases h : fok qu li F D nx op with _ | _
  · go_enter Try.func41, Try.ntmps41
    go_wp2_with (go_at_call 32; (with_reducible refine (implIsFair_b _ _ _ _ _ _ _ _ _ _ F D _ (HR.out _ (ba (b0 w) _)) hn hm h).mono ?_); rintro e w1 ⟨rfl, hg⟩; have zhg := hg.size; (try simp at zhg); have c0hg := fun o => bkeep hg (w.heap.size) o (by first | omega | (simp; done) | (simp; omega)); have f0hg := fun o => bfree hg (w.heap.size) o (by first | omega | (simp; done) | (simp; omega)))
    go_ret2
    exact ⟨by rw [HV.out, HO.out]; rfl, (by repeat (first | (with_reducible exact b0 _) | (with_reducible refine ba ?_ _) | (with_reducible refine bd ?_ _) | (with_reducible refine Below.drew ?_) | (with_reducible refine bs ?_ (by first | exact Nat.le_refl _ | exact Nat.le_add_right _ _ | omega) _) | (with_reducible refine bt ?_ (by assumption))))⟩
  · have hz : ¬ (0 ≤ z ∧ z < (n : Int)) := by
      have h1 := HO.out
      rw [HE.out, h, Bool.true_and] at h1
      exact of_decide_eq_false h1
    rcases Int.lt_or_le z 0 with h0 | h0
    · go_enter Try.func41, Try.ntmps41
      go_wp2_with (go_at_call 32; (with_reducible refine (implIsFair_b _ _ _ _ _ _ _ _ _ _ F D _ (HR.out _ (ba (b0 w) _)) hn hm h).mono ?_); rintro e w1 ⟨rfl, hg⟩; have zhg := hg.size; (try simp at zhg); have c0hg := fun o => bkeep hg (w.heap.size) o (by first | omega | (simp; done) | (simp; omega)); have f0hg := fun o => bfree hg (w.heap.size) o (by first | omega | (simp; done) | (simp; omega)))
      go_ret2
      exact ⟨by rw [HV.out, HO.out]; rfl, (by repeat (first | (with_reducible exact b0 _) | (with_reducible refine ba ?_ _) | (with_reducible refine bd ?_ _) | (with_reducible refine Below.drew ?_) | (with_reducible refine bs ?_ (by first | exact Nat.le_refl _ | exact Nat.le_add_right _ _ | omega) _) | (with_reducible refine bt ?_ (by assumption))))⟩
    · have h1 : (n : Int) ≤ z := by omega
      clear hz
      go_enter Try.func41, Try.ntmps41
      go_wp2_with (go_at_call 32; (with_reducible refine (implIsFair_b _ _ _ _ _ _ _ _ _ _ F D _ (HR.out _ (ba (b0 w) _)) hn hm h).mono ?_); rintro e w1 ⟨rfl, hg⟩; have zhg := hg.size; (try simp at zhg); have c0hg := fun o => bkeep hg (w.heap.size) o (by first | omega | (simp; done) | (simp; omega)); have f0hg := fun o => bfree hg (w.heap.size) o (by first | omega | (simp; done) | (simp; omega)))
      go_ret2
      exact ⟨by rw [HV.out, HO.out]; rfl, (by repeat (first | (with_reducible exact b0 _) | (with_reducible refine ba ?_ _) | (with_reducible refine bd ?_ _) | (with_reducible refine Below.drew ?_) | (with_reducible refine bs ?_ (by first | exact Nat.le_refl _ | exact Nat.le_add_right _ _ | omega) _) | (with_reducible refine bt ?_ (by assumption))))⟩
set_option maxRecDepth 100000 in
set_option maxHeartbeats 4000000 in
theorem specRounds_yes (i : Nat) (qu li : Int) (A : Option Addr) (n cap : Nat) (B : Option Addr) (m capd : Nat) (nx : Int) (op : Bool) (F : List (List Pk)) (D : List Int) (w : World) (hr : FRow w ⟨A, n, cap, B, m, capd⟩ (F.map fl) D) (hn : n ≤ 1048576) (hm : m ≤ 1048576) (h : fok qu li F D nx op = true) (hi : i < n) :
    Calls Try.prog 40 #[.agg #[.int .i64 qu, .int .i64 li, .slice A n cap, .slice B m capd, .int .i64 nx, .bool op], .int .i64 (i : Int)] w fun e w' => e = .returned (.tuple #[.int .i64 (rdV (bks (rowF F i)) (datD D i) qu), .bool true]) ∧ Below w.heap.size w w' := by
  have HFN := Lib.hid (show F.length = n by simpa using hr.qn); have HDN := Lib.hid (show D.length = m from hr.dn); have HR := Lib.hid (fun (W : World) (hb : Below w.heap.size w W) => hr.below hb); clear hr
  obtain rfl : n = m := by have := (fok_num8 h).2.2.2.1; have := HFN.out; have := HDN.out; omega
  have hn8 : n ≤ 8 := by have := (fok_num8 h).2.2.1; have := HFN.out; omega
  obtain ⟨L, hkl⟩ : ∃ L, F[i]? = some L := ⟨_, List.getElem?_eq_getElem (by rw [HFN.out]; exact hi)⟩; obtain ⟨g, off, X, x, xc, rfl, hgl, hck0, hxl, hxc, hx0, hxr⟩ := (HR.out w (b0 w)).q.at_ (k := i) (l := fl L) (by simp [hkl]); obtain rfl : L.length = x := (by rw [fl_len] at hxl; omega); obtain ⟨gd, od, rfl, hgd, hcd⟩ := (HR.out w (b0 w)).d.at_ (k := i) (by rw [HDN.out]; omega); have hdk0 : w.cell? ⟨gd, od + i, none⟩ = some (.int .i64 (datD D i)) := hcd i (by rw [HDN.out]; omega); have hrow := fok_row h hkl; have h8 := fok_num8 h; have hl20 := hrow.1; have HZ := Lib.hid hrow.2.1; have hd0 := hrow.2.2; have hq := h8.1; have hsb := szs_b hrow.2.1 L.length (Nat.le_refl _); have HRF := Lib.hid (rowF_of hkl); obtain ⟨s, hs⟩ : ∃ s, szs L L.length = s := ⟨_, rfl⟩; obtain ⟨d, hd⟩ : ∃ d, datD D i = d := ⟨_, rfl⟩; rw [hs] at hsb; rw [hd] at hd0 hdk0
  have HV := Lib.hid (show rdV (bks (rowF F i)) (datD D i) qu = rdV s d qu by rw [HRF.out, bks, hs, hd])
  clear hcd hxl hkl hrow h8
  have hz : decide (0 ≤ (i : Int) ∧ (i : Int) ≤ (n : Int) - 1) = true := decide_eq_true (by omega)
  have hi1 : (i : Int) < (n : Int) := by omega
  have hi3 : decide ((n : Int) ≤ (i : Int)) = false := decide_eq_false (by omega)
  have hi4 : decide (n ≤ i) = false := decide_eq_false (by omega)
  go_enter Try.func40, Try.ntmps40
  go_wp2_with fail
  refine (faGood_b _ _ _ _ _ _ _ _ _ _ F D _ (HR.out _ (ba (b0 w) _)) hn hm h).mono ?_
  rintro e w1 ⟨rfl, hg⟩
  have z1 := hg.size
  simp at z1
  have f : Bk w1 (w.heap.size) 56 #[.int .i64 qu, .int .i64 li, .slice (some ⟨g, off, none⟩) n cap, .slice (some ⟨gd, od, none⟩) n capd, .int .i64 nx, .bool op] := (Bk.new w _ _).old hg
  have zf : w.heap.size < w1.heap.size := f.lt
  have f_0 : w1.cell? ⟨w.heap.size, 0, none⟩ = some (.int .i64 qu) := f.cell 0
  have f_1 : w1.cell? ⟨w.heap.size, 1, none⟩ = some (.int .i64 li) := f.cell 1
  have f_2 : w1.cell? ⟨w.heap.size, 2, none⟩ = some (.slice (some ⟨g, off, none⟩) n cap) := f.cell 2
  have f_3 : w1.cell? ⟨w.heap.size, 3, none⟩ = some (.slice (some ⟨gd, od, none⟩) n capd) := f.cell 3
  have f_4 : w1.cell? ⟨w.heap.size, 4, none⟩ = some (.int .i64 nx) := f.cell 4
  have f_5 : w1.cell? ⟨w.heap.size, 5, none⟩ = some (.bool op) := f.cell 5
  have ff := f.free
  have Hf := Lib.hid f
  clear f
  have HB1 := Lib.hid (bt (ba (b0 w) _) hg)
  clear hg
  go_wp2_with (go_at_call 61; (with_reducible refine (l1In_b hz _).mono ?_); rintro e w' ⟨rfl, rfl⟩)
  have q0 : ∀ u : Gr w1, u.v.cell? ⟨w.heap.size, 0, none⟩ = some (.int .i64 qu) := gr_cell f_0; have q2 : ∀ u : Gr w1, u.v.cell? ⟨w.heap.size, 2, none⟩ = some (.slice (some ⟨g, off, none⟩) n cap) := gr_cell f_2; have q3 : ∀ u : Gr w1, u.v.cell? ⟨w.heap.size, 3, none⟩ = some (.slice (some ⟨gd, od, none⟩) n capd) := gr_cell f_3; have qk : ∀ u : Gr w1, u.v.cell? ⟨g, off + i, none⟩ = some (.slice X L.length xc) := gr_cell ((HB1.out.cell (p := ⟨g, off + i, none⟩) hgl).trans hck0); have qd : ∀ u : Gr w1, u.v.cell? ⟨gd, od + i, none⟩ = some (.int .i64 d) := gr_cell ((HB1.out.cell (p := ⟨gd, od + i, none⟩) hgd).trans hdk0); have HX := Lib.hid (fun (u : Gr w1) => (hxr.below HB1.out).below u.h)
  have ws : IntKind.i64.wrap (s - d) = s - d := IntWalk.i64_in _ (by omega)
  obtain ⟨v, hv⟩ : ∃ v, (if s - d < 0 then 0 else s - d) = v := ⟨_, rfl⟩
  have hv2 := rdV_most hv (by omega : 1 ≤ qu)
  have hvb : 0 ≤ v ∧ v ≤ 1000000 := by split at hv <;> omega
  obtain ⟨y, hy⟩ : ∃ y, rdV s d qu = y := ⟨_, rfl⟩
  have HVV := Lib.hid hv
  have HYY := Lib.hid hy
  clear hv hy
  refine wp_region_gr (by kernel_rfl) (by kernel_rfl) ?_
  repeat (go_big_quiet_step ((first | (go_at_call 83; exact gr_of (pkSum_v _ _ _ L _ rfl (HX.out _) (by omega) HZ.out hs)) | (go_at_call 82; exact gr_same (l1Most_v HVV.out _)))))
  refine wpQuiet_nil ?_
  intro _ hw'
  obtain ⟨pq, hw''⟩ := hw'
  subst hw''
  clear ws
  go_wp2_with fail
  go_ret2
  exact ⟨by rw [HV.out, hv2]; rfl, bt HB1.out pq.h⟩
set_option maxRecDepth 100000 in
set_option maxHeartbeats 4000000 in
theorem implRounds_yes (i : Nat) (qu li : Int) (A : Option Addr) (n cap : Nat) (B : Option Addr) (m capd : Nat) (nx : Int) (op : Bool) (F : List (List Pk)) (D : List Int) (w : World) (hr : FRow w ⟨A, n, cap, B, m, capd⟩ (F.map fl) D) (hn : n ≤ 1048576) (hm : m ≤ 1048576) (h : fok qu li F D nx op = true) (hi : i < n) :
    Calls Try.prog 41 #[.agg #[.int .i64 qu, .int .i64 li, .slice A n cap, .slice B m capd, .int .i64 nx, .bool op], .int .i64 (i : Int)] w fun e w' => e = .returned (.tuple #[.int .i64 (rdV (bks (rowF F i)) (datD D i) qu), .bool true]) ∧ Below w.heap.size w w' := by
  have HFN := Lib.hid (show F.length = n by simpa using hr.qn); have HDN := Lib.hid (show D.length = m from hr.dn); have HR := Lib.hid (fun (W : World) (hb : Below w.heap.size w W) => hr.below hb); clear hr
  obtain rfl : n = m := by have := (fok_num8 h).2.2.2.1; have := HFN.out; have := HDN.out; omega
  have hn8 : n ≤ 8 := by have := (fok_num8 h).2.2.1; have := HFN.out; omega
  obtain ⟨L, hkl⟩ : ∃ L, F[i]? = some L := ⟨_, List.getElem?_eq_getElem (by rw [HFN.out]; exact hi)⟩; obtain ⟨g, off, X, x, xc, rfl, hgl, hck0, hxl, hxc, hx0, hxr⟩ := (HR.out w (b0 w)).q.at_ (k := i) (l := fl L) (by simp [hkl]); obtain rfl : L.length = x := (by rw [fl_len] at hxl; omega); obtain ⟨gd, od, rfl, hgd, hcd⟩ := (HR.out w (b0 w)).d.at_ (k := i) (by rw [HDN.out]; omega); have hdk0 : w.cell? ⟨gd, od + i, none⟩ = some (.int .i64 (datD D i)) := hcd i (by rw [HDN.out]; omega); have hrow := fok_row h hkl; have h8 := fok_num8 h; have hl20 := hrow.1; have HZ := Lib.hid hrow.2.1; have hd0 := hrow.2.2; have hq := h8.1; have hsb := szs_b hrow.2.1 L.length (Nat.le_refl _); have HRF := Lib.hid (rowF_of hkl); obtain ⟨s, hs⟩ : ∃ s, szs L L.length = s := ⟨_, rfl⟩; obtain ⟨d, hd⟩ : ∃ d, datD D i = d := ⟨_, rfl⟩; rw [hs] at hsb; rw [hd] at hd0 hdk0
  have HV := Lib.hid (show rdV (bks (rowF F i)) (datD D i) qu = rdV s d qu by rw [HRF.out, bks, hs, hd])
  clear hcd hxl hkl hrow h8
  have hz : decide (0 ≤ (i : Int) ∧ (i : Int) ≤ (n : Int) - 1) = true := decide_eq_true (by omega)
  have hi1 : (i : Int) < (n : Int) := by omega
  have hi3 : decide ((n : Int) ≤ (i : Int)) = false := decide_eq_false (by omega)
  have hi4 : decide (n ≤ i) = false := decide_eq_false (by omega)
  go_enter Try.func41, Try.ntmps41
  go_wp2_with fail
  refine (implIsFair_b _ _ _ _ _ _ _ _ _ _ F D _ (HR.out _ (ba (b0 w) _)) hn hm h).mono ?_
  rintro e w1 ⟨rfl, hg⟩
  have z1 := hg.size
  simp at z1
  have f : Bk w1 (w.heap.size) 56 #[.int .i64 qu, .int .i64 li, .slice (some ⟨g, off, none⟩) n cap, .slice (some ⟨gd, od, none⟩) n capd, .int .i64 nx, .bool op] := (Bk.new w _ _).old hg
  have zf : w.heap.size < w1.heap.size := f.lt
  have f_0 : w1.cell? ⟨w.heap.size, 0, none⟩ = some (.int .i64 qu) := f.cell 0
  have f_1 : w1.cell? ⟨w.heap.size, 1, none⟩ = some (.int .i64 li) := f.cell 1
  have f_2 : w1.cell? ⟨w.heap.size, 2, none⟩ = some (.slice (some ⟨g, off, none⟩) n cap) := f.cell 2
  have f_3 : w1.cell? ⟨w.heap.size, 3, none⟩ = some (.slice (some ⟨gd, od, none⟩) n capd) := f.cell 3
  have f_4 : w1.cell? ⟨w.heap.size, 4, none⟩ = some (.int .i64 nx) := f.cell 4
  have f_5 : w1.cell? ⟨w.heap.size, 5, none⟩ = some (.bool op) := f.cell 5
  have ff := f.free
  have Hf := Lib.hid f
  clear f
  have HB1 := Lib.hid (bt (ba (b0 w) _) hg)
  clear hg
  go_wp2_with (go_at_call 61; (with_reducible refine (l1In_b hz _).mono ?_); rintro e w' ⟨rfl, rfl⟩)
  have q0 : ∀ u : Gr w1, u.v.cell? ⟨w.heap.size, 0, none⟩ = some (.int .i64 qu) := gr_cell f_0; have q2 : ∀ u : Gr w1, u.v.cell? ⟨w.heap.size, 2, none⟩ = some (.slice (some ⟨g, off, none⟩) n cap) := gr_cell f_2; have q3 : ∀ u : Gr w1, u.v.cell? ⟨w.heap.size, 3, none⟩ = some (.slice (some ⟨gd, od, none⟩) n capd) := gr_cell f_3; have qk : ∀ u : Gr w1, u.v.cell? ⟨g, off + i, none⟩ = some (.slice X L.length xc) := gr_cell ((HB1.out.cell (p := ⟨g, off + i, none⟩) hgl).trans hck0); have qd : ∀ u : Gr w1, u.v.cell? ⟨gd, od + i, none⟩ = some (.int .i64 d) := gr_cell ((HB1.out.cell (p := ⟨gd, od + i, none⟩) hgd).trans hdk0); have HX := Lib.hid (fun (u : Gr w1) => (hxr.below HB1.out).below u.h)
  have ws : IntKind.i64.wrap (s - d) = s - d := IntWalk.i64_in _ (by omega)
  obtain ⟨v, hv⟩ : ∃ v, (if s - d < 0 then 0 else s - d) = v := ⟨_, rfl⟩
  have hv2 := rdV_most hv (by omega : 1 ≤ qu)
  have hvb : 0 ≤ v ∧ v ≤ 1000000 := by split at hv <;> omega
  obtain ⟨y, hy⟩ : ∃ y, rdV s d qu = y := ⟨_, rfl⟩
  have HVV := Lib.hid hv
  have HYY := Lib.hid hy
  clear hv hy
  refine wp_region_gr (by kernel_rfl) (by kernel_rfl) ?_
  repeat (go_big_quiet_step ((first | (go_at_call 85; exact gr_of (sumSizes_v _ _ _ L _ rfl (HX.out _) (by omega) HZ.out hs)) | (go_at_call 84; exact gr_same (ticksFor_v HYY.out (by omega) (by omega) (by omega) _)))))
  refine wpQuiet_nil ?_
  intro _ hw'
  obtain ⟨pq, hw''⟩ := hw'
  subst hw''
  clear ws
  go_wp2_with fail
  go_ret2
  exact ⟨by rw [HV.out, HYY.out]; rfl, bt HB1.out pq.h⟩
theorem specRoundsFor_any (z : Int) (qu li : Int) (A : Option Addr) (n cap : Nat) (B : Option Addr) (m capd : Nat) (nx : Int) (op : Bool) (F : List (List Pk)) (D : List Int) (w : World) (hr : FRow w ⟨A, n, cap, B, m, capd⟩ (F.map fl) D) (hn : n ≤ 1048576) (hm : m ≤ 1048576) :
    Calls Try.prog 40 #[.agg #[.int .i64 qu, .int .i64 li, .slice A n cap, .slice B m capd, .int .i64 nx, .bool op], .int .i64 z] w fun e w' => e = .returned (.tuple #[.int .i64 (rdR qu li F D nx op z), .bool (rdOk qu li F D nx op z)]) ∧ Below w.heap.size w w' := by
  rcases h : rdOk qu li F D nx op z with _ | _
  · have := specRounds_bad z qu li A n cap B m capd nx op F D w hr hn hm h
    rwa [h] at this
  · have hfn : F.length = n := by simpa using hr.qn
    have h1 := h
    simp only [rdOk, Bool.and_eq_true, decide_eq_true_eq] at h1
    obtain ⟨i, rfl⟩ : ∃ i : Nat, z = (i : Int) := ⟨z.toNat, by omega⟩
    have hv : rdR qu li F D nx op (i : Int) = rdV (bks (rowF F i)) (datD D i) qu := by simp [rdR, h]
    rw [hv]
    exact specRounds_yes i qu li A n cap B m capd nx op F D w hr hn hm h1.1 (by omega)
theorem implRoundsFor_any (z : Int) (qu li : Int) (A : Option Addr) (n cap : Nat) (B : Option Addr) (m capd : Nat) (nx : Int) (op : Bool) (F : List (List Pk)) (D : List Int) (w : World) (hr : FRow w ⟨A, n, cap, B, m, capd⟩ (F.map fl) D) (hn : n ≤ 1048576) (hm : m ≤ 1048576) :
    Calls Try.prog 41 #[.agg #[.int .i64 qu, .int .i64 li, .slice A n cap, .slice B m capd, .int .i64 nx, .bool op], .int .i64 z] w fun e w' => e = .returned (.tuple #[.int .i64 (rdR qu li F D nx op z), .bool (rdOk qu li F D nx op z)]) ∧ Below w.heap.size w w' := by
  rcases h : rdOk qu li F D nx op z with _ | _
  · have := implRounds_bad z qu li A n cap B m capd nx op F D w hr hn hm h
    rwa [h] at this
  · have hfn : F.length = n := by simpa using hr.qn
    have h1 := h
    simp only [rdOk, Bool.and_eq_true, decide_eq_true_eq] at h1
    obtain ⟨i, rfl⟩ : ∃ i : Nat, z = (i : Int) := ⟨z.toNat, by omega⟩
    have hv : rdR qu li F D nx op (i : Int) = rdV (bks (rowF F i)) (datD D i) qu := by simp [rdR, h]
    rw [hv]
    exact implRounds_yes i qu li A n cap B m capd nx op F D w hr hn hm h1.1 (by omega)
end Go.Proofs.Ytgdldmeeaejjpaa
