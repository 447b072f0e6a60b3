/- The contract of what says whether a configuration is valid (the program's): its ten conditions one by one. (Printed by cfgen5.py.) -/
import Derived.Test.YtjajddhedahpnaaDoorCfgF
import Derived.Test.YtjajddhedahpnaaDoorCfgG
import Derived.Test.YtjajddhedahpnaaDoorCfgN
namespace Go.Proofs.YtjajddhedahpnaaDoor
open Go.ChangeShapes Go.WideShapes Go.ChangeAt Go.RowKit
set_option linter.unusedVariables false
theorem not_fst (p : Nat → Bool) (n : Nat) : (!decide (0 ≤ fstI n (fun k => !p k))) = allB n p := by
  rw [Bool.eq_iff_iff, allB_iff]
  rcases fstI_cases n (fun k => !p k) with ⟨k, hk, h1, _, h⟩ | ⟨h1, h⟩
  · rw [h]
    constructor
    · intro h2
      rw [Bool.not_eq_true', decide_eq_false_iff_not] at h2
      omega
    · intro h2
      have := h2 k hk
      simp [this] at h1
  · rw [h]
    refine ⟨fun _ i hi => ?_, fun _ => rfl⟩
    have := h1 i hi
    simpa using this
theorem g5_ra {L : List Cl} (h : g5 L = true) : raB L := fun k hk => by
  have h1 := (allB_iff.1 h) k hk
  have h2 := of_decide_eq_true h1
  exact h2.1
/-- The k-th condition. -/
def hd (nm : ByteArray) (L : List Cl) (F : List Fi) (df : Int) : Nat → Bool
  | 1 => nmB nm
  | 2 => g2 L
  | 3 => g3 L
  | 4 => g4 L
  | 5 => g5 L
  | 6 => g6 L
  | 7 => g7 L
  | 8 => g8 L
  | 9 => g9 L F
  | _ => g10 L df
theorem cg_iff {nm : ByteArray} {L : List Cl} {F : List Fi} {df : Int} : cg (nmB nm) L F df = true ↔ ∀ k, 1 ≤ k → k ≤ 10 → hd nm L F df k = true := by
  have hN : g2 L = true → 1 ≤ L.length ∧ L.length ≤ 24 := fun h => by
    unfold g2 at h
    rw [Bool.and_eq_true] at h
    exact of_decide_eq_true h.2
  constructor
  · intro h
    unfold cg at h
    simp only [Bool.and_eq_true, decide_eq_true_eq] at h
    obtain ⟨⟨⟨⟨h1, h2⟩, h3⟩, h9⟩, h10⟩ := h
    rw [tree_eq L h2] at h3
    simp only [Bool.and_eq_true] at h3
    obtain ⟨⟨⟨⟨⟨⟨t2, t3⟩, t4⟩, t5⟩, t6⟩, t7⟩, t8⟩ := h3
    intro k k1 k2
    obtain rfl | rfl | rfl | rfl | rfl | rfl | rfl | rfl | rfl | rfl : k = 1 ∨ k = 2 ∨ k = 3 ∨ k = 4 ∨ k = 5 ∨ k = 6 ∨ k = 7 ∨ k = 8 ∨ k = 9 ∨ k = 10 := by omega
    all_goals assumption
  · intro h
    have t2 : g2 L = true := h 2 (by omega) (by omega)
    have hn := hN t2
    unfold cg
    rw [tree_eq L hn, show nmB nm = true from h 1 (by omega) (by omega), decide_eq_true hn, t2, show g3 L = true from h 3 (by omega) (by omega), show g4 L = true from h 4 (by omega) (by omega), show g5 L = true from h 5 (by omega) (by omega), show g6 L = true from h 6 (by omega) (by omega), show g7 L = true from h 7 (by omega) (by omega), show g8 L = true from h 8 (by omega) (by omega), show g9 L F = true from h 9 (by omega) (by omega), show g10 L df = true from h 10 (by omega) (by omega)]
    rfl
theorem cg_no {nm : ByteArray} {L : List Cl} {F : List Fi} {df : Int} {k : Nat} (k1 : 1 ≤ k) (k2 : k ≤ 10) (h : hd nm L F df k = false) : cg (nmB nm) L F df = false := by
  rcases hc : cg (nmB nm) L F df with _ | _
  · rfl
  · rw [cg_iff.1 hc k k1 k2] at h
    cases h
theorem cg_big {nm : ByteArray} {L : List Cl} {F : List Fi} {df : Int} (h : 24 < L.length ∨ 16 < F.length) : cg (nmB nm) L F df = false := by
  rcases hc : cg (nmB nm) L F df with _ | _
  · rfl
  · have h2 := cg_iff.1 hc 2 (by omega) (by omega)
    have h9 := cg_iff.1 hc 9 (by omega) (by omega)
    simp only [hd, g2, g9, Bool.and_eq_true, decide_eq_true_eq] at h2 h9
    have := h2.2
    have := h9.2
    omega
set_option maxHeartbeats 1000000 in
theorem holds_1 (nm : ByteArray) (A : Option Addr) (n cap : Nat) (B : Option Addr) (m capb : Nat) (df : Int) (L : List Cl) (F : List Fi) (w : World) (hl : L.length = n) (hr : IRow w A (flc L)) (hf : F.length = m) (hrf : IRow w B (flf F)) (hn : n ≤ 1000) (hm : m ≤ 1000) (hky : KeysOk w)  : Calls Tryd.prog 51 #[.agg #[.string nm, .slice A n cap, .slice B m capb, .int .i64 df], .int .i64 1] w fun e w' => e = .returned (.bool (hd nm L F df 1)) ∧ Below w.heap.size w w' := by
  have HC := Lib.hid (fun W (hb : Below w.heap.size w W) => isName_any nm W (hky.below hb))
  clear hl hr hf hrf hky
  go_enter Tryd.func51, Tryd.ntmps51
  go_wp2_with fail
  refine (HC.out _ (ba (b0 w) _)).mono ?_
  rintro e w1 ⟨rfl, rfl⟩
  go_wp2_with fail
  go_ret
  exact ⟨rfl, ba (b0 w) _⟩
set_option maxHeartbeats 1000000 in
theorem holds_2 (nm : ByteArray) (A : Option Addr) (n cap : Nat) (B : Option Addr) (m capb : Nat) (df : Int) (L : List Cl) (F : List Fi) (w : World) (hl : L.length = n) (hr : IRow w A (flc L)) (hf : F.length = m) (hrf : IRow w B (flf F)) (hn : n ≤ 1000) (hm : m ≤ 1000) (hky : KeysOk w)  : Calls Tryd.prog 51 #[.agg #[.string nm, .slice A n cap, .slice B m capb, .int .i64 df], .int .i64 2] w fun e w' => e = .returned (.bool (hd nm L F df 2)) ∧ Below w.heap.size w w' := by
  have HC := Lib.hid (fun W (hb : Below w.heap.size w W) => idsRight_any nm A n cap B m capb df L W hl (hr.below hb) hn)
  clear hl hr hf hrf hky
  go_enter Tryd.func51, Tryd.ntmps51
  go_wp2_with fail
  refine (HC.out _ (ba (b0 w) _)).mono ?_
  rintro e w1 ⟨rfl, hb1⟩
  go_wp2_with fail
  go_ret
  exact ⟨rfl, bt (ba (b0 w) _) hb1⟩
set_option maxHeartbeats 1000000 in
theorem holds_3 (nm : ByteArray) (A : Option Addr) (n cap : Nat) (B : Option Addr) (m capb : Nat) (df : Int) (L : List Cl) (F : List Fi) (w : World) (hl : L.length = n) (hr : IRow w A (flc L)) (hf : F.length = m) (hrf : IRow w B (flf F)) (hn : n ≤ 1000) (hm : m ≤ 1000) (hky : KeysOk w)  : Calls Tryd.prog 51 #[.agg #[.string nm, .slice A n cap, .slice B m capb, .int .i64 df], .int .i64 3] w fun e w' => e = .returned (.bool (hd nm L F df 3)) ∧ Below w.heap.size w w' := by
  have HC := Lib.hid (fun W (hb : Below w.heap.size w W) => parentsRight_any nm A n cap B m capb df L W hl (hr.below hb) hn)
  clear hl hr hf hrf hky
  go_enter Tryd.func51, Tryd.ntmps51
  go_wp2_with fail
  refine (HC.out _ (ba (b0 w) _)).mono ?_
  rintro e w1 ⟨rfl, hb1⟩
  go_wp2_with fail
  go_ret
  exact ⟨rfl, bt (ba (b0 w) _) hb1⟩
set_option maxHeartbeats 1000000 in
theorem holds_4 (nm : ByteArray) (A : Option Addr) (n cap : Nat) (B : Option Addr) (m capb : Nat) (df : Int) (L : List Cl) (F : List Fi) (w : World) (hl : L.length = n) (hr : IRow w A (flc L)) (hf : F.length = m) (hrf : IRow w B (flf F)) (hn : n ≤ 1000) (hm : m ≤ 1000) (hky : KeysOk w)  : Calls Tryd.prog 51 #[.agg #[.string nm, .slice A n cap, .slice B m capb, .int .i64 df], .int .i64 4] w fun e w' => e = .returned (.bool (hd nm L F df 4)) ∧ Below w.heap.size w w' := by
  have HC := Lib.hid (fun W (hb : Below w.heap.size w W) => waysRight_any nm A n cap B m capb df L W hl (hr.below hb) hn)
  clear hl hr hf hrf hky
  go_enter Tryd.func51, Tryd.ntmps51
  go_wp2_with fail
  refine (HC.out _ (ba (b0 w) _)).mono ?_
  rintro e w1 ⟨rfl, hb1⟩
  go_wp2_with fail
  go_ret
  exact ⟨rfl, bt (ba (b0 w) _) hb1⟩
set_option maxHeartbeats 1000000 in
theorem holds_5 (nm : ByteArray) (A : Option Addr) (n cap : Nat) (B : Option Addr) (m capb : Nat) (df : Int) (L : List Cl) (F : List Fi) (w : World) (hl : L.length = n) (hr : IRow w A (flc L)) (hf : F.length = m) (hrf : IRow w B (flf F)) (hn : n ≤ 1000) (hm : m ≤ 1000) (hky : KeysOk w)  : Calls Tryd.prog 51 #[.agg #[.string nm, .slice A n cap, .slice B m capb, .int .i64 df], .int .i64 5] w fun e w' => e = .returned (.bool (hd nm L F df 5)) ∧ Below w.heap.size w w' := by
  have HG := Lib.hid (show (!decide (0 ≤ fstI n (fun k => !rok (cat L k)))) = g5 L from by rw [not_fst (fun k => rok (cat L k)), ← hl]; rfl)
  have HC := Lib.hid (fun W (hb : Below w.heap.size w W) => cfcR_any A n cap L W hl (hr.below hb) (by omega))
  clear hl hr hf hrf hky
  go_enter Tryd.func51, Tryd.ntmps51
  go_wp2_with fail
  refine (HC.out _ (ba (b0 w) _)).mono ?_
  rintro e w1 ⟨rfl, hb1⟩
  generalize decide (0 ≤ fstI n (fun k => !rok (cat L k))) = q at *
  go_wp2_with fail
  go_ret
  exact ⟨ret_b HG.out, bt (ba (b0 w) _) hb1⟩
set_option maxHeartbeats 1000000 in
theorem holds_7 (nm : ByteArray) (A : Option Addr) (n cap : Nat) (B : Option Addr) (m capb : Nat) (df : Int) (L : List Cl) (F : List Fi) (w : World) (hl : L.length = n) (hr : IRow w A (flc L)) (hf : F.length = m) (hrf : IRow w B (flf F)) (hn : n ≤ 1000) (hm : m ≤ 1000) (hky : KeysOk w)  : Calls Tryd.prog 51 #[.agg #[.string nm, .slice A n cap, .slice B m capb, .int .i64 df], .int .i64 7] w fun e w' => e = .returned (.bool (hd nm L F df 7)) ∧ Below w.heap.size w w' := by
  have HG := Lib.hid (show (!decide (0 ≤ fstI n (fun k => !bok (cat L k)))) = g7 L from by rw [not_fst (fun k => bok (cat L k)), ← hl]; rfl)
  have HC := Lib.hid (fun W (hb : Below w.heap.size w W) => cfcB_any A n cap L W hl (hr.below hb) (by omega))
  clear hl hr hf hrf hky
  go_enter Tryd.func51, Tryd.ntmps51
  go_wp2_with fail
  refine (HC.out _ (ba (b0 w) _)).mono ?_
  rintro e w1 ⟨rfl, hb1⟩
  generalize decide (0 ≤ fstI n (fun k => !bok (cat L k))) = q at *
  go_wp2_with fail
  go_ret
  exact ⟨ret_b HG.out, bt (ba (b0 w) _) hb1⟩
set_option maxHeartbeats 1000000 in
theorem holds_6 (nm : ByteArray) (A : Option Addr) (n cap : Nat) (B : Option Addr) (m capb : Nat) (df : Int) (L : List Cl) (F : List Fi) (w : World) (hl : L.length = n) (hr : IRow w A (flc L)) (hf : F.length = m) (hrf : IRow w B (flf F)) (hn : n ≤ 1000) (hm : m ≤ 1000) (hky : KeysOk w) (hra : raB L) : Calls Tryd.prog 51 #[.agg #[.string nm, .slice A n cap, .slice B m capb, .int .i64 df], .int .i64 6] w fun e w' => e = .returned (.bool (hd nm L F df 6)) ∧ Below w.heap.size w w' := by
  have HO := Lib.hid (fun W (hb : Below w.heap.size w W) => overfull_any nm A n cap B m capb df L W hl (hr.below hb) hn hra)
  have HG := Lib.hid (show decide ((((flt (ovf L) n).length : Nat) : Int) = 0) = g6 L from by rw [flt_all, ← hl]; rfl)
  have HC := Lib.hid (fun W (hb : Below w.heap.size w W) => ratesCountable_any nm A n cap B m capb df L W hl (hr.below hb) hn hra)
  clear hl hr hf hrf hky
  go_enter Tryd.func51, Tryd.ntmps51
  go_wp2_with fail
  refine (HC.out _ (ba (b0 w) _)).mono ?_
  rintro e w1 ⟨rfl, hb1⟩
  have HB1 := Lib.hid (bt (ba (b0 w) _) hb1)
  have b : Bk w1 (w.heap.size) 34 #[.string nm, .slice A n cap, .slice B m capb, .int .i64 df] := (Bk.new w _ _).old hb1
  have zb : w.heap.size < w1.heap.size := b.lt
  have b_0 : w1.cell? ⟨w.heap.size, 0, none⟩ = some (.string nm) := b.cell 0
  have b_1 : w1.cell? ⟨w.heap.size, 1, none⟩ = some (.slice A n cap) := b.cell 1
  have b_2 : w1.cell? ⟨w.heap.size, 2, none⟩ = some (.slice B m capb) := b.cell 2
  have b_3 : w1.cell? ⟨w.heap.size, 3, none⟩ = some (.int .i64 df) := b.cell 3
  have bf := b.free
  have Hb := Lib.hid b
  clear b
  clear hb1
  go_wp2_with fail
  refine (HO.out _ HB1.out).mono ?_
  rintro e w2 ⟨C, c, rfl, hb2⟩
  generalize (flt (ovf L) n).length = f at *
  go_wp2_with fail
  go_ret
  exact ⟨ret_b (by rw [show hd nm L F df 6 = g6 L from rfl, ← HG.out, Bool.eq_iff_iff]; simp), bt HB1.out hb2⟩
set_option maxHeartbeats 1000000 in
theorem holds_9 (nm : ByteArray) (A : Option Addr) (n cap : Nat) (B : Option Addr) (m capb : Nat) (df : Int) (L : List Cl) (F : List Fi) (w : World) (hl : L.length = n) (hr : IRow w A (flc L)) (hf : F.length = m) (hrf : IRow w B (flf F)) (hn : n ≤ 1000) (hm : m ≤ 1000) (hky : KeysOk w)  : Calls Tryd.prog 51 #[.agg #[.string nm, .slice A n cap, .slice B m capb, .int .i64 df], .int .i64 9] w fun e w' => e = .returned (.bool (hd nm L F df 9)) ∧ Below w.heap.size w w' := by
  have HC := Lib.hid (fun W (hb : Below w.heap.size w W) => filtersRight_any nm A n cap B m capb df L W hl (hr.below hb) hn F hf (hrf.below hb) (by omega))
  clear hl hr hf hrf hky
  go_enter Tryd.func51, Tryd.ntmps51
  go_wp2_with fail
  refine (HC.out _ (ba (b0 w) _)).mono ?_
  rintro e w1 ⟨rfl, hb1⟩
  go_wp2_with fail
  go_ret
  exact ⟨rfl, bt (ba (b0 w) _) hb1⟩
set_option maxHeartbeats 1000000 in
theorem holds_10 (nm : ByteArray) (A : Option Addr) (n cap : Nat) (B : Option Addr) (m capb : Nat) (df : Int) (L : List Cl) (F : List Fi) (w : World) (hl : L.length = n) (hr : IRow w A (flc L)) (hf : F.length = m) (hrf : IRow w B (flf F)) (hn : n ≤ 1000) (hm : m ≤ 1000) (hky : KeysOk w) : Calls Tryd.prog 51 #[.agg #[.string nm, .slice A n cap, .slice B m capb, .int .i64 df], .int .i64 10] w fun e w' => e = .returned (.bool (hd nm L F df 10)) ∧ Below w.heap.size w w' := by
  have HC := Lib.hid (fun W (hb : Below w.heap.size w W) => isLeafId_any df nm A n cap B m capb df L W hl (hr.below hb) hn)
  have HG := Lib.hid (show hd nm L F df 10 = (decide (df = 0) || tg L df) from rfl)
  clear hl hr hf hrf hky
  by_cases h0 : df = 0
  · go_enter Tryd.func51, Tryd.ntmps51
    go_wp2_with fail
    go_ret
    exact ⟨ret_b (by rw [HG.out, decide_eq_true h0]; rfl), ba (b0 w) _⟩
  · go_enter Tryd.func51, Tryd.ntmps51
    go_wp2_with fail
    refine (HC.out _ (ba (b0 w) _)).mono ?_
    rintro e w1 ⟨rfl, hb1⟩
    go_wp2_with fail
    go_ret
    exact ⟨ret_b (by rw [HG.out, Bool.eq_iff_iff]; simp), bt (ba (b0 w) _) hb1⟩
set_option maxHeartbeats 1000000 in
theorem holds_8 (nm : ByteArray) (A : Option Addr) (n cap : Nat) (B : Option Addr) (m capb : Nat) (df : Int) (L : List Cl) (F : List Fi) (w : World) (hl : L.length = n) (hr : IRow w A (flc L)) (hf : F.length = m) (hrf : IRow w B (flf F)) (hn : n ≤ 1000) (hm : m ≤ 1000) (hky : KeysOk w) : Calls Tryd.prog 51 #[.agg #[.string nm, .slice A n cap, .slice B m capb, .int .i64 df], .int .i64 8] w fun e w' => e = .returned (.bool (hd nm L F df 8)) ∧ Below w.heap.size w w' := by
  have HC := Lib.hid (fun i (hi : i < n) W (hb : Below w.heap.size w W) => limitRight_any i nm A n cap B m capb df L W hl (hr.below hb) hn hi)
  have HL := Lib.hid hl
  clear hl hr hf hrf hky
  go_enter Tryd.func51, Tryd.ntmps51
  go_wp2_with fail
  go_loopw [51] (fun z wr => ∃ k : Nat, k ≤ n ∧ z = .int .i64 k ∧ (∀ j, j < k → lim L j = true) ∧ Bk wr w.heap.size 34 #[.string nm, .slice A n cap, .slice B m capb, .int .i64 df] ∧ Below w.heap.size w wr) (fun z _ => n - (intOf z).toNat)
  case atStart => exact ⟨0, Nat.zero_le _, rfl, all_zero, Bk.new _ _ _, ba (b0 _) _⟩
  case round =>
    obtain ⟨k, hk, rfl, hall, hbx, hbw⟩ := hrel
    have HA := Lib.hid hall
    have HX := Lib.hid hbx
    have HW := Lib.hid hbw
    clear hall hbx hbw
    by_cases hlt : k < n
    · have HQ := Lib.hid (HC.out k hlt wr HW.out)
      have b : Bk wr (w.heap.size) 34 #[.string nm, .slice A n cap, .slice B m capb, .int .i64 df] := HX.out
      have zb : w.heap.size < wr.heap.size := b.lt
      have b_0 : wr.cell? ⟨w.heap.size, 0, none⟩ = some (.string nm) := b.cell 0
      have b_1 : wr.cell? ⟨w.heap.size, 1, none⟩ = some (.slice A n cap) := b.cell 1
      have b_2 : wr.cell? ⟨w.heap.size, 2, none⟩ = some (.slice B m capb) := b.cell 2
      have b_3 : wr.cell? ⟨w.heap.size, 3, none⟩ = some (.int .i64 df) := b.cell 3
      have bf := b.free
      have Hb := Lib.hid b
      clear b
      rcases hlm : lim L k with _ | _
      · have hR := Lib.hid (show hd nm L F df 8 = false from allB_no (by rw [HL.out]; exact hlt) hlm)
        rw [hlm] at HQ
        go_wp2_with fail
        refine HQ.out.mono ?_
        rintro e w1 ⟨rfl, hb1⟩
        go_wp2_with fail
        go_ret
        exact ⟨by rw [hR.out]; rfl, bt HW.out hb1⟩
      · have hR := Lib.hid (all_succ HA.out hlm)
        rw [hlm] at HQ
        go_wp2_with fail
        refine HQ.out.mono ?_
        rintro e w1 ⟨rfl, hb1⟩
        have HX1 := Lib.hid (HX.out.old hb1)
        have HW1 := Lib.hid (bt HW.out hb1)
        clear hb1 b_0 b_1 b_2 b_3 bf zb
        go_wp2_with fail
        go_roundw
        case rel => exact ⟨k + 1, by omega, by go_num, hR.out, HX1.out, HW1.out⟩
        case measure => simp [intOf]; omega
    · obtain rfl : k = n := by omega
      have hR := Lib.hid (show hd nm L F df 8 = true from allB_yes (by rw [HL.out]; exact HA.out))
      go_wp2_with fail
      go_ret
      exact ⟨by rw [hR.out]; rfl, HW.out⟩
theorem holds_any (k : Nat) (k1 : 1 ≤ k) (k2 : k ≤ 10) (nm : ByteArray) (A : Option Addr) (n cap : Nat) (B : Option Addr) (m capb : Nat) (df : Int) (L : List Cl) (F : List Fi) (w : World) (hl : L.length = n) (hr : IRow w A (flc L)) (hf : F.length = m) (hrf : IRow w B (flf F)) (hn : n ≤ 1000) (hm : m ≤ 1000) (hky : KeysOk w) (hra : k = 6 → raB L) : Calls Tryd.prog 51 #[.agg #[.string nm, .slice A n cap, .slice B m capb, .int .i64 df], .int .i64 (k : Int)] w fun e w' => e = .returned (.bool (hd nm L F df k)) ∧ Below w.heap.size w w' := by
  obtain rfl | rfl | rfl | rfl | rfl | rfl | rfl | rfl | rfl | rfl : k = 1 ∨ k = 2 ∨ k = 3 ∨ k = 4 ∨ k = 5 ∨ k = 6 ∨ k = 7 ∨ k = 8 ∨ k = 9 ∨ k = 10 := by omega
  · exact holds_1 nm A n cap B m capb df L F w hl hr hf hrf hn hm hky
  · exact holds_2 nm A n cap B m capb df L F w hl hr hf hrf hn hm hky
  · exact holds_3 nm A n cap B m capb df L F w hl hr hf hrf hn hm hky
  · exact holds_4 nm A n cap B m capb df L F w hl hr hf hrf hn hm hky
  · exact holds_5 nm A n cap B m capb df L F w hl hr hf hrf hn hm hky
  · exact holds_6 nm A n cap B m capb df L F w hl hr hf hrf hn hm hky (hra rfl)
  · exact holds_7 nm A n cap B m capb df L F w hl hr hf hrf hn hm hky
  · exact holds_8 nm A n cap B m capb df L F w hl hr hf hrf hn hm hky
  · exact holds_9 nm A n cap B m capb df L F w hl hr hf hrf hn hm hky
  · exact holds_10 nm A n cap B m capb df L F w hl hr hf hrf hn hm hky
set_option maxHeartbeats 1000000 in
theorem isConfig_any (nm : ByteArray) (A : Option Addr) (n cap : Nat) (B : Option Addr) (m capb : Nat) (df : Int) (L : List Cl) (F : List Fi) (w : World) (hl : L.length = n) (hr : IRow w A (flc L)) (hf : F.length = m) (hrf : IRow w B (flf F)) (hky : KeysOk w) : Calls Tryd.prog 31 #[.agg #[.string nm, .slice A n cap, .slice B m capb, .int .i64 df]] w fun e w' => e = .returned (.bool (cg (nmB nm) L F df)) ∧ Below w.heap.size w w' := by
  by_cases h24 : 24 < n
  · have hR := Lib.hid (cg_big (nm := nm) (L := L) (F := F) (df := df) (by omega))
    have g1 : (24 : Int) < (n : Int) := by omega
    clear hl hr hf hrf hky
    go_enter Tryd.func31, Tryd.ntmps31
    go_wp2_with fail
    go_ret
    exact ⟨by rw [hR.out]; rfl, ba (b0 w) _⟩
  by_cases h16 : 16 < m
  · have hR := Lib.hid (cg_big (nm := nm) (L := L) (F := F) (df := df) (by omega))
    have g1 : ¬ (24 : Int) < (n : Int) := by omega
    have g2 : (16 : Int) < (m : Int) := by omega
    clear hl hr hf hrf hky
    go_enter Tryd.func31, Tryd.ntmps31
    go_wp2_with fail
    go_ret
    exact ⟨by rw [hR.out]; rfl, ba (b0 w) _⟩
  have HH := Lib.hid (fun k (k1 : 1 ≤ k) (k2 : k ≤ 10) (hra : k = 6 → raB L) W (hb : Below w.heap.size w W) => holds_any k k1 k2 nm A n cap B m capb df L F W hl (hr.below hb) hf (hrf.below hb) (by omega) (by omega) (hky.below hb) hra)
  have g1 : ¬ (24 : Int) < (n : Int) := by omega
  have g2 : ¬ (16 : Int) < (m : Int) := by omega
  clear hl hr hf hrf hky h24 h16
  go_enter Tryd.func31, Tryd.ntmps31
  go_wp2_with fail
  go_loopw [3] (fun z wr => ∃ k : Nat, 1 ≤ k ∧ k ≤ 11 ∧ z = .int .i64 k ∧ (∀ j, 1 ≤ j → j < k → hd nm L F df j = true) ∧ Bk wr w.heap.size 34 #[.string nm, .slice A n cap, .slice B m capb, .int .i64 df] ∧ Below w.heap.size w wr) (fun z _ => 11 - (intOf z).toNat)
  case atStart => exact ⟨1, by omega, by omega, rfl, fun j h1 h2 => by omega, Bk.new _ _ _, ba (b0 _) _⟩
  case round =>
    obtain ⟨k, k1, k2, rfl, hall, hbx, hbw⟩ := hrel
    have HA := Lib.hid hall
    have HX := Lib.hid hbx
    have HW := Lib.hid hbw
    clear hall hbx hbw
    by_cases hlt : k ≤ 10
    · have HQ := Lib.hid (HH.out k k1 hlt (fun h6 => g5_ra (HA.out 5 (by omega) (by omega))) wr HW.out)
      have hki : (k : Int) ≤ 10 := by omega
      have hw1 : IntKind.i64.wrap ((k : Int) + 1) = (k : Int) + 1 := IntWalk.i64_in _ (by omega)
      have b : Bk wr (w.heap.size) 34 #[.string nm, .slice A n cap, .slice B m capb, .int .i64 df] := HX.out
      have zb : w.heap.size < wr.heap.size := b.lt
      have b_0 : wr.cell? ⟨w.heap.size, 0, none⟩ = some (.string nm) := b.cell 0
      have b_1 : wr.cell? ⟨w.heap.size, 1, none⟩ = some (.slice A n cap) := b.cell 1
      have b_2 : wr.cell? ⟨w.heap.size, 2, none⟩ = some (.slice B m capb) := b.cell 2
      have b_3 : wr.cell? ⟨w.heap.size, 3, none⟩ = some (.int .i64 df) := b.cell 3
      have bf := b.free
      have Hb := Lib.hid b
      clear b
      rcases hk : hd nm L F df k with _ | _
      · have hR := Lib.hid (cg_no k1 hlt hk)
        rw [hk] at HQ
        go_wp2_with fail
        refine HQ.out.mono ?_
        rintro e w1 ⟨rfl, hb1⟩
        go_wp2_with fail
        go_ret
        exact ⟨by rw [hR.out]; rfl, bt HW.out hb1⟩
      · have hR := Lib.hid (show ∀ j, 1 ≤ j → j < k + 1 → hd nm L F df j = true from fun j h1 h2 => by
          by_cases hj : j < k
          · exact HA.out j h1 hj
          · obtain rfl : j = k := by omega
            exact hk)
        rw [hk] at HQ
        go_wp2_with fail
        refine HQ.out.mono ?_
        rintro e w1 ⟨rfl, hb1⟩
        have HX1 := Lib.hid (HX.out.old hb1)
        have HW1 := Lib.hid (bt HW.out hb1)
        clear hb1 b_0 b_1 b_2 b_3 bf zb hk
        go_wp2_with fail
        go_roundw
        case rel => exact ⟨k + 1, by omega, by omega, by go_num, hR.out, HX1.out, HW1.out⟩
        case measure => simp [intOf]; omega
    · have hR := Lib.hid (show cg (nmB nm) L F df = true from cg_iff.2 fun j h1 h2 => HA.out j h1 (by omega))
      have hki : ¬ (k : Int) ≤ 10 := by omega
      go_wp2_with fail
      go_ret
      exact ⟨by rw [hR.out]; rfl, HW.out⟩
end Go.Proofs.YtjajddhedahpnaaDoor
