/- The contract of what says whether a configuration is valid (the reference's). -/
import Derived.Test.YtjajddhedahpnaaDoorCfgT
import Derived.Test.YtjajddhedahpnaaDoorCfgG
import Derived.Test.YtjajddhedahpnaaDoorCfgN
namespace Go.Proofs.YtjajddhedahpnaaDoor
open Go.ChangeShapes Go.WideShapes Go.ChangeAt Go.RowKit
set_option linter.unusedVariables false
set_option maxHeartbeats 1000000 in
theorem cfGood_any (nm : ByteArray) (A : Option Addr) (n cap : Nat) (B : Option Addr) (m capb : Nat) (df : Int) (L : List Cl) (F : List Fi) (w : World) (hl : L.length = n) (hr : IRow w A (flc L)) (hf : F.length = m) (hrf : IRow w B (flf F)) (hs : nm.size ≤ 1048576) (hm : m ≤ 1048576) : Calls Tryd.prog 26 #[.agg #[.string nm, .slice A n cap, .slice B m capb, .int .i64 df]] w fun e w' => e = .returned (.bool (cg (nmB nm) L F df)) ∧ Below w.heap.size w w' := by
  have HN := Lib.hid (fun W => cfName_any nm W hs)
  have HI := Lib.hid (fun b (h : decide ((1 : Int) ≤ (n : Int) ∧ (n : Int) ≤ 24) = b) W => l1In_b h W)
  have HT := Lib.hid (fun (hn : n ≤ 1000) W (hb : Below w.heap.size w W) => cfTree_any nm A n cap B m capb df L W hl (hr.below hb) hn)
  have HF := Lib.hid (fun (hn : n ≤ 1000) W (hb : Below w.heap.size w W) => cfFilters_any nm A n cap B m capb df L W hl (hr.below hb) hn F hf (hrf.below hb) hm)
  have HG := Lib.hid (fun (hn : n ≤ 1000) W (hb : Below w.heap.size w W) => cfTarget_any df nm A n cap B m capb df L W hl (hr.below hb) hn)
  have HC := Lib.hid (show cg (nmB nm) L F df = ((((nmB nm && decide (1 ≤ n ∧ n ≤ 24)) && tree L) && g9 L F) && (decide (df = 0) || tg L df)) from by rw [← hl]; rfl)
  clear hl hr hf hrf hs
  rcases h1 : nmB nm with _ | _
  · have hR := Lib.hid (show cg false L F df = false from by rw [← h1, HC.out, h1]; rfl)
    rw [h1] at HN
    go_enter Tryd.func26, Tryd.ntmps26
    go_wp2_with fail
    refine (HN.out _).mono ?_
    rintro e w1 ⟨rfl, hb1⟩
    go_wp2_with fail
    go_ret
    exact ⟨by rw [hR.out]; rfl, bt (ba (b0 w) _) hb1⟩
  rw [h1] at HN HC
  by_cases h2 : 1 ≤ n ∧ n ≤ 24
  rotate_left
  · have hR := Lib.hid (show cg true L F df = false from by rw [HC.out, decide_eq_false h2]; rfl)
    have HI2 := Lib.hid (HI.out false (decide_eq_false (by omega)))
    clear h2
    go_enter Tryd.func26, Tryd.ntmps26
    go_wp2_with fail
    refine (HN.out _).mono ?_
    rintro e w1 ⟨rfl, hb1⟩
    have HW := Lib.hid (bt (ba (b0 w) _) hb1)
    have b : Bk w1 (w.heap.size) 34 #[.string nm, .slice A n cap, .slice B m capb, .int .i64 df] := (Bk.new w _ _).old hb1
    have zb : w.heap.size < w1.heap.size := b.lt
    have b_0 : w1.cell? ⟨w.heap.size, 0, none⟩ = some (.string nm) := b.cell 0
    have b_1 : w1.cell? ⟨w.heap.size, 1, none⟩ = some (.slice A n cap) := b.cell 1
    have b_2 : w1.cell? ⟨w.heap.size, 2, none⟩ = some (.slice B m capb) := b.cell 2
    have b_3 : w1.cell? ⟨w.heap.size, 3, none⟩ = some (.int .i64 df) := b.cell 3
    have bf := b.free
    have Hb := Lib.hid b
    clear b
    clear hb1
    go_wp2_with fail
    refine (HI2.out _).mono ?_
    rintro e w2 ⟨rfl, rfl⟩
    go_wp2_with fail
    go_ret
    exact ⟨by rw [hR.out]; rfl, HW.out⟩
  have HI2 := Lib.hid (HI.out true (decide_eq_true (by omega)))
  have hn : n ≤ 1000 := by omega
  have HT2 := Lib.hid (HT.out hn)
  have HF2 := Lib.hid (HF.out hn)
  have HG2 := Lib.hid (HG.out hn)
  have HC2 := Lib.hid (show cg true L F df = ((tree L && g9 L F) && (decide (df = 0) || tg L df)) from by rw [HC.out, decide_eq_true h2]; rfl)
  clear h2 HC HT HF HG HI
  generalize tree L = tb at *
  generalize g9 L F = gb at *
  generalize tg L df = tgb at *
  go_enter Tryd.func26, Tryd.ntmps26
  go_wp2_with fail
  refine (HN.out _).mono ?_
  rintro e w1 ⟨rfl, hb1⟩
  have HX := Lib.hid ((Bk.new w 34 #[.string nm, .slice A n cap, .slice B m capb, .int .i64 df]).old hb1)
  have HW := Lib.hid (bt (ba (b0 w) _) hb1)
  have b : Bk w1 (w.heap.size) 34 #[.string nm, .slice A n cap, .slice B m capb, .int .i64 df] := HX.out
  have zb : w.heap.size < w1.heap.size := b.lt
  have b_0 : w1.cell? ⟨w.heap.size, 0, none⟩ = some (.string nm) := b.cell 0
  have b_1 : w1.cell? ⟨w.heap.size, 1, none⟩ = some (.slice A n cap) := b.cell 1
  have b_2 : w1.cell? ⟨w.heap.size, 2, none⟩ = some (.slice B m capb) := b.cell 2
  have b_3 : w1.cell? ⟨w.heap.size, 3, none⟩ = some (.int .i64 df) := b.cell 3
  have bf := b.free
  have Hb := Lib.hid b
  clear b
  clear hb1
  go_wp2_with fail
  refine (HI2.out _).mono ?_
  rintro e w2 ⟨rfl, rfl⟩
  go_wp2_with fail
  refine (HT2.out _ HW.out).mono ?_
  rintro e w2 ⟨rfl, hb2⟩
  have HX2 := Lib.hid (HX.out.old hb2)
  have HW2 := Lib.hid (bt HW.out hb2)
  clear hb2 b_0 b_1 b_2 b_3 bf zb Hb
  have b : Bk w2 (w.heap.size) 34 #[.string nm, .slice A n cap, .slice B m capb, .int .i64 df] := HX2.out
  have zb : w.heap.size < w2.heap.size := b.lt
  have b_0 : w2.cell? ⟨w.heap.size, 0, none⟩ = some (.string nm) := b.cell 0
  have b_1 : w2.cell? ⟨w.heap.size, 1, none⟩ = some (.slice A n cap) := b.cell 1
  have b_2 : w2.cell? ⟨w.heap.size, 2, none⟩ = some (.slice B m capb) := b.cell 2
  have b_3 : w2.cell? ⟨w.heap.size, 3, none⟩ = some (.int .i64 df) := b.cell 3
  have bf := b.free
  have Hb := Lib.hid b
  clear b
  rcases tb with _ | _
  · go_wp2_with fail
    go_ret
    exact ⟨by rw [HC2.out]; rfl, HW2.out⟩
  go_wp2_with fail
  refine (HF2.out _ HW2.out).mono ?_
  rintro e w3 ⟨rfl, hb3⟩
  have HX3 := Lib.hid (HX2.out.old hb3)
  have HW3 := Lib.hid (bt HW2.out hb3)
  clear hb3 b_0 b_1 b_2 b_3 bf zb Hb
  have b : Bk w3 (w.heap.size) 34 #[.string nm, .slice A n cap, .slice B m capb, .int .i64 df] := HX3.out
  have zb : w.heap.size < w3.heap.size := b.lt
  have b_0 : w3.cell? ⟨w.heap.size, 0, none⟩ = some (.string nm) := b.cell 0
  have b_1 : w3.cell? ⟨w.heap.size, 1, none⟩ = some (.slice A n cap) := b.cell 1
  have b_2 : w3.cell? ⟨w.heap.size, 2, none⟩ = some (.slice B m capb) := b.cell 2
  have b_3 : w3.cell? ⟨w.heap.size, 3, none⟩ = some (.int .i64 df) := b.cell 3
  have bf := b.free
  have Hb := Lib.hid b
  clear b
  rcases gb with _ | _
  · go_wp2_with fail
    go_ret
    exact ⟨by rw [HC2.out]; rfl, HW3.out⟩
  by_cases h0 : df = 0
  · have hR := Lib.hid (show cg true L F df = true from by rw [HC2.out, decide_eq_true h0]; rfl)
    have h0b : (df == 0) = true := by rw [beq_iff_eq]; exact h0
    clear h0
    go_wp2_with fail
    go_ret
    exact ⟨by rw [hR.out]; rfl, HW3.out⟩
  · have hR := Lib.hid (show cg true L F df = tgb from by rw [HC2.out, decide_eq_false h0]; cases tgb <;> rfl)
    go_wp2_with fail
    refine (HG2.out _ HW3.out).mono ?_
    rintro e w4 ⟨rfl, hb4⟩
    go_wp2_with fail
    go_ret
    exact ⟨ret_b (by rw [hR.out]; simp [h0]), bt HW3.out hb4⟩
end Go.Proofs.YtjajddhedahpnaaDoor
