/- The contracts of the filters of a configuration, on both sides. (Printed by cfgen3.py.) -/
import Derived.Test.YtjajddhedahpnaaDoorCfgD
namespace Go.Proofs.YtjajddhedahpnaaDoor
open Go.ChangeShapes Go.WideShapes Go.ChangeAt Go.RowKit
set_option linter.unusedVariables false

theorem cfFilter_b {b : Bool} {x : Fi} (h : fok x = b) (w : World) : Calls Tryd.prog 64 #[.agg #[.int .i64 (x.pr), .int .i64 (x.fi), .int .i64 (x.ma), .int .i64 (x.va), .int .i64 (x.ta)]] w fun e w' => e = .returned (.bool b) ∧ Below w.heap.size w w' := h ▸ cfFilter_any x w
theorem filterRight_b {b : Bool} {x : Fi} (h : fok x = b) (w : World) : Calls Tryd.prog 91 #[.agg #[.int .i64 (x.pr), .int .i64 (x.fi), .int .i64 (x.ma), .int .i64 (x.va), .int .i64 (x.ta)]] w fun e w' => e = .returned (.bool b) ∧ Below w.heap.size w w' := h ▸ filterRight_any x w
def fgd (L : List Cl) (F : List Fi) (k : Nat) : Bool := (fok (fat F k) && incF F k) && tg L (fat F k).ta
theorem g9_no {L : List Cl} {F : List Fi} {k : Nat} (hk : k < F.length) (h : fgd L F k = false) : g9 L F = false := by
  unfold g9
  rw [allB_no (g := fun k => (fok (fat F k) && incF F k) && tg L (fat F k).ta) hk h]
  rfl
theorem g9_yes {L : List Cl} {F : List Fi} {n : Nat} (hn : F.length = n) (h : ∀ k, k < n → fgd L F k = true) : g9 L F = decide (n ≤ 16) := by
  subst hn
  unfold g9
  rw [allB_yes (g := fun k => (fok (fat F k) && incF F k) && tg L (fat F k).ta) h]
  rfl
theorem lastF_of {F : List Fi} {k p : Nat} (h : k = p + 1) : lastF F k = (fat F p).pr := by subst h; rfl
set_option maxHeartbeats 2000000 in
theorem filtersRight_any (nm : ByteArray) (A : Option Addr) (n cap : Nat) (B : Option Addr) (m capb : Nat) (df : Int) (L : List Cl) (w : World) (hl : L.length = n) (hr : IRow w A (flc L)) (hn : n ≤ 1000) (F : List Fi) (hf : F.length = m) (hrf : IRow w B (flf F)) (hm : m ≤ 1048576) : Calls Tryd.prog 77 #[.agg #[.string nm, .slice A n cap, .slice B m capb, .int .i64 df]] w fun e w' => e = .returned (.bool (g9 L F)) ∧ Below w.heap.size w w' := by
  have HTG := Lib.hid (fun id W (hb : Below w.heap.size w W) => isLeafId_any id nm A n cap B m capb df L W hl (hr.below hb) hn)
  have HL := Lib.hid hf
  have HR := Lib.hid hrf
  clear hl hr hf hrf
  go_enter Tryd.func77, Tryd.ntmps77
  go_wp2_with fail
  go_loopw [8] (fun z wr => ∃ k : Nat, k ≤ m ∧ z = .int .i64 k ∧ (∀ j, j < k → fgd L F j = true) ∧ Bk wr w.heap.size 34 #[.string nm, .slice A n cap, .slice B m capb, .int .i64 df] ∧ Below w.heap.size w wr) (fun z _ => m - (intOf z).toNat)
  case atStart => exact ⟨0, Nat.zero_le _, rfl, all_zero, Bk.new _ _ _, ba (b0 _) _⟩
  case round =>
    obtain ⟨k, hk, rfl, hall, hbx, hbw⟩ := hrel
    have HA := Lib.hid hall
    have HX := Lib.hid hbx
    have HW := Lib.hid hbw
    have zx := hbx.lt
    clear hall hbx hbw
    by_cases hlt : k < m
    · have hkL : k < F.length := by have := HL.out; omega
      obtain ⟨g, off, rfl, hg, hcs⟩ := frow (HR.out.below HW.out) (k := k) hkL
      obtain ⟨c0, c1, c2, c3, c4⟩ := hcs k hkL
      obtain ⟨x, hx⟩ : ∃ x, x = fat F k := ⟨_, rfl⟩
      rw [← hx] at c0 c1 c2 c3 c4
      have HXX := Lib.hid hx
      clear hx
      go_wp2_with fail
      obtain ⟨W, hW⟩ : ∃ W, W = wr.alloc (.cells #[.int .i64 x.pr, .int .i64 x.fi, .int .i64 x.ma, .int .i64 x.va, .int .i64 x.ta] 62) := ⟨_, rfl⟩
      rw [← hW]
      have HBX := Lib.hid (show Bk W w.heap.size 34 #[.string nm, .slice A n cap, .slice (some ⟨g, off, none⟩) m capb, .int .i64 df] from by rw [hW]; exact HX.out.alloc _)
      have HEL := Lib.hid (show Bk W wr.heap.size 62 #[.int .i64 x.pr, .int .i64 x.fi, .int .i64 x.ma, .int .i64 x.va, .int .i64 x.ta] from by rw [hW]; exact Bk.new _ _ _)
      have HBW := Lib.hid (show Below w.heap.size w W from by rw [hW]; exact ba HW.out _)
      have hcW : ∀ j, j < F.length → FiAt W g off j (fat F j) := fun j hj => (hcs j hj).below (by rw [hW]; exact ba (b0 _) _) hg
      have zW : wr.heap.size < W.heap.size := by rw [hW]; simp
      have zg : g < W.heap.size := by omega
      clear hW hcs c0 c1 c2 c3 c4
      have HNO := Lib.hid (fun (h : ((fok x && incF F k) && tg L x.ta) = false) => g9_no (L := L) (F := F) (k := k) hkL (by unfold fgd; rw [← HXX.out]; exact h))
      have HYE := Lib.hid (fun (h : ((fok x && incF F k) && tg L x.ta) = true) => all_succ (g := fgd L F) HA.out (show fgd L F k = true from by unfold fgd; rw [← HXX.out]; exact h))
      have HQ := Lib.hid (fun (u : Gr W) => HTG.out x.ta u.v (bt HBW.out u.h))
      have pb0 := fun (u : Gr W) => gr_cell (HBX.out.cell 0) u
      have pb1 := fun (u : Gr W) => gr_cell (HBX.out.cell 1) u
      have pb2 := fun (u : Gr W) => gr_cell (HBX.out.cell 2) u
      have pb3 := fun (u : Gr W) => gr_cell (HBX.out.cell 3) u
      have pe0 := fun (u : Gr W) => gr_cell (HEL.out.cell 0) u
      have pe1 := fun (u : Gr W) => gr_cell (HEL.out.cell 1) u
      have pe2 := fun (u : Gr W) => gr_cell (HEL.out.cell 2) u
      have pe3 := fun (u : Gr W) => gr_cell (HEL.out.cell 3) u
      have pe4 := fun (u : Gr W) => gr_cell (HEL.out.cell 4) u
      rcases hok : fok x with _ | _
      · have HN := Lib.hid (HNO.out (by rw [hok]; rfl))
        · clear hcW
          refine wp_region_gr (by kernel_rfl) (by kernel_rfl) ?_
          repeat (go_big_quiet_step ((first | (go_at_call 91; (with_reducible exact gr_of (filterRight_b hok _))) | (go_at_call 78; (with_reducible exact gr_of (HQ.out _))))))
          refine wpQuiet_nil ?_
          intro _ hw'
          obtain ⟨pq, hw''⟩ := hw'
          subst hw''
          go_wp2_with fail
          go_ret
          exact ⟨by rw [HN.out]; rfl, bt HBW.out pq.h⟩
      by_cases h0 : k = 0
      · have hk0 : decide ((0 : Int) < (k : Int)) = false := by rw [decide_eq_false_iff_not]; omega
        have hk0' : decide (0 < k) = false := by rw [decide_eq_false_iff_not]; omega
        have hinc : incF F k = true := decide_eq_true (.inl h0)
        clear hcW h0
        rcases htg : tg L x.ta with _ | _
        · have HN := Lib.hid (HNO.out (by rw [hok, hinc]; rw [htg, Bool.and_false]))
          rw [htg] at HQ
          refine wp_region_gr (by kernel_rfl) (by kernel_rfl) ?_
          repeat (go_big_quiet_step ((first | (go_at_call 91; (with_reducible exact gr_of (filterRight_b hok _))) | (go_at_call 78; (with_reducible exact gr_of (HQ.out _))))))
          refine wpQuiet_nil ?_
          intro _ hw'
          obtain ⟨pq, hw''⟩ := hw'
          subst hw''
          go_wp2_with fail
          go_ret
          exact ⟨by rw [HN.out]; rfl, bt HBW.out pq.h⟩
        · have HY := Lib.hid (HYE.out (by rw [hok, hinc]; rw [htg]; rfl))
          rw [htg] at HQ
          refine wp_region_gr (by kernel_rfl) (by kernel_rfl) ?_
          repeat (go_big_quiet_step ((first | (go_at_call 91; (with_reducible exact gr_of (filterRight_b hok _))) | (go_at_call 78; (with_reducible exact gr_of (HQ.out _))))))
          refine wpQuiet_nil ?_
          intro _ hw'
          obtain ⟨pq, hw''⟩ := hw'
          subst hw''
          go_wp2_with fail
          go_roundw
          case rel => exact ⟨k + 1, by omega, by go_num, HY.out, HBX.out.old pq.h, bt HBW.out pq.h⟩
          case measure => simp [intOf]; omega
      · obtain ⟨p, hp⟩ : ∃ p, k = p + 1 := ⟨k - 1, by omega⟩
        obtain ⟨d0, d1, d2, d3, d4⟩ := hcW p (by omega)
        have pp := fun (u : Gr W) => gr_cell d0 u
        have HLC := Lib.hid (lastF_of (F := F) hp)
        have hk0 : decide ((0 : Int) < (k : Int)) = true := by rw [decide_eq_true_iff]; omega
        have hk0' : decide (0 < k) = true := by rw [decide_eq_true_iff]; omega
        have hp1 : IntKind.i64.wrap ((k : Int) - 1) = (p : Int) := by rw [IntWalk.i64_in _ (by omega)]; omega
        have p0 : (0 : Int) ≤ (p : Int) := by omega
        have p1 : (p : Int) < (m : Int) := by omega
        have HINC := Lib.hid (fun b (h : decide ((fat F p).pr < x.pr) = b) => show incF F k = b from by unfold incF; rw [HLC.out, ← HXX.out, ← h, decide_eq_decide]; omega)
        clear hcW d0 d1 d2 d3 d4 hp
        generalize (fat F p).pr = q at *
        by_cases hle : x.pr ≤ q
        · have hinc := HINC.out false (decide_eq_false (by omega))
          have HN := Lib.hid (HNO.out (by rw [hinc, Bool.and_false]; rfl))
          have hdl : decide (x.pr ≤ q) = true := decide_eq_true hle
          refine wp_region_gr (by kernel_rfl) (by kernel_rfl) ?_
          repeat (go_big_quiet_step ((first | (go_at_call 91; (with_reducible exact gr_of (filterRight_b hok _))) | (go_at_call 78; (with_reducible exact gr_of (HQ.out _))))))
          refine wpQuiet_nil ?_
          intro _ hw'
          obtain ⟨pq, hw''⟩ := hw'
          subst hw''
          go_wp2_with fail
          go_ret
          exact ⟨by rw [HN.out]; rfl, bt HBW.out pq.h⟩
        · have hinc := HINC.out true (decide_eq_true (by omega))
          have hdl : decide (x.pr ≤ q) = false := decide_eq_false hle
          rcases htg : tg L x.ta with _ | _
          · have HN := Lib.hid (HNO.out (by rw [hok, hinc]; rw [htg, Bool.and_false]))
            rw [htg] at HQ
            refine wp_region_gr (by kernel_rfl) (by kernel_rfl) ?_
            repeat (go_big_quiet_step ((first | (go_at_call 91; (with_reducible exact gr_of (filterRight_b hok _))) | (go_at_call 78; (with_reducible exact gr_of (HQ.out _))))))
            refine wpQuiet_nil ?_
            intro _ hw'
            obtain ⟨pq, hw''⟩ := hw'
            subst hw''
            go_wp2_with fail
            go_ret
            exact ⟨by rw [HN.out]; rfl, bt HBW.out pq.h⟩
          · have HY := Lib.hid (HYE.out (by rw [hok, hinc]; rw [htg]; rfl))
            rw [htg] at HQ
            refine wp_region_gr (by kernel_rfl) (by kernel_rfl) ?_
            repeat (go_big_quiet_step ((first | (go_at_call 91; (with_reducible exact gr_of (filterRight_b hok _))) | (go_at_call 78; (with_reducible exact gr_of (HQ.out _))))))
            refine wpQuiet_nil ?_
            intro _ hw'
            obtain ⟨pq, hw''⟩ := hw'
            subst hw''
            go_wp2_with fail
            go_roundw
            case rel => exact ⟨k + 1, by omega, by go_num, HY.out, HBX.out.old pq.h, bt HBW.out pq.h⟩
            case measure => simp [intOf]; omega
    · obtain rfl : k = m := by omega
      have HG := Lib.hid (show g9 L F = decide ((k : Int) ≤ 16) from by rw [g9_yes HL.out HA.out, decide_eq_decide]; omega)
      have b : Bk wr (w.heap.size) 34 #[.string nm, .slice A n cap, .slice B k capb, .int .i64 df] := HX.out
      have zb : w.heap.size < wr.heap.size := b.lt
      have b_0 : wr.cell? ⟨w.heap.size, 0, none⟩ = some (.string nm) := b.cell 0
      have b_1 : wr.cell? ⟨w.heap.size, 1, none⟩ = some (.slice A n cap) := b.cell 1
      have b_2 : wr.cell? ⟨w.heap.size, 2, none⟩ = some (.slice B k capb) := b.cell 2
      have b_3 : wr.cell? ⟨w.heap.size, 3, none⟩ = some (.int .i64 df) := b.cell 3
      have bf := b.free
      have Hb := Lib.hid b
      clear b
      go_wp2_with fail
      go_ret
      exact ⟨ret_b HG.out.symm, HW.out⟩

set_option maxHeartbeats 2000000 in
theorem cfFilters_any (nm : ByteArray) (A : Option Addr) (n cap : Nat) (B : Option Addr) (m capb : Nat) (df : Int) (L : List Cl) (w : World) (hl : L.length = n) (hr : IRow w A (flc L)) (hn : n ≤ 1000) (F : List Fi) (hf : F.length = m) (hrf : IRow w B (flf F)) (hm : m ≤ 1048576) : Calls Tryd.prog 45 #[.agg #[.string nm, .slice A n cap, .slice B m capb, .int .i64 df]] w fun e w' => e = .returned (.bool (g9 L F)) ∧ Below w.heap.size w w' := by
  have HTG := Lib.hid (fun id W (hb : Below w.heap.size w W) => cfTarget_any id nm A n cap B m capb df L W hl (hr.below hb) hn)
  have HL := Lib.hid hf
  have HR := Lib.hid hrf
  clear hl hr hf hrf
  go_enter Tryd.func45, Tryd.ntmps45
  go_wp2_with fail
  go_loopw [8] (fun z wr => ∃ k : Nat, k ≤ m ∧ z = .int .i64 k ∧ (∀ j, j < k → fgd L F j = true) ∧ Bk wr w.heap.size 34 #[.string nm, .slice A n cap, .slice B m capb, .int .i64 df] ∧ Below w.heap.size w wr) (fun z _ => m - (intOf z).toNat)
  case atStart => exact ⟨0, Nat.zero_le _, rfl, all_zero, Bk.new _ _ _, ba (b0 _) _⟩
  case round =>
    obtain ⟨k, hk, rfl, hall, hbx, hbw⟩ := hrel
    have HA := Lib.hid hall
    have HX := Lib.hid hbx
    have HW := Lib.hid hbw
    have zx := hbx.lt
    clear hall hbx hbw
    by_cases hlt : k < m
    · have hkL : k < F.length := by have := HL.out; omega
      obtain ⟨g, off, rfl, hg, hcs⟩ := frow (HR.out.below HW.out) (k := k) hkL
      obtain ⟨c0, c1, c2, c3, c4⟩ := hcs k hkL
      obtain ⟨x, hx⟩ : ∃ x, x = fat F k := ⟨_, rfl⟩
      rw [← hx] at c0 c1 c2 c3 c4
      have HXX := Lib.hid hx
      clear hx
      go_wp2_with fail
      obtain ⟨W, hW⟩ : ∃ W, W = wr.alloc (.cells #[.int .i64 x.pr, .int .i64 x.fi, .int .i64 x.ma, .int .i64 x.va, .int .i64 x.ta] 62) := ⟨_, rfl⟩
      rw [← hW]
      have HBX := Lib.hid (show Bk W w.heap.size 34 #[.string nm, .slice A n cap, .slice (some ⟨g, off, none⟩) m capb, .int .i64 df] from by rw [hW]; exact HX.out.alloc _)
      have HEL := Lib.hid (show Bk W wr.heap.size 62 #[.int .i64 x.pr, .int .i64 x.fi, .int .i64 x.ma, .int .i64 x.va, .int .i64 x.ta] from by rw [hW]; exact Bk.new _ _ _)
      have HBW := Lib.hid (show Below w.heap.size w W from by rw [hW]; exact ba HW.out _)
      have hcW : ∀ j, j < F.length → FiAt W g off j (fat F j) := fun j hj => (hcs j hj).below (by rw [hW]; exact ba (b0 _) _) hg
      have zW : wr.heap.size < W.heap.size := by rw [hW]; simp
      have zg : g < W.heap.size := by omega
      clear hW hcs c0 c1 c2 c3 c4
      have HNO := Lib.hid (fun (h : ((fok x && incF F k) && tg L x.ta) = false) => g9_no (L := L) (F := F) (k := k) hkL (by unfold fgd; rw [← HXX.out]; exact h))
      have HYE := Lib.hid (fun (h : ((fok x && incF F k) && tg L x.ta) = true) => all_succ (g := fgd L F) HA.out (show fgd L F k = true from by unfold fgd; rw [← HXX.out]; exact h))
      have HQ := Lib.hid (fun (u : Gr W) => HTG.out x.ta u.v (bt HBW.out u.h))
      have pb0 := fun (u : Gr W) => gr_cell (HBX.out.cell 0) u
      have pb1 := fun (u : Gr W) => gr_cell (HBX.out.cell 1) u
      have pb2 := fun (u : Gr W) => gr_cell (HBX.out.cell 2) u
      have pb3 := fun (u : Gr W) => gr_cell (HBX.out.cell 3) u
      have pe0 := fun (u : Gr W) => gr_cell (HEL.out.cell 0) u
      have pe1 := fun (u : Gr W) => gr_cell (HEL.out.cell 1) u
      have pe2 := fun (u : Gr W) => gr_cell (HEL.out.cell 2) u
      have pe3 := fun (u : Gr W) => gr_cell (HEL.out.cell 3) u
      have pe4 := fun (u : Gr W) => gr_cell (HEL.out.cell 4) u
      rcases hok : fok x with _ | _
      · have HN := Lib.hid (HNO.out (by rw [hok]; rfl))
        · clear hcW
          refine wp_region_gr (by kernel_rfl) (by kernel_rfl) ?_
          repeat (go_big_quiet_step ((first | (go_at_call 64; (with_reducible exact gr_of (cfFilter_b hok _))) | (go_at_call 46; (with_reducible exact gr_of (HQ.out _))))))
          refine wpQuiet_nil ?_
          intro _ hw'
          obtain ⟨pq, hw''⟩ := hw'
          subst hw''
          go_wp2_with fail
          go_ret
          exact ⟨by rw [HN.out]; rfl, bt HBW.out pq.h⟩
      by_cases h0 : k = 0
      · have hk0 : decide ((0 : Int) < (k : Int)) = false := by rw [decide_eq_false_iff_not]; omega
        have hk0' : decide (0 < k) = false := by rw [decide_eq_false_iff_not]; omega
        have hinc : incF F k = true := decide_eq_true (.inl h0)
        clear hcW h0
        rcases htg : tg L x.ta with _ | _
        · have HN := Lib.hid (HNO.out (by rw [hok, hinc]; rw [htg, Bool.and_false]))
          rw [htg] at HQ
          refine wp_region_gr (by kernel_rfl) (by kernel_rfl) ?_
          repeat (go_big_quiet_step ((first | (go_at_call 64; (with_reducible exact gr_of (cfFilter_b hok _))) | (go_at_call 46; (with_reducible exact gr_of (HQ.out _))))))
          refine wpQuiet_nil ?_
          intro _ hw'
          obtain ⟨pq, hw''⟩ := hw'
          subst hw''
          go_wp2_with fail
          go_ret
          exact ⟨by rw [HN.out]; rfl, bt HBW.out pq.h⟩
        · have HY := Lib.hid (HYE.out (by rw [hok, hinc]; rw [htg]; rfl))
          rw [htg] at HQ
          refine wp_region_gr (by kernel_rfl) (by kernel_rfl) ?_
          repeat (go_big_quiet_step ((first | (go_at_call 64; (with_reducible exact gr_of (cfFilter_b hok _))) | (go_at_call 46; (with_reducible exact gr_of (HQ.out _))))))
          refine wpQuiet_nil ?_
          intro _ hw'
          obtain ⟨pq, hw''⟩ := hw'
          subst hw''
          go_wp2_with fail
          go_roundw
          case rel => exact ⟨k + 1, by omega, by go_num, HY.out, HBX.out.old pq.h, bt HBW.out pq.h⟩
          case measure => simp [intOf]; omega
      · obtain ⟨p, hp⟩ : ∃ p, k = p + 1 := ⟨k - 1, by omega⟩
        obtain ⟨d0, d1, d2, d3, d4⟩ := hcW p (by omega)
        have pp := fun (u : Gr W) => gr_cell d0 u
        have HLC := Lib.hid (lastF_of (F := F) hp)
        have hk0 : decide ((0 : Int) < (k : Int)) = true := by rw [decide_eq_true_iff]; omega
        have hk0' : decide (0 < k) = true := by rw [decide_eq_true_iff]; omega
        have hp1 : IntKind.i64.wrap ((k : Int) - 1) = (p : Int) := by rw [IntWalk.i64_in _ (by omega)]; omega
        have p0 : (0 : Int) ≤ (p : Int) := by omega
        have p1 : (p : Int) < (m : Int) := by omega
        have HINC := Lib.hid (fun b (h : decide ((fat F p).pr < x.pr) = b) => show incF F k = b from by unfold incF; rw [HLC.out, ← HXX.out, ← h, decide_eq_decide]; omega)
        clear hcW d0 d1 d2 d3 d4 hp
        generalize (fat F p).pr = q at *
        by_cases hle : x.pr ≤ q
        · have hinc := HINC.out false (decide_eq_false (by omega))
          have HN := Lib.hid (HNO.out (by rw [hinc, Bool.and_false]; rfl))
          have hdl : decide (x.pr ≤ q) = true := decide_eq_true hle
          refine wp_region_gr (by kernel_rfl) (by kernel_rfl) ?_
          repeat (go_big_quiet_step ((first | (go_at_call 64; (with_reducible exact gr_of (cfFilter_b hok _))) | (go_at_call 46; (with_reducible exact gr_of (HQ.out _))))))
          refine wpQuiet_nil ?_
          intro _ hw'
          obtain ⟨pq, hw''⟩ := hw'
          subst hw''
          go_wp2_with fail
          go_ret
          exact ⟨by rw [HN.out]; rfl, bt HBW.out pq.h⟩
        · have hinc := HINC.out true (decide_eq_true (by omega))
          have hdl : decide (x.pr ≤ q) = false := decide_eq_false hle
          rcases htg : tg L x.ta with _ | _
          · have HN := Lib.hid (HNO.out (by rw [hok, hinc]; rw [htg, Bool.and_false]))
            rw [htg] at HQ
            refine wp_region_gr (by kernel_rfl) (by kernel_rfl) ?_
            repeat (go_big_quiet_step ((first | (go_at_call 64; (with_reducible exact gr_of (cfFilter_b hok _))) | (go_at_call 46; (with_reducible exact gr_of (HQ.out _))))))
            refine wpQuiet_nil ?_
            intro _ hw'
            obtain ⟨pq, hw''⟩ := hw'
            subst hw''
            go_wp2_with fail
            go_ret
            exact ⟨by rw [HN.out]; rfl, bt HBW.out pq.h⟩
          · have HY := Lib.hid (HYE.out (by rw [hok, hinc]; rw [htg]; rfl))
            rw [htg] at HQ
            refine wp_region_gr (by kernel_rfl) (by kernel_rfl) ?_
            repeat (go_big_quiet_step ((first | (go_at_call 64; (with_reducible exact gr_of (cfFilter_b hok _))) | (go_at_call 46; (with_reducible exact gr_of (HQ.out _))))))
            refine wpQuiet_nil ?_
            intro _ hw'
            obtain ⟨pq, hw''⟩ := hw'
            subst hw''
            go_wp2_with fail
            go_roundw
            case rel => exact ⟨k + 1, by omega, by go_num, HY.out, HBX.out.old pq.h, bt HBW.out pq.h⟩
            case measure => simp [intOf]; omega
    · obtain rfl : k = m := by omega
      have HG := Lib.hid (show g9 L F = decide ((k : Int) ≤ 16) from by rw [g9_yes HL.out HA.out, decide_eq_decide]; omega)
      have b : Bk wr (w.heap.size) 34 #[.string nm, .slice A n cap, .slice B k capb, .int .i64 df] := HX.out
      have zb : w.heap.size < wr.heap.size := b.lt
      have b_0 : wr.cell? ⟨w.heap.size, 0, none⟩ = some (.string nm) := b.cell 0
      have b_1 : wr.cell? ⟨w.heap.size, 1, none⟩ = some (.slice A n cap) := b.cell 1
      have b_2 : wr.cell? ⟨w.heap.size, 2, none⟩ = some (.slice B k capb) := b.cell 2
      have b_3 : wr.cell? ⟨w.heap.size, 3, none⟩ = some (.int .i64 df) := b.cell 3
      have bf := b.free
      have Hb := Lib.hid b
      clear b
      go_wp2_with fail
      go_ret
      exact ⟨ret_b HG.out.symm, HW.out⟩

end Go.Proofs.YtjajddhedahpnaaDoor
