/- The contract of the reference's tree of classes. (Printed by cfgen4.py.) -/
import Derived.Test.YtjajddhedahpnaaDoorCfgE
namespace Go.Proofs.YtjajddhedahpnaaDoor
open Go.ChangeShapes Go.WideShapes Go.ChangeAt Go.RowKit
set_option linter.unusedVariables false

theorem cfClass_b {b : Bool} {c : Cl} (h : cok c = b) (w : World) : Calls Tryd.prog 60 #[.agg #[.int .i64 (c.id), .int .i64 (c.pa), .int .i64 (c.ra), .int .i64 (c.ce), .int .i64 (c.bu), .int .i64 (c.cb), .int .i64 (c.pr), .int .i64 (c.li)]] w fun e w' => e = .returned (.bool b) ∧ Below w.heap.size w w' := h ▸ cfClass_any c w
theorem l1In_b {b : Bool} {x y z : Int} (h : decide (y ≤ x ∧ x ≤ z) = b) (w : World) : Calls Tryd.prog 43 #[.int .i64 x, .int .i64 y, .int .i64 z] w fun e w' => e = .returned (.bool b) ∧ w = w' := h ▸ l1In_any x y z w
def t1 (L : List Cl) (k : Nat) : Bool := cok (cat L k) && inc L k
def t2 (L : List Cl) (k : Nat) : Bool := (upk L 8 k && decide (ks L k ≤ (cat L k).ra)) && lim L k
theorem tree_def (L : List Cl) : tree L = (allB L.length (t1 L) && decide (topsTo L L.length = 1) && allB L.length (t2 L)) := rfl
theorem tree_no1 {L : List Cl} {k : Nat} (hk : k < L.length) (h : t1 L k = false) : tree L = false := by rw [tree_def, allB_no hk h]; rfl
theorem tree_no2 {L : List Cl} {k : Nat} (hk : k < L.length) (h : t2 L k = false) : tree L = false := by rw [tree_def, allB_no hk h, Bool.and_false]
theorem tree_no3 {L : List Cl} (h : topsTo L L.length ≠ 1) : tree L = false := by rw [tree_def, decide_eq_false h, Bool.and_false]; rfl
theorem tree_yes {L : List Cl} (h1 : ∀ k, k < L.length → t1 L k = true) (h2 : topsTo L L.length = 1) (h3 : ∀ k, k < L.length → t2 L k = true) : tree L = true := by rw [tree_def, allB_yes h1, decide_eq_true h2, allB_yes h3]; rfl
theorem raB_of {L : List Cl} (h1 : ∀ k, k < L.length → t1 L k = true) : raB L := fun k hk => by
  have h := h1 k hk
  simp only [t1, Bool.and_eq_true] at h
  exact (cok_iff.1 h.1).2.1
theorem lastC_of' {L : List Cl} {k p : Nat} (h : k = p + 1) : lastC L k = (cat L p).id := by subst h; rfl
set_option maxHeartbeats 4000000 in
theorem cfTree_any (nm : ByteArray) (A : Option Addr) (n cap : Nat) (B : Option Addr) (m capb : Nat) (df : Int) (L : List Cl) (w : World) (hl : L.length = n) (hr : IRow w A (flc L)) (hn : n ≤ 1000) : Calls Tryd.prog 44 #[.agg #[.string nm, .slice A n cap, .slice B m capb, .int .i64 df]] w fun e w' => e = .returned (.bool (tree L)) ∧ Below w.heap.size w w' := by
  have HUP := Lib.hid (fun k (hk : k < n) W (hb : Below w.heap.size w W) => cfUp_any k nm A n cap B m capb df L W hl (hr.below hb) hn hk)
  have HLF := Lib.hid (fun k (hk : k < n) W (hb : Below w.heap.size w W) => cfLeaf_any k nm A n cap B m capb df L W hl (hr.below hb) hn hk)
  have HSP := Lib.hid (fun k (hk : k < n) (hra : raB L) W (hb : Below w.heap.size w W) => cfSpare_any k nm A n cap B m capb df L W hl (hr.below hb) hn hk hra)
  have HL := Lib.hid hl
  have HR := Lib.hid hr
  clear hl hr
  go_enter Tryd.func44, Tryd.ntmps44
  go_wp2_with fail
  go_loopw [3, 12] (fun v z wr => ∃ k : Nat, k ≤ n ∧ z = .int .i64 k ∧ v = .int .i64 ((topsTo L k : Nat) : Int) ∧ (∀ j, j < k → t1 L j = true) ∧ Bk wr w.heap.size 34 #[.string nm, .slice A n cap, .slice B m capb, .int .i64 df] ∧ Below w.heap.size w wr) (fun _ z _ => n - (intOf z).toNat)
  case atStart => exact ⟨0, Nat.zero_le _, rfl, rfl, all_zero, Bk.new _ _ _, ba (b0 _) _⟩
  case round =>
    obtain ⟨k, hk, rfl, rfl, hall, hbx, hbw⟩ := hrel
    have HA := Lib.hid hall
    have HX := Lib.hid hbx
    have HW := Lib.hid hbw
    have zx := hbx.lt
    have htl := topsTo_le L k
    clear hall hbx hbw
    by_cases hlt : k < n
    · have hkL : k < L.length := by have := HL.out; omega
      obtain ⟨g, off, rfl, hg, hcs⟩ := crow (HR.out.below HW.out) (k := k) (by have := HL.out; omega)
      obtain ⟨c0, c1, c2, c3, c4, c5, c6, c7⟩ := hcs k (by have := HL.out; omega)
      obtain ⟨x, hx⟩ : ∃ x, x = cat L k := ⟨_, rfl⟩
      rw [← hx] at c0 c1 c2 c3 c4 c5 c6 c7
      have HXX := Lib.hid hx
      clear hx
      go_wp2_with fail
      obtain ⟨W, hW⟩ : ∃ W, W = wr.alloc (.cells #[.int .i64 x.id, .int .i64 x.pa, .int .i64 x.ra, .int .i64 x.ce, .int .i64 x.bu, .int .i64 x.cb, .int .i64 x.pr, .int .i64 x.li] 74) := ⟨_, rfl⟩
      rw [← hW]
      have HBX := Lib.hid (show Bk W w.heap.size 34 #[.string nm, .slice (some ⟨g, off, none⟩) n cap, .slice B m capb, .int .i64 df] from by rw [hW]; exact HX.out.alloc _)
      have HEL := Lib.hid (show Bk W wr.heap.size 74 #[.int .i64 x.id, .int .i64 x.pa, .int .i64 x.ra, .int .i64 x.ce, .int .i64 x.bu, .int .i64 x.cb, .int .i64 x.pr, .int .i64 x.li] from by rw [hW]; exact Bk.new _ _ _)
      have HBW := Lib.hid (show Below w.heap.size w W from by rw [hW]; exact ba HW.out _)
      have hcW : ∀ j, j < L.length → ClAt W g off j (cat L j) := fun j hj => (hcs j hj).below (by rw [hW]; exact ba (b0 _) _) hg
      have zW : wr.heap.size < W.heap.size := by rw [hW]; simp
      have zg : g < W.heap.size := by omega
      clear hW hcs c0 c1 c2 c3 c4 c5 c6 c7
      have HNO := Lib.hid (fun (h : (cok x && inc L k) = false) => tree_no1 (L := L) (k := k) hkL (by unfold t1; rw [← HXX.out]; exact h))
      have HYE := Lib.hid (fun (h : (cok x && inc L k) = true) => all_succ (g := t1 L) HA.out (show t1 L k = true from by unfold t1; rw [← HXX.out]; exact h))
      have pb0 := fun (u : Gr W) => gr_cell (HBX.out.cell 0) u
      have pb1 := fun (u : Gr W) => gr_cell (HBX.out.cell 1) u
      have pb2 := fun (u : Gr W) => gr_cell (HBX.out.cell 2) u
      have pb3 := fun (u : Gr W) => gr_cell (HBX.out.cell 3) u
      have pe0 := fun (u : Gr W) => gr_cell (HEL.out.cell 0) u
      have pe1 := fun (u : Gr W) => gr_cell (HEL.out.cell 1) u
      have pe2 := fun (u : Gr W) => gr_cell (HEL.out.cell 2) u
      have pe3 := fun (u : Gr W) => gr_cell (HEL.out.cell 3) u
      have pe4 := fun (u : Gr W) => gr_cell (HEL.out.cell 4) u
      have pe5 := fun (u : Gr W) => gr_cell (HEL.out.cell 5) u
      have pe6 := fun (u : Gr W) => gr_cell (HEL.out.cell 6) u
      have pe7 := fun (u : Gr W) => gr_cell (HEL.out.cell 7) u
      rcases hok : cok x with _ | _
      · have HN := Lib.hid (HNO.out (by rw [hok]; rfl))
        clear hcW
        refine wp_region_gr (by kernel_rfl) (by kernel_rfl) ?_
        repeat (go_big_quiet_step ((go_at_call 60; (with_reducible exact gr_of (cfClass_b hok _)))))
        refine wpQuiet_nil ?_
        intro _ hw'
        obtain ⟨pq, hw''⟩ := hw'
        subst hw''
        go_wp2_with fail
        go_ret
        exact ⟨by rw [HN.out]; rfl, bt HBW.out pq.h⟩
      by_cases h0 : k = 0
      · have hk0 : decide ((0 : Int) < (k : Int)) = false := by rw [decide_eq_false_iff_not]; omega
        have hk0' : decide (0 < k) = false := by rw [decide_eq_false_iff_not]; omega
        have HY := Lib.hid (HYE.out (by rw [hok, show inc L k = true from decide_eq_true (.inl h0)]; rfl))
        clear hcW h0
        refine wp_region_gr (by kernel_rfl) (by kernel_rfl) ?_
        repeat (go_big_quiet_step ((go_at_call 60; (with_reducible exact gr_of (cfClass_b hok _)))))
        refine wpQuiet_nil ?_
        intro _ hw'
        obtain ⟨pq, hw''⟩ := hw'
        subst hw''
        have HX1 := Lib.hid (HBX.out.old pq.h)
        have HW1 := Lib.hid (bt HBW.out pq.h)
        have y : Bk pq.v (wr.heap.size) 74 #[.int .i64 x.id, .int .i64 x.pa, .int .i64 x.ra, .int .i64 x.ce, .int .i64 x.bu, .int .i64 x.cb, .int .i64 x.pr, .int .i64 x.li] := HEL.out.old pq.h
        have zy : wr.heap.size < pq.v.heap.size := y.lt
        have y_0 : pq.v.cell? ⟨wr.heap.size, 0, none⟩ = some (.int .i64 x.id) := y.cell 0
        have y_1 : pq.v.cell? ⟨wr.heap.size, 1, none⟩ = some (.int .i64 x.pa) := y.cell 1
        have y_2 : pq.v.cell? ⟨wr.heap.size, 2, none⟩ = some (.int .i64 x.ra) := y.cell 2
        have y_3 : pq.v.cell? ⟨wr.heap.size, 3, none⟩ = some (.int .i64 x.ce) := y.cell 3
        have y_4 : pq.v.cell? ⟨wr.heap.size, 4, none⟩ = some (.int .i64 x.bu) := y.cell 4
        have y_5 : pq.v.cell? ⟨wr.heap.size, 5, none⟩ = some (.int .i64 x.cb) := y.cell 5
        have y_6 : pq.v.cell? ⟨wr.heap.size, 6, none⟩ = some (.int .i64 x.pr) := y.cell 6
        have y_7 : pq.v.cell? ⟨wr.heap.size, 7, none⟩ = some (.int .i64 x.li) := y.cell 7
        have yf := y.free
        have Hy := Lib.hid y
        clear y
        have hw1 : IntKind.i64.wrap (((topsTo L k : Nat) : Int) + 1) = ((topsTo L k : Nat) : Int) + 1 := IntWalk.i64_in _ (by omega)
        by_cases hz : x.pa = 0
        · have HT := Lib.hid (topsTo_yes (L := L) (k := k) (by rw [← HXX.out]; exact hz))
          generalize topsTo L k = t at *
          go_wp2_with fail
          go_roundw
          case rel => exact ⟨k + 1, by omega, by go_num, by rw [HT.out]; go_num, HY.out, HX1.out, HW1.out⟩
          case measure => simp [intOf]; omega
        · have HT := Lib.hid (topsTo_no (L := L) (k := k) (by rw [← HXX.out]; exact hz))
          generalize topsTo L k = t at *
          go_wp2_with fail
          go_roundw
          case rel => exact ⟨k + 1, by omega, by go_num, by rw [HT.out], HY.out, HX1.out, HW1.out⟩
          case measure => simp [intOf]; omega
      · obtain ⟨p, hp⟩ : ∃ p, k = p + 1 := ⟨k - 1, by omega⟩
        obtain ⟨d0, d1, d2, d3, d4, d5, d6, d7⟩ := hcW p (by omega)
        have pp := fun (u : Gr W) => gr_cell d0 u
        have HLC := Lib.hid (lastC_of' (L := L) hp)
        have hk0 : decide ((0 : Int) < (k : Int)) = true := by rw [decide_eq_true_iff]; omega
        have hk0' : decide (0 < k) = true := by rw [decide_eq_true_iff]; omega
        have hp1 : IntKind.i64.wrap ((k : Int) - 1) = (p : Int) := by rw [IntWalk.i64_in _ (by omega)]; omega
        have p0 : (0 : Int) ≤ (p : Int) := by omega
        have p1 : (p : Int) < (n : Int) := by omega
        have HINC := Lib.hid (fun b (h : decide ((cat L p).id < x.id) = b) => show inc L k = b from by unfold inc; rw [HLC.out, ← HXX.out, ← h, decide_eq_decide]; omega)
        clear hcW d0 d1 d2 d3 d4 d5 d6 d7 hp
        generalize (cat L p).id = q at *
        by_cases hle : x.id ≤ q
        · have HN := Lib.hid (HNO.out (by rw [HINC.out false (decide_eq_false (by omega)), Bool.and_false]))
          have hdl : decide (x.id ≤ q) = true := decide_eq_true hle
          refine wp_region_gr (by kernel_rfl) (by kernel_rfl) ?_
          repeat (go_big_quiet_step ((go_at_call 60; (with_reducible exact gr_of (cfClass_b hok _)))))
          refine wpQuiet_nil ?_
          intro _ hw'
          obtain ⟨pq, hw''⟩ := hw'
          subst hw''
          go_wp2_with fail
          go_ret
          exact ⟨by rw [HN.out]; rfl, bt HBW.out pq.h⟩
        · have HY := Lib.hid (HYE.out (by rw [hok, HINC.out true (decide_eq_true (by omega))]; rfl))
          have hdl : decide (x.id ≤ q) = false := decide_eq_false hle
          refine wp_region_gr (by kernel_rfl) (by kernel_rfl) ?_
          repeat (go_big_quiet_step ((go_at_call 60; (with_reducible exact gr_of (cfClass_b hok _)))))
          refine wpQuiet_nil ?_
          intro _ hw'
          obtain ⟨pq, hw''⟩ := hw'
          subst hw''
          have HX1 := Lib.hid (HBX.out.old pq.h)
          have HW1 := Lib.hid (bt HBW.out pq.h)
          have y : Bk pq.v (wr.heap.size) 74 #[.int .i64 x.id, .int .i64 x.pa, .int .i64 x.ra, .int .i64 x.ce, .int .i64 x.bu, .int .i64 x.cb, .int .i64 x.pr, .int .i64 x.li] := HEL.out.old pq.h
          have zy : wr.heap.size < pq.v.heap.size := y.lt
          have y_0 : pq.v.cell? ⟨wr.heap.size, 0, none⟩ = some (.int .i64 x.id) := y.cell 0
          have y_1 : pq.v.cell? ⟨wr.heap.size, 1, none⟩ = some (.int .i64 x.pa) := y.cell 1
          have y_2 : pq.v.cell? ⟨wr.heap.size, 2, none⟩ = some (.int .i64 x.ra) := y.cell 2
          have y_3 : pq.v.cell? ⟨wr.heap.size, 3, none⟩ = some (.int .i64 x.ce) := y.cell 3
          have y_4 : pq.v.cell? ⟨wr.heap.size, 4, none⟩ = some (.int .i64 x.bu) := y.cell 4
          have y_5 : pq.v.cell? ⟨wr.heap.size, 5, none⟩ = some (.int .i64 x.cb) := y.cell 5
          have y_6 : pq.v.cell? ⟨wr.heap.size, 6, none⟩ = some (.int .i64 x.pr) := y.cell 6
          have y_7 : pq.v.cell? ⟨wr.heap.size, 7, none⟩ = some (.int .i64 x.li) := y.cell 7
          have yf := y.free
          have Hy := Lib.hid y
          clear y
          have hw1 : IntKind.i64.wrap (((topsTo L k : Nat) : Int) + 1) = ((topsTo L k : Nat) : Int) + 1 := IntWalk.i64_in _ (by omega)
          by_cases hz : x.pa = 0
          · have HT := Lib.hid (topsTo_yes (L := L) (k := k) (by rw [← HXX.out]; exact hz))
            generalize topsTo L k = t at *
            go_wp2_with fail
            go_roundw
            case rel => exact ⟨k + 1, by omega, by go_num, by rw [HT.out]; go_num, HY.out, HX1.out, HW1.out⟩
            case measure => simp [intOf]; omega
          · have HT := Lib.hid (topsTo_no (L := L) (k := k) (by rw [← HXX.out]; exact hz))
            generalize topsTo L k = t at *
            go_wp2_with fail
            go_roundw
            case rel => exact ⟨k + 1, by omega, by go_num, by rw [HT.out], HY.out, HX1.out, HW1.out⟩
            case measure => simp [intOf]; omega
    · obtain rfl : k = n := by omega
      by_cases ht : (((topsTo L k : Nat) : Int)) = 1
      rotate_left
      · have HN := Lib.hid (tree_no3 (L := L) (by rw [HL.out]; omega))
        generalize topsTo L k = t at *
        go_wp2_with fail
        go_ret
        exact ⟨by rw [HN.out]; rfl, HW.out⟩
      have HT := Lib.hid (show topsTo L L.length = 1 from by rw [HL.out]; omega)
      have HRB := Lib.hid (show raB L from raB_of (by rw [HL.out]; exact HA.out))
      have HA1 := Lib.hid (show ∀ j, j < L.length → t1 L j = true from by rw [HL.out]; exact HA.out)
      generalize topsTo L k = t at *
      have b : Bk wr (w.heap.size) 34 #[.string nm, .slice A k cap, .slice B m capb, .int .i64 df] := HX.out
      have zb : w.heap.size < wr.heap.size := b.lt
      have b_0 : wr.cell? ⟨w.heap.size, 0, none⟩ = some (.string nm) := b.cell 0
      have b_1 : wr.cell? ⟨w.heap.size, 1, none⟩ = some (.slice A k cap) := b.cell 1
      have b_2 : wr.cell? ⟨w.heap.size, 2, none⟩ = some (.slice B m capb) := b.cell 2
      have b_3 : wr.cell? ⟨w.heap.size, 3, none⟩ = some (.int .i64 df) := b.cell 3
      have bf := b.free
      have Hb := Lib.hid b
      clear b
      clear zx
      go_wp2_with fail
      clear ht
      go_loopw [47] (fun z wr => ∃ j : Nat, j ≤ k ∧ z = .int .i64 j ∧ (∀ i, i < j → t2 L i = true) ∧ Bk wr w.heap.size 34 #[.string nm, .slice A k cap, .slice B m capb, .int .i64 df] ∧ Below w.heap.size w wr) (fun z _ => k - (intOf z).toNat)
      case atStart => exact ⟨0, Nat.zero_le _, rfl, all_zero, HX.out, HW.out⟩
      case round =>
        clear b_0 b_1 b_2 b_3 bf zb Hb HX HW
        obtain ⟨j, hj, rfl, hall, hbx, hbw⟩ := hrel
        have HA2 := Lib.hid hall
        have HX := Lib.hid hbx
        have HW := Lib.hid hbw
        have zx := hbx.lt
        clear hall hbx hbw
        by_cases hlt2 : j < k
        · have hjL : j < L.length := by have := HL.out; omega
          obtain ⟨g, off, rfl, hg, hcs⟩ := crow (HR.out.below HW.out) hjL
          obtain ⟨c0, c1, c2, c3, c4, c5, c6, c7⟩ := hcs j hjL
          obtain ⟨x, hx⟩ : ∃ x, x = cat L j := ⟨_, rfl⟩
          rw [← hx] at c0 c1 c2 c3 c4 c5 c6 c7
          have HXX := Lib.hid hx
          clear hx
          have b : Bk wr (w.heap.size) 34 #[.string nm, .slice (some ⟨g, off, none⟩) k cap, .slice B m capb, .int .i64 df] := HX.out
          have zb : w.heap.size < wr.heap.size := b.lt
          have b_0 : wr.cell? ⟨w.heap.size, 0, none⟩ = some (.string nm) := b.cell 0
          have b_1 : wr.cell? ⟨w.heap.size, 1, none⟩ = some (.slice (some ⟨g, off, none⟩) k cap) := b.cell 1
          have b_2 : wr.cell? ⟨w.heap.size, 2, none⟩ = some (.slice B m capb) := b.cell 2
          have b_3 : wr.cell? ⟨w.heap.size, 3, none⟩ = some (.int .i64 df) := b.cell 3
          have bf := b.free
          have Hb := Lib.hid b
          clear b
          go_wp2_with fail
          clear b_0 b_1 b_2 b_3 bf zb Hb
          obtain ⟨W, hW⟩ : ∃ W, W = wr.alloc (.cells #[.int .i64 x.id, .int .i64 x.pa, .int .i64 x.ra, .int .i64 x.ce, .int .i64 x.bu, .int .i64 x.cb, .int .i64 x.pr, .int .i64 x.li] 74) := ⟨_, rfl⟩
          rw [← hW]
          have HBX := Lib.hid (show Bk W w.heap.size 34 #[.string nm, .slice (some ⟨g, off, none⟩) k cap, .slice B m capb, .int .i64 df] from by rw [hW]; exact HX.out.alloc _)
          have HEL := Lib.hid (show Bk W wr.heap.size 74 #[.int .i64 x.id, .int .i64 x.pa, .int .i64 x.ra, .int .i64 x.ce, .int .i64 x.bu, .int .i64 x.cb, .int .i64 x.pr, .int .i64 x.li] from by rw [hW]; exact Bk.new _ _ _)
          have HBW := Lib.hid (show Below w.heap.size w W from by rw [hW]; exact ba HW.out _)
          have zW : wr.heap.size < W.heap.size := by rw [hW]; simp
          clear hW hcs c0 c1 c2 c3 c4 c5 c6 c7
          refine (HUP.out j hlt2 _ HBW.out).mono ?_
          rintro e w1 ⟨D, C, c, rfl, hrow, h1, h2, h3, h4, hb1⟩
          have HX1 := Lib.hid (HBX.out.old hb1)
          have HE1 := Lib.hid (HEL.out.old hb1)
          have HW1 := Lib.hid (bt HBW.out hb1)
          have H4 := Lib.hid h4
          have H3 := Lib.hid (lastD_lt h3 h1)
          have zx1 := HX1.out.lt
          clear hb1 h3 h4
          have HNO := Lib.hid (fun (h : t2 L j = false) => tree_no2 (L := L) hjL h)
          have HU0 := Lib.hid (fun (h : upk L 8 j = false) => show t2 L j = false from by unfold t2; rw [h]; rfl)
          go_wp2_with fail
          have pb0 := fun (u : Gr w1) => gr_cell (HX1.out.cell 0) u
          have pb1 := fun (u : Gr w1) => gr_cell (HX1.out.cell 1) u
          have pb2 := fun (u : Gr w1) => gr_cell (HX1.out.cell 2) u
          have pb3 := fun (u : Gr w1) => gr_cell (HX1.out.cell 3) u
          by_cases h8 : 8 < D.length
          · have HN := Lib.hid (HNO.out (HU0.out (Bool.eq_false_iff.2 fun hu => absurd (H4.out.1 hu).1 (by omega))))
            have hd8 : decide ((8 : Int) < ((D.length : Nat) : Int)) = true := by rw [decide_eq_true_iff]; omega
            have hd8' : decide (8 < D.length) = true := by rw [decide_eq_true_iff]; omega
            clear hrow
            generalize D.length = dl at *
            refine wp_region_gr (by kernel_rfl) (by kernel_rfl) ?_
            repeat (go_big_quiet_step (fail))
            refine wpQuiet_nil ?_
            intro _ hw'
            obtain ⟨pq, hw''⟩ := hw'
            subst hw''
            go_wp2_with fail
            go_ret
            exact ⟨by rw [HN.out]; rfl, bt HW1.out pq.h⟩
          obtain ⟨d, hd⟩ : ∃ d, D.length = d + 1 := ⟨D.length - 1, by omega⟩
          obtain ⟨gd, od, rfl, hgd, hcd⟩ := hrow.at_ (k := d) (by rw [nI_len]; omega)
          have hcj := hcd d (by rw [nI_len]; omega)
          rw [nI_get (by omega), show D[d]?.getD 0 = lastD D from by unfold lastD; rw [hd]; rfl] at hcj
          have pd := fun (u : Gr w1) => gr_cell hcj u
          obtain ⟨g1, off1, hgo, hg1, hcs⟩ := crow (HR.out.below HW1.out) H3.out
          obtain ⟨rfl, rfl⟩ : g = g1 ∧ off = off1 := by
            injection hgo with h
            injection h with h1 h2
            exact ⟨h1, h2⟩
          obtain ⟨c0, c1, c2, c3, c4, c5, c6, c7⟩ := hcs (lastD D) H3.out
          have pc := fun (u : Gr w1) => gr_cell c1 u
          have hd8 : decide ((8 : Int) < ((D.length : Nat) : Int)) = false := by rw [decide_eq_false_iff_not]; omega
          have hd8' : decide (8 < D.length) = false := by rw [decide_eq_false_iff_not]; omega
          have hjw : IntKind.i64.wrap (((D.length : Nat) : Int) - 1) = (d : Int) := by rw [IntWalk.i64_in _ (by omega)]; omega
          have j0 : (0 : Int) ≤ (d : Int) := by omega
          have j1 : (d : Int) < ((D.length : Nat) : Int) := by omega
          have l0 : (0 : Int) ≤ ((lastD D : Nat) : Int) := by omega
          have l1 : ((lastD D : Nat) : Int) < (k : Int) := by have := H3.out; have := HL.out; omega
          have HD8 := Lib.hid (show D.length ≤ 8 by omega)
          clear hcs hcd hcj c0 c1 c2 c3 c4 c5 c6 c7 hd h8
          by_cases hp : (cat L (lastD D)).pa = 0
          rotate_left
          · have HN := Lib.hid (HNO.out (HU0.out (Bool.eq_false_iff.2 fun hu => absurd (H4.out.1 hu).2 hp)))
            have hpb : ((cat L (lastD D)).pa != 0) = true := by rw [bne_iff_ne]; exact hp
            generalize (cat L (lastD D)).pa = pp at *
            generalize lastD D = ld at *
            generalize D.length = dl at *
            refine wp_region_gr (by kernel_rfl) (by kernel_rfl) ?_
            repeat (go_big_quiet_step (fail))
            refine wpQuiet_nil ?_
            intro _ hw'
            obtain ⟨pq, hw''⟩ := hw'
            subst hw''
            go_wp2_with fail
            go_ret
            exact ⟨by rw [HN.out]; rfl, bt HW1.out pq.h⟩
          have HUY := Lib.hid (H4.out.2 ⟨HD8.out, hp⟩)
          obtain ⟨sv, hsv⟩ : ∃ sv, sv = (cat L j).ra - ks L j := ⟨_, rfl⟩
          have HSU := Lib.hid (fun (u : Gr w1) => HSP.out j hlt2 HRB.out u.v (bt HW1.out u.h))
          rw [← hsv] at HSU
          have HSV := Lib.hid hsv
          clear hsv
          generalize (cat L (lastD D)).pa = pp at *
          generalize lastD D = ld at *
          generalize D.length = dl at *
          by_cases hs0 : sv < 0
          · have HN := Lib.hid (HNO.out (by unfold t2; rw [show decide (ks L j ≤ (cat L j).ra) = false from decide_eq_false (by have := HSV.out; omega), Bool.and_false]; rfl))
            have hsd : decide (sv < 0) = true := decide_eq_true hs0
            refine wp_region_gr (by kernel_rfl) (by kernel_rfl) ?_
            repeat (go_big_quiet_step ((go_at_call 62; (with_reducible exact gr_of (HSU.out _)))))
            refine wpQuiet_nil ?_
            intro _ hw'
            obtain ⟨pq, hw''⟩ := hw'
            subst hw''
            go_wp2_with fail
            go_ret
            exact ⟨by rw [HN.out]; rfl, bt HW1.out pq.h⟩
          have HT2 := Lib.hid (show t2 L j = lim L j from by unfold t2; rw [HUY.out, show decide (ks L j ≤ (cat L j).ra) = true from decide_eq_true (by have := HSV.out; omega)]; rfl)
          have HLM := Lib.hid (show lim L j = if lf L j then decide (1 ≤ x.li ∧ x.li ≤ 60) else decide (x.li = 0) from by rw [HXX.out]; rfl)
          have hsd : decide (sv < 0) = false := decide_eq_false hs0
          have HLU := Lib.hid (fun W (hb : Below w.heap.size w W) => HLF.out j hlt2 W hb)
          refine wp_region_gr (by kernel_rfl) (by kernel_rfl) ?_
          repeat (go_big_quiet_step ((go_at_call 62; (with_reducible exact gr_of (HSU.out _)))))
          refine wpQuiet_nil ?_
          intro _ hw'
          obtain ⟨pq, hw''⟩ := hw'
          subst hw''
          have HX2 := Lib.hid (HX1.out.old pq.h)
          have HE2 := Lib.hid (HE1.out.old pq.h)
          have HW2 := Lib.hid (bt HW1.out pq.h)
          have b : Bk pq.v (w.heap.size) 34 #[.string nm, .slice (some ⟨g, off, none⟩) k cap, .slice B m capb, .int .i64 df] := HX2.out
          have zb : w.heap.size < pq.v.heap.size := b.lt
          have b_0 : pq.v.cell? ⟨w.heap.size, 0, none⟩ = some (.string nm) := b.cell 0
          have b_1 : pq.v.cell? ⟨w.heap.size, 1, none⟩ = some (.slice (some ⟨g, off, none⟩) k cap) := b.cell 1
          have b_2 : pq.v.cell? ⟨w.heap.size, 2, none⟩ = some (.slice B m capb) := b.cell 2
          have b_3 : pq.v.cell? ⟨w.heap.size, 3, none⟩ = some (.int .i64 df) := b.cell 3
          have bf := b.free
          have Hb := Lib.hid b
          clear b
          clear pb0 pb1 pb2 pb3 pd pc
          generalize lf L j = lfj at *
          go_wp2_with fail
          refine (HLU.out _ HW2.out).mono ?_
          rintro e w3 ⟨rfl, hb3⟩
          have HX3 := Lib.hid (HX2.out.old hb3)
          have HE3 := Lib.hid (HE2.out.old hb3)
          have HW3 := Lib.hid (bt HW2.out hb3)
          clear hb3 b_0 b_1 b_2 b_3 bf zb Hb
          have b : Bk w3 (w.heap.size) 34 #[.string nm, .slice (some ⟨g, off, none⟩) k cap, .slice B m capb, .int .i64 df] := HX3.out
          have zb : w.heap.size < w3.heap.size := b.lt
          have b_0 : w3.cell? ⟨w.heap.size, 0, none⟩ = some (.string nm) := b.cell 0
          have b_1 : w3.cell? ⟨w.heap.size, 1, none⟩ = some (.slice (some ⟨g, off, none⟩) k cap) := b.cell 1
          have b_2 : w3.cell? ⟨w.heap.size, 2, none⟩ = some (.slice B m capb) := b.cell 2
          have b_3 : w3.cell? ⟨w.heap.size, 3, none⟩ = some (.int .i64 df) := b.cell 3
          have bf := b.free
          have Hb := Lib.hid b
          clear b
          have y : Bk w3 (wr.heap.size) 74 #[.int .i64 x.id, .int .i64 x.pa, .int .i64 x.ra, .int .i64 x.ce, .int .i64 x.bu, .int .i64 x.cb, .int .i64 x.pr, .int .i64 x.li] := HE3.out
          have zy : wr.heap.size < w3.heap.size := y.lt
          have y_0 : w3.cell? ⟨wr.heap.size, 0, none⟩ = some (.int .i64 x.id) := y.cell 0
          have y_1 : w3.cell? ⟨wr.heap.size, 1, none⟩ = some (.int .i64 x.pa) := y.cell 1
          have y_2 : w3.cell? ⟨wr.heap.size, 2, none⟩ = some (.int .i64 x.ra) := y.cell 2
          have y_3 : w3.cell? ⟨wr.heap.size, 3, none⟩ = some (.int .i64 x.ce) := y.cell 3
          have y_4 : w3.cell? ⟨wr.heap.size, 4, none⟩ = some (.int .i64 x.bu) := y.cell 4
          have y_5 : w3.cell? ⟨wr.heap.size, 5, none⟩ = some (.int .i64 x.cb) := y.cell 5
          have y_6 : w3.cell? ⟨wr.heap.size, 6, none⟩ = some (.int .i64 x.pr) := y.cell 6
          have y_7 : w3.cell? ⟨wr.heap.size, 7, none⟩ = some (.int .i64 x.li) := y.cell 7
          have yf := y.free
          have Hy := Lib.hid y
          clear y
          rcases lfj with _ | _
          · go_wp2_with fail
            refine (HLU.out _ HW3.out).mono ?_
            rintro e w4 ⟨rfl, hb4⟩
            have HX4 := Lib.hid (HX3.out.old hb4)
            have HW4 := Lib.hid (bt HW3.out hb4)
            clear b_0 b_1 b_2 b_3 bf zb Hb y_0 y_1 y_2 y_3 y_4 y_5 y_6 y_7 yf zy Hy
            have y : Bk w4 (wr.heap.size) 74 #[.int .i64 x.id, .int .i64 x.pa, .int .i64 x.ra, .int .i64 x.ce, .int .i64 x.bu, .int .i64 x.cb, .int .i64 x.pr, .int .i64 x.li] := HE3.out.old hb4
            have zy : wr.heap.size < w4.heap.size := y.lt
            have y_0 : w4.cell? ⟨wr.heap.size, 0, none⟩ = some (.int .i64 x.id) := y.cell 0
            have y_1 : w4.cell? ⟨wr.heap.size, 1, none⟩ = some (.int .i64 x.pa) := y.cell 1
            have y_2 : w4.cell? ⟨wr.heap.size, 2, none⟩ = some (.int .i64 x.ra) := y.cell 2
            have y_3 : w4.cell? ⟨wr.heap.size, 3, none⟩ = some (.int .i64 x.ce) := y.cell 3
            have y_4 : w4.cell? ⟨wr.heap.size, 4, none⟩ = some (.int .i64 x.bu) := y.cell 4
            have y_5 : w4.cell? ⟨wr.heap.size, 5, none⟩ = some (.int .i64 x.cb) := y.cell 5
            have y_6 : w4.cell? ⟨wr.heap.size, 6, none⟩ = some (.int .i64 x.pr) := y.cell 6
            have y_7 : w4.cell? ⟨wr.heap.size, 7, none⟩ = some (.int .i64 x.li) := y.cell 7
            have yf := y.free
            have Hy := Lib.hid y
            clear y
            clear hb4
            by_cases hli : x.li = 0
            · have HY := Lib.hid (all_succ (g := t2 L) HA2.out (HT2.out.trans (HLM.out.trans (by rw [if_neg (by simp)]; exact decide_eq_true hli))))
              go_wp2_with fail
              go_roundw
              case rel => exact ⟨j + 1, by omega, by go_num, HY.out, HX4.out, HW4.out⟩
              case measure => simp [intOf]; omega
            · have HN := Lib.hid (HNO.out (HT2.out.trans (HLM.out.trans (by rw [if_neg (by simp)]; exact decide_eq_false hli))))
              go_wp2_with fail
              go_ret
              exact ⟨by rw [HN.out]; rfl, HW4.out⟩
          · rcases hli : decide (1 ≤ x.li ∧ x.li ≤ 60) with _ | _
            · have HN := Lib.hid (HNO.out (HT2.out.trans (HLM.out.trans (by rw [if_pos rfl]; exact hli))))
              go_wp2_with ((go_at_call 43; (with_reducible refine (l1In_b hli _).mono ?_); rintro e w' ⟨rfl, rfl⟩))
              go_ret
              exact ⟨by rw [HN.out]; rfl, HW3.out⟩
            · have HY := Lib.hid (all_succ (g := t2 L) HA2.out (HT2.out.trans (HLM.out.trans (by rw [if_pos rfl]; exact hli))))
              go_wp2_with ((go_at_call 43; (with_reducible refine (l1In_b hli _).mono ?_); rintro e w' ⟨rfl, rfl⟩))
              refine (HLU.out _ HW3.out).mono ?_
              rintro e w4 ⟨rfl, hb4⟩
              have HX4 := Lib.hid (HX3.out.old hb4)
              have HW4 := Lib.hid (bt HW3.out hb4)
              clear hb4 b_0 b_1 b_2 b_3 bf zb Hb y_0 y_1 y_2 y_3 y_4 y_5 y_6 y_7 yf zy Hy
              go_wp2_with fail
              go_roundw
              case rel => exact ⟨j + 1, by omega, by go_num, HY.out, HX4.out, HW4.out⟩
              case measure => simp [intOf]; omega
        · obtain rfl : j = k := by omega
          have HG := Lib.hid (show tree L = true from tree_yes HA1.out HT.out (by rw [HL.out]; exact HA2.out))
          go_wp2_with fail
          go_ret
          exact ⟨by rw [HG.out]; rfl, HW.out⟩


end Go.Proofs.YtjajddhedahpnaaDoor
