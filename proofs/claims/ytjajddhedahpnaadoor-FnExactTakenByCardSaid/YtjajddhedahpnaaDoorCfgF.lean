/- The contracts of the program's conditions on classes. (Printed by cfgen2.py.) -/
import Derived.Test.YtjajddhedahpnaaDoorCfgE
namespace Go.Proofs.YtjajddhedahpnaaDoor
open Go.ChangeShapes Go.WideShapes Go.ChangeAt Go.RowKit
set_option linter.unusedVariables false

theorem quiet_flip {P : Program} {f : FuncId} {args : Array Value} {w : World} {n : Nat} {v : Value} (h : Calls P f args (w.drewN n) fun e w' => e = .returned v ∧ w.drewN n = w') : Calls P f args (w.drewN n) fun e w'' => e = .returned v ∧ ∃ m, w'' = w.drewN m :=
  h.mono fun _ _ ⟨a, b⟩ => ⟨a, n, b.symm⟩
theorem isId_b {b : Bool} {a : Int} (h : decide (1 ≤ a ∧ a ≤ 999) = b) (w : World) : Calls Tryd.prog 85 #[.int .i64 a] w fun e w' => e = .returned (.bool b) ∧ w = w' := h ▸ isId_any a w
/-- The indices among the first k at which p fails. -/
def flt (p : Nat → Bool) (k : Nat) : List Nat := (List.range k).filter fun j => !p j
theorem flt_no {p : Nat → Bool} {k : Nat} (h : p k = false) : flt p (k + 1) = flt p k ++ [k] := by simp [flt, List.range_succ, List.filter_append, h]
theorem flt_yes {p : Nat → Bool} {k : Nat} (h : p k = true) : flt p (k + 1) = flt p k := by simp [flt, List.range_succ, List.filter_append, h]
theorem flt_len (p : Nat → Bool) (k : Nat) : (flt p k).length ≤ k := by
  have := List.length_filter_le (fun j => !p j) (List.range k)
  simpa [flt] using this
theorem flt_all (p : Nat → Bool) (n : Nat) : decide ((((flt p n).length : Nat) : Int) = 0) = allB n p := by
  rw [Bool.eq_iff_iff, allB_iff, decide_eq_true_eq]
  constructor
  · intro h i hi
    have h0 : flt p n = [] := List.length_eq_zero_iff.1 (by omega)
    unfold flt at h0
    rw [List.filter_eq_nil_iff] at h0
    have := h0 i (List.mem_range.2 hi)
    simpa using this
  · intro h
    have h0 : flt p n = [] := by
      unfold flt
      rw [List.filter_eq_nil_iff]
      intro i hi
      simp [h i (List.mem_range.1 hi)]
    rw [h0]
    rfl
theorem g2_no {L : List Cl} {k : Nat} (hk : k < L.length) (h : (idk (cat L k) && inc L k) = false) : g2 L = false := by
  unfold g2
  rw [allB_no (g := fun k => idk (cat L k) && inc L k) hk h]
  rfl
theorem g2_yes {L : List Cl} {n : Nat} (hn : L.length = n) (h : ∀ k, k < n → (idk (cat L k) && inc L k) = true) : g2 L = decide (1 ≤ n ∧ n ≤ 24) := by
  subst hn
  unfold g2
  rw [allB_yes (g := fun k => idk (cat L k) && inc L k) h]
  rfl
theorem lastC_of {L : List Cl} {k p : Nat} (h : k = p + 1) : lastC L k = (cat L p).id := by subst h; rfl
set_option maxHeartbeats 2000000 in
theorem idsRight_any (nm : ByteArray) (A : Option Addr) (n cap : Nat) (B : Option Addr) (m capb : Nat) (df : Int) (L : List Cl) (w : World) (hl : L.length = n) (hr : IRow w A (flc L)) (hn : n ≤ 1000) : Calls Tryd.prog 66 #[.agg #[.string nm, .slice A n cap, .slice B m capb, .int .i64 df]] w fun e w' => e = .returned (.bool (g2 L)) ∧ Below w.heap.size w w' := by
  have HL := Lib.hid hl
  have HR := Lib.hid hr
  clear hl hr
  go_enter Tryd.func66, Tryd.ntmps66
  go_wp2_with fail
  go_loopw [8] (fun z wr => ∃ k : Nat, k ≤ n ∧ z = .int .i64 k ∧ (∀ j, j < k → (idk (cat L j) && inc L j) = true) ∧ Bk wr w.heap.size 34 #[.string nm, .slice A n cap, .slice B m capb, .int .i64 df] ∧ Below w.heap.size w wr) (fun z _ => n - (intOf z).toNat)
  case atStart => exact ⟨0, Nat.zero_le _, rfl, fun j hj => by omega, Bk.new _ _ _, ba (b0 _) _⟩
  case round =>
    obtain ⟨k, hk, rfl, hall, hbx, hbw⟩ := hrel
    have HA := Lib.hid hall
    have HX := Lib.hid hbx
    have HW := Lib.hid hbw
    have zx := hbx.lt
    clear hall hbx hbw
    by_cases hlt : k < n
    · have hkL : k < L.length := by have := HL.out; omega
      obtain ⟨g, off, rfl, hg, hcs⟩ := crow (HR.out.below HW.out) (k := k) (by have := HL.out; omega)
      obtain ⟨c0, c1, c2, c3, c4, c5, c6, c7⟩ := hcs k (by have := HL.out; omega)
      obtain ⟨x, hx⟩ : ∃ x, x = cat L k := ⟨_, rfl⟩
      rw [← hx] at c0 c1 c2 c3 c4 c5 c6 c7
      have HXX := Lib.hid hx
      clear hx
      go_wp2_with fail
      obtain ⟨W, hW⟩ : ∃ W, W = wr.alloc (.cells #[.int .i64 x.id, .int .i64 x.pa, .int .i64 x.ra, .int .i64 x.ce, .int .i64 x.bu, .int .i64 x.cb, .int .i64 x.pr, .int .i64 x.li] 74) := ⟨_, rfl⟩
      rw [← hW]
      have HBX := Lib.hid (show Bk W w.heap.size 34 #[.string nm, .slice (some ⟨g, off, none⟩) n cap, .slice B m capb, .int .i64 df] from by rw [hW]; exact HX.out.alloc _)
      have HEL := Lib.hid (show Bk W wr.heap.size 74 #[.int .i64 x.id, .int .i64 x.pa, .int .i64 x.ra, .int .i64 x.ce, .int .i64 x.bu, .int .i64 x.cb, .int .i64 x.pr, .int .i64 x.li] from by rw [hW]; exact Bk.new _ _ _)
      have HBW := Lib.hid (show Below w.heap.size w W from by rw [hW]; exact ba HW.out _)
      have hcW : ∀ j, j < L.length → ClAt W g off j (cat L j) := fun j hj => (hcs j hj).below (by rw [hW]; exact ba (b0 _) _) hg
      have zW : wr.heap.size < W.heap.size := by rw [hW]; simp
      have zg : g < W.heap.size := by omega
      clear hW hcs c0 c1 c2 c3 c4 c5 c6 c7
      have HNO := Lib.hid (fun h => g2_no (L := L) hkL h)
      have HYE := Lib.hid (fun (h : (idk (cat L k) && inc L k) = true) => all_succ (g := fun j => idk (cat L j) && inc L j) HA.out h)
      have b : Bk W (w.heap.size) 34 #[.string nm, .slice (some ⟨g, off, none⟩) n cap, .slice B m capb, .int .i64 df] := HBX.out
      have zb : w.heap.size < W.heap.size := b.lt
      have b_0 : W.cell? ⟨w.heap.size, 0, none⟩ = some (.string nm) := b.cell 0
      have b_1 : W.cell? ⟨w.heap.size, 1, none⟩ = some (.slice (some ⟨g, off, none⟩) n cap) := b.cell 1
      have b_2 : W.cell? ⟨w.heap.size, 2, none⟩ = some (.slice B m capb) := b.cell 2
      have b_3 : W.cell? ⟨w.heap.size, 3, none⟩ = some (.int .i64 df) := b.cell 3
      have bf := b.free
      have Hb := Lib.hid b
      clear b
      have y : Bk W (wr.heap.size) 74 #[.int .i64 x.id, .int .i64 x.pa, .int .i64 x.ra, .int .i64 x.ce, .int .i64 x.bu, .int .i64 x.cb, .int .i64 x.pr, .int .i64 x.li] := HEL.out
      have zy : wr.heap.size < W.heap.size := y.lt
      have y_0 : W.cell? ⟨wr.heap.size, 0, none⟩ = some (.int .i64 x.id) := y.cell 0
      have y_1 : W.cell? ⟨wr.heap.size, 1, none⟩ = some (.int .i64 x.pa) := y.cell 1
      have y_2 : W.cell? ⟨wr.heap.size, 2, none⟩ = some (.int .i64 x.ra) := y.cell 2
      have y_3 : W.cell? ⟨wr.heap.size, 3, none⟩ = some (.int .i64 x.ce) := y.cell 3
      have y_4 : W.cell? ⟨wr.heap.size, 4, none⟩ = some (.int .i64 x.bu) := y.cell 4
      have y_5 : W.cell? ⟨wr.heap.size, 5, none⟩ = some (.int .i64 x.cb) := y.cell 5
      have y_6 : W.cell? ⟨wr.heap.size, 6, none⟩ = some (.int .i64 x.pr) := y.cell 6
      have y_7 : W.cell? ⟨wr.heap.size, 7, none⟩ = some (.int .i64 x.li) := y.cell 7
      have yf := y.free
      have Hy := Lib.hid y
      clear y
      rcases hi : decide (1 ≤ x.id ∧ x.id ≤ 999) with _ | _
      · have HN := Lib.hid (HNO.out (by rw [← HXX.out]; show (decide (1 ≤ x.id ∧ x.id ≤ 999) && inc L k) = false; rw [hi]; rfl))
        clear hcW
        go_quiet ((go_at_call 85; exact quiet_flip (isId_b hi _)))
        go_wp2_with fail
        go_ret
        exact ⟨by rw [HN.out]; rfl, bd HBW.out _⟩
      by_cases h0 : k = 0
      · have HY := Lib.hid (HYE.out (by rw [← HXX.out]; show (decide (1 ≤ x.id ∧ x.id ≤ 999) && inc L k) = true; rw [hi, inc, decide_eq_true (.inl h0)]; rfl))
        have hk0 : decide ((0 : Int) < (k : Int)) = false := by rw [decide_eq_false_iff_not]; omega
        have hk0' : decide (0 < k) = false := by rw [decide_eq_false_iff_not]; omega
        clear hcW h0
        go_quiet ((go_at_call 85; exact quiet_flip (isId_b hi _)))
        go_wp2_with fail
        go_roundw
        case rel => exact ⟨k + 1, by omega, by go_num, HY.out, HBX.out.drewN _, bd HBW.out _⟩
        case measure => simp [intOf]; omega
      · obtain ⟨p, hp⟩ : ∃ p, k = p + 1 := ⟨k - 1, by omega⟩
        obtain ⟨d0, d1, d2, d3, d4, d5, d6, d7⟩ := hcW p (by omega)
        have HLC := Lib.hid (lastC_of (L := L) hp)
        have hk0 : decide ((0 : Int) < (k : Int)) = true := by rw [decide_eq_true_iff]; omega
        have hk0' : decide (0 < k) = true := by rw [decide_eq_true_iff]; omega
        have hp1 : IntKind.i64.wrap ((k : Int) - 1) = (p : Int) := by rw [IntWalk.i64_in _ (by omega)]; omega
        have p0 : (0 : Int) ≤ (p : Int) := by omega
        have p1 : (p : Int) < (n : Int) := by omega
        have HP := Lib.hid hp
        clear hcW d1 d2 d3 d4 d5 d6 d7 hp h0
        by_cases hle : x.id ≤ (cat L p).id
        · have HN := Lib.hid (HNO.out (by rw [← HXX.out]; show (decide (1 ≤ x.id ∧ x.id ≤ 999) && inc L k) = false; rw [hi, inc, HLC.out, ← HXX.out, Bool.true_and, decide_eq_false_iff_not]; have := HP.out; omega))
          generalize (cat L p).id = q at *
          go_quiet ((go_at_call 85; exact quiet_flip (isId_b hi _)))
          go_wp2_with fail
          go_ret
          exact ⟨by rw [HN.out]; rfl, bd HBW.out _⟩
        · have HY := Lib.hid (HYE.out (by rw [← HXX.out]; show (decide (1 ≤ x.id ∧ x.id ≤ 999) && inc L k) = true; rw [hi, inc, HLC.out, ← HXX.out, Bool.true_and, decide_eq_true_iff]; omega))
          have hlf : decide (x.id ≤ (cat L p).id) = false := decide_eq_false hle
          generalize (cat L p).id = q at *
          go_quiet ((go_at_call 85; exact quiet_flip (isId_b hi _)))
          go_wp2_with fail
          go_roundw
          case rel => exact ⟨k + 1, by omega, by go_num, HY.out, HBX.out.drewN _, bd HBW.out _⟩
          case measure => simp [intOf]; omega
    · obtain rfl : k = n := by omega
      have HG := Lib.hid (show g2 L = decide (1 ≤ (k : Int) ∧ (k : Int) ≤ 24) from by rw [g2_yes HL.out HA.out, decide_eq_decide]; omega)
      have b : Bk wr (w.heap.size) 34 #[.string nm, .slice A k cap, .slice B m capb, .int .i64 df] := HX.out
      have zb : w.heap.size < wr.heap.size := b.lt
      have b_0 : wr.cell? ⟨w.heap.size, 0, none⟩ = some (.string nm) := b.cell 0
      have b_1 : wr.cell? ⟨w.heap.size, 1, none⟩ = some (.slice A k cap) := b.cell 1
      have b_2 : wr.cell? ⟨w.heap.size, 2, none⟩ = some (.slice B m capb) := b.cell 2
      have b_3 : wr.cell? ⟨w.heap.size, 3, none⟩ = some (.int .i64 df) := b.cell 3
      have bf := b.free
      have Hb := Lib.hid b
      clear b
      go_wp2_with fail
      all_goals
        go_ret
        exact ⟨ret_b (by rw [HG.out, Bool.eq_iff_iff]; simp; try omega), HW.out⟩
theorem pok1_b {L : List Cl} {k : Nat} {b : Bool} (h : decide ((cat L k).pa = 0 ∨ 0 ≤ fnd L (cat L k).pa) = b) : pok1 L k = b := h
def LenE (w : World) (l : List Nat) (e : Ending) (w' : World) : Prop := ∃ (C : Option Addr) (c : Nat), e = .returned (.slice C l.length c) ∧ Below w.heap.size w w'
set_option maxHeartbeats 2000000 in
theorem badParents_any (nm : ByteArray) (A : Option Addr) (n cap : Nat) (B : Option Addr) (m capb : Nat) (df : Int) (L : List Cl) (w : World) (hl : L.length = n) (hr : IRow w A (flc L)) (hn : n ≤ 1000) : Calls Tryd.prog 86 #[.agg #[.string nm, .slice A n cap, .slice B m capb, .int .i64 df]] w (LenE w (flt (pok1 L) n)) := by
  have HL := Lib.hid hl
  have HR := Lib.hid hr
  clear hl hr
  go_enter Tryd.func86, Tryd.ntmps86
  go_wp2_with fail
  go_loopw [3, 10] (fun v z wr => ∃ (k : Nat) (C : Option Addr) (c : Nat), k ≤ n ∧ z = .int .i64 k ∧ v = .slice C (flt (pok1 L) k).length c ∧ IOwn wr (w.heap.size + 1) wr.heap.size 3 1 C (flt (pok1 L) k).length c (nI (flt (pok1 L) k)) ∧ Bk wr w.heap.size 34 #[.string nm, .slice A n cap, .slice B m capb, .int .i64 df] ∧ Below w.heap.size w wr) (fun _ z _ => n - (intOf z).toNat)
  case atStart => exact ⟨0, _, 0, Nat.zero_le _, rfl, rfl, (by have h := IOwn.lit0 (w.alloc (.cells #[.string nm, .slice A n cap, .slice B m capb, .int .i64 df] 34)) (w.heap.size + 1) 3 1 (by simp); simp only [World.size_alloc] at h; exact IOwn.here h), (Bk.new _ _ _).alloc _, ba (ba (b0 _) _) _⟩
  case round =>
    obtain ⟨k, C, c, hk, rfl, rfl, ho, hbx, hbw⟩ := hrel
    have HO := Lib.hid ho
    have HX := Lib.hid hbx
    have HW := Lib.hid hbw
    have zx := hbx.lt
    have hln : (flt (pok1 L) k).length ≤ 1099511627776 := by have := flt_len (pok1 L) k; omega
    clear ho hbx hbw
    by_cases hlt : k < n
    · have hkL : k < L.length := by have := HL.out; omega
      obtain ⟨g, off, rfl, hg, hcs⟩ := crow (HR.out.below HW.out) (k := k) (by have := HL.out; omega)
      obtain ⟨c0, c1, c2, c3, c4, c5, c6, c7⟩ := hcs k (by have := HL.out; omega)
      obtain ⟨x, hx⟩ : ∃ x, x = cat L k := ⟨_, rfl⟩
      rw [← hx] at c0 c1 c2 c3 c4 c5 c6 c7
      have HXX := Lib.hid hx
      clear hx
      clear hcs
      have HP := Lib.hid (fun b (h : decide (x.pa = 0 ∨ 0 ≤ fnd L x.pa) = b) => pok1_b (L := L) (k := k) (b := b) (by rw [← HXX.out]; exact h))
      have b : Bk wr (w.heap.size) 34 #[.string nm, .slice (some ⟨g, off, none⟩) n cap, .slice B m capb, .int .i64 df] := HX.out
      have zb : w.heap.size < wr.heap.size := b.lt
      have b_0 : wr.cell? ⟨w.heap.size, 0, none⟩ = some (.string nm) := b.cell 0
      have b_1 : wr.cell? ⟨w.heap.size, 1, none⟩ = some (.slice (some ⟨g, off, none⟩) n cap) := b.cell 1
      have b_2 : wr.cell? ⟨w.heap.size, 2, none⟩ = some (.slice B m capb) := b.cell 2
      have b_3 : wr.cell? ⟨w.heap.size, 3, none⟩ = some (.int .i64 df) := b.cell 3
      have bf := b.free
      have Hb := Lib.hid b
      clear b
      by_cases hz : x.pa = 0
      · have HF := Lib.hid (flt_yes (HP.out true (decide_eq_true (.inl hz))))
        go_wp2_with fail
        go_roundw
        case rel => exact ⟨k + 1, C, c, by omega, by go_num, by rw [HF.out], by rw [HF.out]; exact IOwn.here (HO.out.alloc _), HX.out.alloc _, ba HW.out _⟩
        case measure => simp [intOf]; omega
      · have HQ := Lib.hid (fun W (hb : Below w.heap.size w W) => indexOf_any x.pa nm (some ⟨g, off, none⟩) n cap B m capb df L W HL.out (HR.out.below hb) hn)
        obtain ⟨q, hq⟩ : ∃ q, q = fnd L x.pa := ⟨_, rfl⟩
        rw [← hq] at HQ HP
        clear hq
        by_cases hq0 : q < 0
        · have HF := Lib.hid (flt_no (HP.out false (decide_eq_false (by omega))))
          go_wp2_with fail
          refine (HQ.out _ (ba HW.out _)).mono ?_
          rintro e w1 ⟨rfl, hb1⟩
          have HO1 := Lib.hid ((HO.out.alloc _).old hb1)
          have HX1 := Lib.hid ((HX.out.alloc _).old hb1)
          have HW1 := Lib.hid (bt (ba HW.out _) hb1)
          have zx1 : w.heap.size + 1 ≤ w1.heap.size := HX1.out.lt
          clear hb1 b_0 b_1 b_2 b_3 bf zb
          go_wp2_with (at_builtin; refine append_int rfl _ _ rfl (lo := w.heap.size + 1) (hh := wr.heap.size) (l := nI (flt (pok1 L) k)) rfl (HO1.out.alloc _) _ (k : Int) rfl ((Bk.new_ (by simp)).cell 0) hln (by simp; omega) ?_; intro C' c' w5 ho5 hb5)
          rw [← nI_snoc, ← HF.out] at ho5
          have HO5 := Lib.hid ho5
          have HX5 := Lib.hid ((HX1.out.alloc _).below hb5 (by omega))
          have HB5 := Lib.hid ((ba HW1.out _).trans (hb5.mono (by omega)))
          clear ho5 hb5
          have HLN := Lib.hid (show (flt (pok1 L) (k + 1)).length = (flt (pok1 L) k).length + 1 from by rw [HF.out]; simp)
          go_wp2_with fail
          go_roundw
          case rel => exact ⟨k + 1, C', c', by omega, by go_num, by rw [HLN.out], by rw [HLN.out]; exact HO5.out, HX5.out, HB5.out⟩
          case measure => simp [intOf]; omega
        · have HF := Lib.hid (flt_yes (HP.out true (decide_eq_true (.inr (by omega)))))
          go_wp2_with fail
          refine (HQ.out _ (ba HW.out _)).mono ?_
          rintro e w1 ⟨rfl, hb1⟩
          have HO1 := Lib.hid ((HO.out.alloc _).old hb1)
          have HX1 := Lib.hid ((HX.out.alloc _).old hb1)
          have HW1 := Lib.hid (bt (ba HW.out _) hb1)
          clear hb1 b_0 b_1 b_2 b_3 bf zb
          go_wp2_with fail
          go_roundw
          case rel => exact ⟨k + 1, C, c, by omega, by go_num, by rw [HF.out], by rw [HF.out]; exact IOwn.here HO1.out, HX1.out, HW1.out⟩
          case measure => simp [intOf]; omega
    · obtain rfl : k = n := by omega
      go_wp2_with fail
      go_ret
      exact ⟨C, c, rfl, HW.out⟩
set_option maxHeartbeats 2000000 in
theorem parentsRight_any (nm : ByteArray) (A : Option Addr) (n cap : Nat) (B : Option Addr) (m capb : Nat) (df : Int) (L : List Cl) (w : World) (hl : L.length = n) (hr : IRow w A (flc L)) (hn : n ≤ 1000) : Calls Tryd.prog 67 #[.agg #[.string nm, .slice A n cap, .slice B m capb, .int .i64 df]] w fun e w' => e = .returned (.bool (g3 L)) ∧ Below w.heap.size w w' := by
  have HBP := Lib.hid (fun W (hb : Below w.heap.size w W) => badParents_any nm A n cap B m capb df L W hl (hr.below hb) hn)
  have HL := Lib.hid hl
  have HR := Lib.hid hr
  clear hl hr
  have HG := Lib.hid (show g3 L = (decide (((topsTo L n : Nat) : Int) = 1) && decide ((((flt (pok1 L) n).length : Nat) : Int) = 0)) from by rw [flt_all, ← HL.out]; unfold g3; congr 1; rw [decide_eq_decide]; omega)
  go_enter Tryd.func67, Tryd.ntmps67
  go_wp2_with fail
  go_loopw [3, 9] (fun v z wr => ∃ k : Nat, k ≤ n ∧ z = .int .i64 k ∧ v = .int .i64 ((topsTo L k : Nat) : Int) ∧ Bk wr w.heap.size 34 #[.string nm, .slice A n cap, .slice B m capb, .int .i64 df] ∧ Below w.heap.size w wr) (fun _ z _ => n - (intOf z).toNat)
  case atStart => exact ⟨0, Nat.zero_le _, rfl, rfl, Bk.new _ _ _, ba (b0 _) _⟩
  case round =>
    obtain ⟨k, hk, rfl, rfl, hbx, hbw⟩ := hrel
    have HX := Lib.hid hbx
    have HW := Lib.hid hbw
    have zx := hbx.lt
    have htl := topsTo_le L k
    clear hbx hbw
    by_cases hlt : k < n
    · have hkL : k < L.length := by have := HL.out; omega
      obtain ⟨g, off, rfl, hg, hcs⟩ := crow (HR.out.below HW.out) (k := k) (by have := HL.out; omega)
      obtain ⟨c0, c1, c2, c3, c4, c5, c6, c7⟩ := hcs k (by have := HL.out; omega)
      obtain ⟨x, hx⟩ : ∃ x, x = cat L k := ⟨_, rfl⟩
      rw [← hx] at c0 c1 c2 c3 c4 c5 c6 c7
      have HXX := Lib.hid hx
      clear hx
      clear hcs
      have hw1 : IntKind.i64.wrap (((topsTo L k : Nat) : Int) + 1) = ((topsTo L k : Nat) : Int) + 1 := IntWalk.i64_in _ (by omega)
      by_cases hz : x.pa = 0
      · have HT := Lib.hid (topsTo_yes (L := L) (k := k) (by rw [← HXX.out]; exact hz))
        generalize topsTo L k = t at *
        go_wp2_with fail
        go_roundw
        case rel => exact ⟨k + 1, by omega, by go_num, by rw [HT.out]; go_num, HX.out.alloc _, ba HW.out _⟩
        case measure => simp [intOf]; omega
      · have HT := Lib.hid (topsTo_no (L := L) (k := k) (by rw [← HXX.out]; exact hz))
        generalize topsTo L k = t at *
        go_wp2_with fail
        go_roundw
        case rel => exact ⟨k + 1, by omega, by go_num, by rw [HT.out], HX.out.alloc _, ba HW.out _⟩
        case measure => simp [intOf]; omega
    · obtain rfl : k = n := by omega
      have b : Bk wr (w.heap.size) 34 #[.string nm, .slice A k cap, .slice B m capb, .int .i64 df] := HX.out
      have zb : w.heap.size < wr.heap.size := b.lt
      have b_0 : wr.cell? ⟨w.heap.size, 0, none⟩ = some (.string nm) := b.cell 0
      have b_1 : wr.cell? ⟨w.heap.size, 1, none⟩ = some (.slice A k cap) := b.cell 1
      have b_2 : wr.cell? ⟨w.heap.size, 2, none⟩ = some (.slice B m capb) := b.cell 2
      have b_3 : wr.cell? ⟨w.heap.size, 3, none⟩ = some (.int .i64 df) := b.cell 3
      have bf := b.free
      have Hb := Lib.hid b
      clear b
      generalize topsTo L k = t at *
      by_cases ht : (t : Int) = 1
      · go_wp2_with fail
        refine (HBP.out _ HW.out).mono ?_
        rintro e w1 ⟨C, c, rfl, hb1⟩
        generalize (flt (pok1 L) k).length = f at *
        go_wp2_with fail
        go_ret
        exact ⟨ret_b (by rw [HG.out, decide_eq_true ht, Bool.true_and, Bool.eq_iff_iff]; simp), bt HW.out hb1⟩
      · go_wp2_with fail
        go_ret
        exact ⟨ret_b (by rw [HG.out, decide_eq_false ht]; simp), HW.out⟩
theorem cnt_no {L : List Cl} (h : raB L) : fstI L.length (fun k => cnt (cat L k)) = -1 := fstI_none fun i hi => by
  have := h i hi
  simp only [cnt, decide_eq_false_iff_not]
  omega
theorem ratesCountable_any (nm : ByteArray) (A : Option Addr) (n cap : Nat) (B : Option Addr) (m capb : Nat) (df : Int) (L : List Cl) (w : World) (hl : L.length = n) (hr : IRow w A (flc L)) (hn : n ≤ 1000) (hra : raB L) : Calls Tryd.prog 72 #[.agg #[.string nm, .slice A n cap, .slice B m capb, .int .i64 df]] w fun e w' => e = .returned (.bool true) ∧ Below w.heap.size w w' := by
  have HC := Lib.hid (fun W (hb : Below w.heap.size w W) => cfcN_any A n cap L W hl (hr.below hb) (by omega))
  rw [← hl, cnt_no hra] at HC
  have hL := hl
  clear hr hra
  subst hL
  go_enter Tryd.func72, Tryd.ntmps72
  go_wp2_with fail
  refine (HC.out _ (ba (b0 w) _)).mono ?_
  rintro e w1 ⟨rfl, hb1⟩
  go_wp2_with fail
  go_ret
  exact ⟨rfl, bt (ba (b0 w) _) hb1⟩
theorem limitRight_any (i : Nat) (nm : ByteArray) (A : Option Addr) (n cap : Nat) (B : Option Addr) (m capb : Nat) (df : Int) (L : List Cl) (w : World) (hl : L.length = n) (hr : IRow w A (flc L)) (hn : n ≤ 1000) (hi : i < n) : Calls Tryd.prog 76 #[.agg #[.string nm, .slice A n cap, .slice B m capb, .int .i64 df], .int .i64 (i : Int)] w fun e w' => e = .returned (.bool (lim L i)) ∧ Below w.heap.size w w' := by
  have HQ := Lib.hid (fun W (hb : Below w.heap.size w W) => isLeaf_any i nm A n cap B m capb df L W hl (hr.below hb) hn hi)
  have HL := Lib.hid hl
  obtain ⟨g, off, rfl, hg, hcs⟩ := crow hr (k := i) (by omega)
  obtain ⟨c0, c1, c2, c3, c4, c5, c6, c7⟩ := hcs i (by omega)
  obtain ⟨x, hx⟩ : ∃ x, x = cat L i := ⟨_, rfl⟩
  rw [← hx] at c0 c1 c2 c3 c4 c5 c6 c7
  have i0 : (0 : Int) ≤ (i : Int) := by omega
  have i1 : (i : Int) < (n : Int) := by omega
  have HG := Lib.hid (show lim L i = if lf L i then decide (1 ≤ x.li ∧ x.li ≤ 60) else decide (x.li = 0) from by rw [hx]; rfl)
  clear hcs hl hr hi hx
  rcases hlf : lf L i with _ | _
  all_goals
    rw [hlf] at HG HQ
    go_enter Tryd.func76, Tryd.ntmps76
    go_wp2_with fail
    refine (HQ.out _ (by repeat (first | (with_reducible exact b0 _) | (with_reducible refine ba ?_ _)))).mono ?_
    rintro e w1 ⟨rfl, hb1⟩
    have HB1 := Lib.hid (show Below w.heap.size w w1 from bt (by repeat (first | (with_reducible exact b0 _) | (with_reducible refine ba ?_ _))) hb1)
    have y : Bk w1 (w.heap.size + 1) 74 #[.int .i64 x.id, .int .i64 x.pa, .int .i64 x.ra, .int .i64 x.ce, .int .i64 x.bu, .int .i64 x.cb, .int .i64 x.pr, .int .i64 x.li] := (Bk.new_ (by simp)).old hb1
    have zy : w.heap.size + 1 < w1.heap.size := y.lt
    have y_0 : w1.cell? ⟨w.heap.size + 1, 0, none⟩ = some (.int .i64 x.id) := y.cell 0
    have y_1 : w1.cell? ⟨w.heap.size + 1, 1, none⟩ = some (.int .i64 x.pa) := y.cell 1
    have y_2 : w1.cell? ⟨w.heap.size + 1, 2, none⟩ = some (.int .i64 x.ra) := y.cell 2
    have y_3 : w1.cell? ⟨w.heap.size + 1, 3, none⟩ = some (.int .i64 x.ce) := y.cell 3
    have y_4 : w1.cell? ⟨w.heap.size + 1, 4, none⟩ = some (.int .i64 x.bu) := y.cell 4
    have y_5 : w1.cell? ⟨w.heap.size + 1, 5, none⟩ = some (.int .i64 x.cb) := y.cell 5
    have y_6 : w1.cell? ⟨w.heap.size + 1, 6, none⟩ = some (.int .i64 x.pr) := y.cell 6
    have y_7 : w1.cell? ⟨w.heap.size + 1, 7, none⟩ = some (.int .i64 x.li) := y.cell 7
    have yf := y.free
    have Hy := Lib.hid y
    clear y
    clear hb1
    go_wp2_with fail
    all_goals
      go_ret
      exact ⟨ret_b (by rw [HG.out, Bool.eq_iff_iff]; simp; try omega), HB1.out⟩
def ovf (L : List Cl) (k : Nat) : Bool := decide (ks L k ≤ (cat L k).ra)
set_option maxHeartbeats 2000000 in
theorem overfull_any (nm : ByteArray) (A : Option Addr) (n cap : Nat) (B : Option Addr) (m capb : Nat) (df : Int) (L : List Cl) (w : World) (hl : L.length = n) (hr : IRow w A (flc L)) (hn : n ≤ 1000) (hra : raB L) : Calls Tryd.prog 73 #[.agg #[.string nm, .slice A n cap, .slice B m capb, .int .i64 df]] w (LenE w (flt (ovf L) n)) := by
  have HL := Lib.hid hl
  have HR := Lib.hid hr
  have HRA := Lib.hid hra
  clear hl hr hra
  go_enter Tryd.func73, Tryd.ntmps73
  go_wp2_with fail
  go_loopw [3, 10] (fun v z wr => ∃ (k : Nat) (C : Option Addr) (c : Nat), k ≤ n ∧ z = .int .i64 k ∧ v = .slice C (flt (ovf L) k).length c ∧ IOwn wr (w.heap.size + 1) wr.heap.size 3 1 C (flt (ovf L) k).length c (nI (flt (ovf L) k)) ∧ Bk wr w.heap.size 34 #[.string nm, .slice A n cap, .slice B m capb, .int .i64 df] ∧ Below w.heap.size w wr) (fun _ z _ => n - (intOf z).toNat)
  case atStart => exact ⟨0, _, 0, Nat.zero_le _, rfl, rfl, (by have h := IOwn.lit0 (w.alloc (.cells #[.string nm, .slice A n cap, .slice B m capb, .int .i64 df] 34)) (w.heap.size + 1) 3 1 (by simp); simp only [World.size_alloc] at h; exact IOwn.here h), (Bk.new _ _ _).alloc _, ba (ba (b0 _) _) _⟩
  case round =>
    obtain ⟨k, C, c, hk, rfl, rfl, ho, hbx, hbw⟩ := hrel
    have HO := Lib.hid ho
    have HX := Lib.hid hbx
    have HW := Lib.hid hbw
    have zx := hbx.lt
    have hln : (flt (ovf L) k).length ≤ 1099511627776 := by have := flt_len (ovf L) k; omega
    clear ho hbx hbw
    by_cases hlt : k < n
    · have hkL : k < L.length := by have := HL.out; omega
      obtain ⟨g, off, rfl, hg, hcs⟩ := crow (HR.out.below HW.out) (k := k) (by have := HL.out; omega)
      obtain ⟨c0, c1, c2, c3, c4, c5, c6, c7⟩ := hcs k (by have := HL.out; omega)
      obtain ⟨x, hx⟩ : ∃ x, x = cat L k := ⟨_, rfl⟩
      rw [← hx] at c0 c1 c2 c3 c4 c5 c6 c7
      have HXX := Lib.hid hx
      clear hx
      go_wp2_with fail
      obtain ⟨W, hW⟩ : ∃ W, W = wr.alloc (.cells #[.int .i64 x.id, .int .i64 x.pa, .int .i64 x.ra, .int .i64 x.ce, .int .i64 x.bu, .int .i64 x.cb, .int .i64 x.pr, .int .i64 x.li] 74) := ⟨_, rfl⟩
      rw [← hW]
      have HBX := Lib.hid (show Bk W w.heap.size 34 #[.string nm, .slice (some ⟨g, off, none⟩) n cap, .slice B m capb, .int .i64 df] from by rw [hW]; exact HX.out.alloc _)
      have HEL := Lib.hid (show Bk W wr.heap.size 74 #[.int .i64 x.id, .int .i64 x.pa, .int .i64 x.ra, .int .i64 x.ce, .int .i64 x.bu, .int .i64 x.cb, .int .i64 x.pr, .int .i64 x.li] from by rw [hW]; exact Bk.new _ _ _)
      have HBW := Lib.hid (show Below w.heap.size w W from by rw [hW]; exact ba HW.out _)
      have hcW : ∀ j, j < L.length → ClAt W g off j (cat L j) := fun j hj => (hcs j hj).below (by rw [hW]; exact ba (b0 _) _) hg
      have zW : wr.heap.size < W.heap.size := by rw [hW]; simp
      have zg : g < W.heap.size := by omega
      have HOW := Lib.hid (show IOwn W (w.heap.size + 1) wr.heap.size 3 1 C (flt (ovf L) k).length c (nI (flt (ovf L) k)) from by rw [hW]; exact HO.out.alloc _)
      clear hW hcs c0 c1 c2 c3 c4 c5 c6 c7
      have HQ := Lib.hid (fun (u : Gr W) => childRates_any k nm (some ⟨g, off, none⟩) n cap B m capb df L u.v HL.out (HR.out.below (bt HBW.out u.h)) hn (by omega) HRA.out)
      have HP := Lib.hid (fun b (h : decide (ks L k ≤ x.ra) = b) => show ovf L k = b from by unfold ovf; rw [← HXX.out]; exact h)
      obtain ⟨q, hq⟩ : ∃ q, q = ks L k := ⟨_, rfl⟩
      rw [← hq] at HQ HP
      have pb0 := fun (u : Gr W) => gr_cell (HBX.out.cell 0) u
      have pb1 := fun (u : Gr W) => gr_cell (HBX.out.cell 1) u
      have pb2 := fun (u : Gr W) => gr_cell (HBX.out.cell 2) u
      have pb3 := fun (u : Gr W) => gr_cell (HBX.out.cell 3) u
      have pe2 := fun (u : Gr W) => gr_cell (HEL.out.cell 2) u
      clear hcW hq
      by_cases hle : x.ra < q
      · have HF := Lib.hid (flt_no (HP.out false (decide_eq_false (by omega))))
        have hdl : decide (x.ra < q) = true := decide_eq_true hle
        refine wp_region_gr (by kernel_rfl) (by kernel_rfl) ?_
        repeat (go_big_quiet_step ((go_at_call 89; (with_reducible exact gr_of (HQ.out _)))))
        refine wpQuiet_nil ?_
        intro _ hw'
        obtain ⟨pq, hw''⟩ := hw'
        subst hw''
        have HO1 := Lib.hid (HOW.out.old pq.h)
        have HX1 := Lib.hid (HBX.out.old pq.h)
        have HW1 := Lib.hid (bt HBW.out pq.h)
        have zx1 : w.heap.size + 1 ≤ pq.v.heap.size := HX1.out.lt
        have HLN := Lib.hid (show (flt (ovf L) (k + 1)).length = (flt (ovf L) k).length + 1 from by rw [HF.out]; simp)
        go_wp2_with (at_builtin; refine append_int rfl _ _ rfl (lo := w.heap.size + 1) (hh := wr.heap.size) (l := nI (flt (ovf L) k)) rfl (HO1.out.alloc _) _ (k : Int) rfl ((Bk.new_ (by simp)).cell 0) hln (by simp; omega) ?_; intro C' c' w5 ho5 hb5)
        rw [← nI_snoc, ← HF.out] at ho5
        have HO5 := Lib.hid ho5
        have HX5 := Lib.hid ((HX1.out.alloc _).below hb5 (by omega))
        have HB5 := Lib.hid ((ba HW1.out _).trans (hb5.mono (by omega)))
        clear ho5 hb5
        go_wp2_with fail
        go_roundw
        case rel => exact ⟨k + 1, C', c', by omega, by go_num, by rw [HLN.out], by rw [HLN.out]; exact HO5.out, HX5.out, HB5.out⟩
        case measure => simp [intOf]; omega
      · have HF := Lib.hid (flt_yes (HP.out true (decide_eq_true (by omega))))
        have hdl : decide (x.ra < q) = false := decide_eq_false hle
        refine wp_region_gr (by kernel_rfl) (by kernel_rfl) ?_
        repeat (go_big_quiet_step ((go_at_call 89; (with_reducible exact gr_of (HQ.out _)))))
        refine wpQuiet_nil ?_
        intro _ hw'
        obtain ⟨pq, hw''⟩ := hw'
        subst hw''
        go_wp2_with fail
        go_roundw
        case rel => exact ⟨k + 1, C, c, by omega, by go_num, by rw [HF.out], by rw [HF.out]; exact IOwn.here (HOW.out.old pq.h), HBX.out.old pq.h, bt HBW.out pq.h⟩
        case measure => simp [intOf]; omega
    · obtain rfl : k = n := by omega
      go_wp2_with fail
      go_ret
      exact ⟨C, c, rfl, HW.out⟩
theorem g4_no {L : List Cl} {k : Nat} (hk : k < L.length) (h : upk L 8 k = false) : g4 L = false := allB_no hk h
set_option maxHeartbeats 2000000 in
theorem waysRight_any (nm : ByteArray) (A : Option Addr) (n cap : Nat) (B : Option Addr) (m capb : Nat) (df : Int) (L : List Cl) (w : World) (hl : L.length = n) (hr : IRow w A (flc L)) (hn : n ≤ 1000) : Calls Tryd.prog 68 #[.agg #[.string nm, .slice A n cap, .slice B m capb, .int .i64 df]] w fun e w' => e = .returned (.bool (g4 L)) ∧ Below w.heap.size w w' := by
  have HRW := Lib.hid (fun k (hk : k < n) W (hb : Below w.heap.size w W) => rawWay_any k nm A n cap B m capb df L W hl (hr.below hb) hn hk)
  have HL := Lib.hid hl
  have HR := Lib.hid hr
  clear hl hr
  go_enter Tryd.func68, Tryd.ntmps68
  go_wp2_with fail
  go_loopw [9] (fun z wr => ∃ k : Nat, k ≤ n ∧ z = .int .i64 k ∧ (∀ j, j < k → upk L 8 j = true) ∧ Bk wr w.heap.size 34 #[.string nm, .slice A n cap, .slice B m capb, .int .i64 df] ∧ Below w.heap.size w wr) (fun z _ => n - (intOf z).toNat)
  case atStart => exact ⟨0, Nat.zero_le _, rfl, fun j hj => by omega, Bk.new _ _ _, ba (b0 _) _⟩
  case round =>
    obtain ⟨k, hk, rfl, hall, hbx, hbw⟩ := hrel
    have HA := Lib.hid hall
    have HX := Lib.hid hbx
    have HW := Lib.hid hbw
    have zx := hbx.lt
    clear hall hbx hbw
    by_cases hlt : k < n
    · have hkL : k < L.length := by have := HL.out; omega
      have b : Bk wr (w.heap.size) 34 #[.string nm, .slice A n cap, .slice B m capb, .int .i64 df] := HX.out
      have zb : w.heap.size < wr.heap.size := b.lt
      have b_0 : wr.cell? ⟨w.heap.size, 0, none⟩ = some (.string nm) := b.cell 0
      have b_1 : wr.cell? ⟨w.heap.size, 1, none⟩ = some (.slice A n cap) := b.cell 1
      have b_2 : wr.cell? ⟨w.heap.size, 2, none⟩ = some (.slice B m capb) := b.cell 2
      have b_3 : wr.cell? ⟨w.heap.size, 3, none⟩ = some (.int .i64 df) := b.cell 3
      have bf := b.free
      have Hb := Lib.hid b
      clear b
      go_wp2_with fail
      refine (HRW.out k hlt _ HW.out).mono ?_
      rintro e w1 ⟨D, C, c, bb, rfl, hrow, h1, h2, h3, h4, hb1⟩
      have HX1 := Lib.hid (HX.out.old hb1)
      have HW1 := Lib.hid (bt HW.out hb1)
      have H4 := Lib.hid h4
      have H3 := Lib.hid (lastD_lt h3 h1)
      clear hb1 b_0 b_1 b_2 b_3 bf zb h3 h4
      have b : Bk w1 (w.heap.size) 34 #[.string nm, .slice A n cap, .slice B m capb, .int .i64 df] := HX1.out
      have zb : w.heap.size < w1.heap.size := b.lt
      have b_0 : w1.cell? ⟨w.heap.size, 0, none⟩ = some (.string nm) := b.cell 0
      have b_1 : w1.cell? ⟨w.heap.size, 1, none⟩ = some (.slice A n cap) := b.cell 1
      have b_2 : w1.cell? ⟨w.heap.size, 2, none⟩ = some (.slice B m capb) := b.cell 2
      have b_3 : w1.cell? ⟨w.heap.size, 3, none⟩ = some (.int .i64 df) := b.cell 3
      have bf := b.free
      have Hb := Lib.hid b
      clear b
      rcases bb with _ | _
      · have HN := Lib.hid (g4_no hkL (Bool.eq_false_iff.2 fun hu => absurd (H4.out.1 hu).1 (by simp)))
        clear hrow
        go_wp2_with fail
        go_quiet (fail)
        go_wp2_with fail
        go_ret
        exact ⟨by rw [HN.out]; rfl, bd HW1.out _⟩
      by_cases h8 : 8 < D.length
      · have HN := Lib.hid (g4_no hkL (Bool.eq_false_iff.2 fun hu => absurd (H4.out.1 hu).2.1 (by omega)))
        have hd8 : decide ((8 : Int) < ((D.length : Nat) : Int)) = true := by rw [decide_eq_true_iff]; omega
        have hd8' : decide (8 < D.length) = true := by rw [decide_eq_true_iff]; omega
        clear hrow
        generalize D.length = dl at *
        go_wp2_with fail
        go_quiet (fail)
        go_wp2_with fail
        go_ret
        exact ⟨by rw [HN.out]; rfl, bd HW1.out _⟩
      · obtain ⟨j, hj⟩ : ∃ j, D.length = j + 1 := ⟨D.length - 1, by omega⟩
        obtain ⟨gd, od, rfl, hgd, hcd⟩ := hrow.at_ (k := j) (by rw [nI_len]; omega)
        have hcj := hcd j (by rw [nI_len]; omega)
        rw [nI_get (by omega), show D[j]?.getD 0 = lastD D from by unfold lastD; rw [hj]; rfl] at hcj
        obtain ⟨g, off, rfl, hg, hcs⟩ := crow (HR.out.below HW1.out) H3.out
        obtain ⟨c0, c1, c2, c3, c4, c5, c6, c7⟩ := hcs (lastD D) H3.out
        have hd8 : decide ((8 : Int) < ((D.length : Nat) : Int)) = false := by rw [decide_eq_false_iff_not]; omega
        have hd8' : decide (8 < D.length) = false := by rw [decide_eq_false_iff_not]; omega
        have hjw : IntKind.i64.wrap (((D.length : Nat) : Int) - 1) = (j : Int) := by rw [IntWalk.i64_in _ (by omega)]; omega
        have j0 : (0 : Int) ≤ (j : Int) := by omega
        have j1 : (j : Int) < ((D.length : Nat) : Int) := by omega
        have l0 : (0 : Int) ≤ ((lastD D : Nat) : Int) := by omega
        have l1 : ((lastD D : Nat) : Int) < (n : Int) := by have := H3.out; have := HL.out; omega
        have HD8 := Lib.hid (show D.length ≤ 8 by omega)
        clear hcs hcd c0 c2 c3 c4 c5 c6 c7 hj h8
        by_cases hp : (cat L (lastD D)).pa = 0
        · have HY := Lib.hid (all_succ (g := upk L 8) HA.out (H4.out.2 ⟨rfl, HD8.out, hp⟩))
          generalize (cat L (lastD D)).pa = pp at *
          generalize lastD D = ld at *
          generalize D.length = dl at *
          go_wp2_with fail
          go_quiet (fail)
          go_wp2_with fail
          go_roundw
          case rel => exact ⟨k + 1, by omega, by go_num, HY.out, HX1.out.drewN _, bd HW1.out _⟩
          case measure => simp [intOf]; omega
        · have HN := Lib.hid (g4_no hkL (Bool.eq_false_iff.2 fun hu => absurd (H4.out.1 hu).2.2 hp))
          generalize (cat L (lastD D)).pa = pp at *
          generalize lastD D = ld at *
          generalize D.length = dl at *
          go_wp2_with fail
          go_quiet (fail)
          go_wp2_with fail
          go_ret
          exact ⟨by rw [HN.out]; rfl, bd HW1.out _⟩
    · obtain rfl : k = n := by omega
      have HG := Lib.hid (show g4 L = true from allB_yes (by rw [HL.out]; exact HA.out))
      go_wp2_with fail
      go_ret
      exact ⟨by rw [HG.out]; rfl, HW.out⟩
end Go.Proofs.YtjajddhedahpnaaDoor
