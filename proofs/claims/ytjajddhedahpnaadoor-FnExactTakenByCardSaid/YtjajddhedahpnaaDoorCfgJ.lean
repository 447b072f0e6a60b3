/- The contracts of taking a packet by a filter, and of the first filter that takes it, on both sides. -/
import Derived.Test.YtjajddhedahpnaaDoorCfgLaw
import Derived.Test.YtjajddhedahpnaaDoorPackets
import Derived.Test.YtjajddhedahpnaaDoorBlk
import Derived.Test.YtjajddhedahpnaaDoorGrow
import Derived.BigRegion
namespace Go.Proofs.YtjajddhedahpnaaDoor
open Go.ChangeShapes Go.WideShapes Go.ChangeAt Go.RowKit
set_option linter.unusedVariables false
/-- A field of a packet. -/
def fldP (p : Pk) (f : Nat) : Int := fld p.so p.de p.po p.ma f
def tk (x : Fi) (p : Pk) : Bool := decide (bits .and .i64 (fldP p x.fi.toNat) x.ma = x.va)
theorem fiField_any (p : Pk) (f : Nat) (hf : f < 4) (w : World) : Calls Tryd.prog 79 #[.agg #[.int .i64 (p.id), .int .i64 (p.so), .int .i64 (p.de), .int .i64 (p.po), .int .i64 (p.ma), .int .i64 (p.si)], .int .i64 (f : Int)] w fun e w' => e = .returned (.int .i64 (fldP p f)) ∧ Below w.heap.size w w' := by
  obtain rfl | rfl | rfl | rfl : f = 0 ∨ f = 1 ∨ f = 2 ∨ f = 3 := by omega
  all_goals
    go_enter Tryd.func79, Tryd.ntmps79
    go_wp2_with fail
    go_ret
    exact ⟨rfl, (by repeat (first | (with_reducible exact b0 _) | (with_reducible refine ba ?_ _) | (with_reducible refine bd ?_ _) | (with_reducible refine Below.drew ?_) | (with_reducible refine bs ?_ (by first | exact Nat.le_refl _ | exact Nat.le_add_right _ _ | omega) _) | (with_reducible refine bt ?_ (by assumption))))⟩
theorem index_F (p : Pk) (f : Nat) (hf : f < 4) (w : World) : (Instr.index 79 (.agg #[.int .i64 (p.so), .int .i64 (p.de), .int .i64 (p.po), .int .i64 (p.ma)]) (.int .i64 (f : Int))).run Tryd.prog w = .ok (.int .i64 (fldP p f)) w := by
  obtain rfl | rfl | rfl | rfl : f = 0 ∨ f = 1 ∨ f = 2 ∨ f = 3 := by omega
  all_goals kernel_rfl
set_option maxHeartbeats 1000000 in
theorem fiTakes_any (x : Fi) (p : Pk) (hx : 0 ≤ x.fi ∧ x.fi ≤ 3) (w : World) : Calls Tryd.prog 58 #[.agg #[.int .i64 (x.pr), .int .i64 (x.fi), .int .i64 (x.ma), .int .i64 (x.va), .int .i64 (x.ta)], .agg #[.int .i64 (p.id), .int .i64 (p.so), .int .i64 (p.de), .int .i64 (p.po), .int .i64 (p.ma), .int .i64 (p.si)]] w fun e w' => e = .returned (.bool (tk x p)) ∧ Below w.heap.size w w' := by
  obtain ⟨pr, fi, ma, va, ta⟩ := x
  obtain ⟨f, rfl⟩ : ∃ f : Nat, fi = (f : Int) := ⟨fi.toNat, by simp only at hx; omega⟩
  have hf : f < 4 := by simp only at hx; omega
  have HF := Lib.hid (fun W => fiField_any p f hf W)
  have HG := Lib.hid (show tk ⟨pr, (f : Int), ma, va, ta⟩ p = decide (bits .and .i64 (fldP p f) ma = va) from rfl)
  clear hx
  generalize fldP p f = v at *
  obtain ⟨q, hq⟩ : ∃ q, bits .and .i64 v ma = q := ⟨_, rfl⟩
  go_enter Tryd.func58, Tryd.ntmps58
  go_wp2_with fail
  obtain ⟨W, hW⟩ : ∃ W, W = (w.alloc (.cells #[.int .i64 pr, .int .i64 (f : Int), .int .i64 ma, .int .i64 va, .int .i64 ta] 62)).alloc (.cells #[.int .i64 p.id, .int .i64 p.so, .int .i64 p.de, .int .i64 p.po, .int .i64 p.ma, .int .i64 p.si] 36) := ⟨_, rfl⟩
  rw [← hW]
  have HX := Lib.hid (show Bk W w.heap.size 62 #[.int .i64 pr, .int .i64 (f : Int), .int .i64 ma, .int .i64 va, .int .i64 ta] from by rw [hW]; exact (Bk.new _ _ _).alloc _)
  have HP := Lib.hid (show Bk W (w.heap.size + 1) 36 #[.int .i64 p.id, .int .i64 p.so, .int .i64 p.de, .int .i64 p.po, .int .i64 p.ma, .int .i64 p.si] from by rw [hW]; exact Bk.new_ (by simp))
  have HW := Lib.hid (show Below w.heap.size w W from by rw [hW]; exact ba (ba (b0 w) _) _)
  clear hW
  have px1 := fun (u : Gr W) => gr_cell (HX.out.cell 1) u
  have px2 := fun (u : Gr W) => gr_cell (HX.out.cell 2) u
  have px3 := fun (u : Gr W) => gr_cell (HX.out.cell 3) u
  have pp0 := fun (u : Gr W) => gr_cell (HP.out.cell 0) u
  have pp1 := fun (u : Gr W) => gr_cell (HP.out.cell 1) u
  have pp2 := fun (u : Gr W) => gr_cell (HP.out.cell 2) u
  have pp3 := fun (u : Gr W) => gr_cell (HP.out.cell 3) u
  have pp4 := fun (u : Gr W) => gr_cell (HP.out.cell 4) u
  have pp5 := fun (u : Gr W) => gr_cell (HP.out.cell 5) u
  refine wp_region_gr (by kernel_rfl) (by kernel_rfl) ?_
  repeat (go_big_quiet_step ((go_at_call 79; (with_reducible exact gr_of (HF.out _)))))
  refine wpQuiet_nil ?_
  intro _ hw'
  obtain ⟨pq, hw''⟩ := hw'
  subst hw''
  go_wp2_with fail
  go_ret
  exact ⟨ret_b (by rw [HG.out, hq, Bool.eq_iff_iff]; simp), bt HW.out pq.h⟩
set_option maxHeartbeats 1000000 in
theorem takes_any (x : Fi) (p : Pk) (hx : 0 ≤ x.fi ∧ x.fi ≤ 3) (w : World) : Calls Tryd.prog 53 #[.agg #[.int .i64 (x.pr), .int .i64 (x.fi), .int .i64 (x.ma), .int .i64 (x.va), .int .i64 (x.ta)], .agg #[.int .i64 (p.id), .int .i64 (p.so), .int .i64 (p.de), .int .i64 (p.po), .int .i64 (p.ma), .int .i64 (p.si)]] w fun e w' => e = .returned (.bool (tk x p)) ∧ Below w.heap.size w w' := by
  obtain ⟨pr, fi, ma, va, ta⟩ := x
  obtain ⟨f, rfl⟩ : ∃ f : Nat, fi = (f : Int) := ⟨fi.toNat, by simp only at hx; omega⟩
  have hf : f < 4 := by simp only at hx; omega
  have ix := index_F p f hf
  have HF := Lib.hid (fun W => fieldsOf_any p.id p.so p.de p.po p.ma p.si W)
  have HG := Lib.hid (show tk ⟨pr, (f : Int), ma, va, ta⟩ p = decide (bits .and .i64 (fldP p f) ma = va) from rfl)
  clear hx
  generalize fldP p f = v at *
  obtain ⟨q, hq⟩ : ∃ q, bits .and .i64 v ma = q := ⟨_, rfl⟩
  go_enter Tryd.func53, Tryd.ntmps53
  go_wp2_with fail
  obtain ⟨W, hW⟩ : ∃ W, W = (w.alloc (.cells #[.int .i64 pr, .int .i64 (f : Int), .int .i64 ma, .int .i64 va, .int .i64 ta] 62)).alloc (.cells #[.int .i64 p.id, .int .i64 p.so, .int .i64 p.de, .int .i64 p.po, .int .i64 p.ma, .int .i64 p.si] 36) := ⟨_, rfl⟩
  rw [← hW]
  have HX := Lib.hid (show Bk W w.heap.size 62 #[.int .i64 pr, .int .i64 (f : Int), .int .i64 ma, .int .i64 va, .int .i64 ta] from by rw [hW]; exact (Bk.new _ _ _).alloc _)
  have HP := Lib.hid (show Bk W (w.heap.size + 1) 36 #[.int .i64 p.id, .int .i64 p.so, .int .i64 p.de, .int .i64 p.po, .int .i64 p.ma, .int .i64 p.si] from by rw [hW]; exact Bk.new_ (by simp))
  have HW := Lib.hid (show Below w.heap.size w W from by rw [hW]; exact ba (ba (b0 w) _) _)
  clear hW
  have px1 := fun (u : Gr W) => gr_cell (HX.out.cell 1) u
  have px2 := fun (u : Gr W) => gr_cell (HX.out.cell 2) u
  have px3 := fun (u : Gr W) => gr_cell (HX.out.cell 3) u
  have pp0 := fun (u : Gr W) => gr_cell (HP.out.cell 0) u
  have pp1 := fun (u : Gr W) => gr_cell (HP.out.cell 1) u
  have pp2 := fun (u : Gr W) => gr_cell (HP.out.cell 2) u
  have pp3 := fun (u : Gr W) => gr_cell (HP.out.cell 3) u
  have pp4 := fun (u : Gr W) => gr_cell (HP.out.cell 4) u
  have pp5 := fun (u : Gr W) => gr_cell (HP.out.cell 5) u
  refine wp_region_gr (by kernel_rfl) (by kernel_rfl) ?_
  repeat (go_big_quiet_step ((go_at_call 52; (with_reducible exact gr_of (HF.out _)))))
  refine wpQuiet_nil ?_
  intro _ hw'
  obtain ⟨pq, hw''⟩ := hw'
  subst hw''
  go_wp2_with fail
  go_ret
  exact ⟨ret_b (by rw [HG.out, hq, Bool.eq_iff_iff]; simp), bt HW.out pq.h⟩
def fOk (F : List Fi) : Prop := ∀ k, k < F.length → 0 ≤ (fat F k).fi ∧ (fat F k).fi ≤ 3
def tkI (F : List Fi) (p : Pk) (k : Nat) : Bool := tk (fat F k) p
def ffst (F : List Fi) (p : Pk) : Int := fstI F.length (tkI F p)
set_option maxHeartbeats 1000000 in
theorem fiFirst_any (p : Pk) (B : Option Addr) (m capb : Nat) (F : List Fi) (w : World) (hf : F.length = m) (hrf : IRow w B (flf F)) (hm : m ≤ 1000) (hok : fOk F) : Calls Tryd.prog 37 #[.slice B m capb, .agg #[.int .i64 (p.id), .int .i64 (p.so), .int .i64 (p.de), .int .i64 (p.po), .int .i64 (p.ma), .int .i64 (p.si)]] w fun e w' => e = .returned (.int .i64 (ffst F p)) ∧ Below w.heap.size w w' := by
  have HL := Lib.hid hf
  have HR := Lib.hid hrf
  have HO := Lib.hid hok
  clear hf hrf hok
  go_enter Tryd.func37, Tryd.ntmps37
  go_wp2_with fail
  go_loopw [9] (fun z wr => ∃ k : Nat, k ≤ m ∧ z = .int .i64 k ∧ (∀ j, j < k → tkI F p j = false) ∧ Bk wr w.heap.size 36 #[.int .i64 p.id, .int .i64 p.so, .int .i64 p.de, .int .i64 p.po, .int .i64 p.ma, .int .i64 p.si] ∧ Below w.heap.size w wr) (fun z _ => m - (intOf z).toNat)
  case atStart => exact ⟨0, Nat.zero_le _, rfl, none_zero, Bk.new _ _ _, ba (b0 _) _⟩
  case round =>
    obtain ⟨k, hk, rfl, hall, hbx, hbw⟩ := hrel
    have HA := Lib.hid hall
    have HX := Lib.hid hbx
    have HW := Lib.hid hbw
    clear hall hbx hbw
    by_cases hlt : k < m
    · have hkL : k < F.length := by have := HL.out; omega
      obtain ⟨g, off, rfl, hg, hcs⟩ := frow (HR.out.below HW.out) (k := k) hkL
      obtain ⟨c0, c1, c2, c3, c4⟩ := hcs k hkL
      have HT := Lib.hid (fun W => fiTakes_any (fat F k) p (HO.out k hkL) W)
      have b : Bk wr (w.heap.size) 36 #[.int .i64 p.id, .int .i64 p.so, .int .i64 p.de, .int .i64 p.po, .int .i64 p.ma, .int .i64 p.si] := HX.out
      have zb : w.heap.size < wr.heap.size := b.lt
      have b_0 : wr.cell? ⟨w.heap.size, 0, none⟩ = some (.int .i64 p.id) := b.cell 0
      have b_1 : wr.cell? ⟨w.heap.size, 1, none⟩ = some (.int .i64 p.so) := b.cell 1
      have b_2 : wr.cell? ⟨w.heap.size, 2, none⟩ = some (.int .i64 p.de) := b.cell 2
      have b_3 : wr.cell? ⟨w.heap.size, 3, none⟩ = some (.int .i64 p.po) := b.cell 3
      have b_4 : wr.cell? ⟨w.heap.size, 4, none⟩ = some (.int .i64 p.ma) := b.cell 4
      have b_5 : wr.cell? ⟨w.heap.size, 5, none⟩ = some (.int .i64 p.si) := b.cell 5
      have bf := b.free
      have Hb := Lib.hid b
      clear b
      clear hcs
      rcases hh : tk (fat F k) p with _ | _
      · have hR := Lib.hid (none_succ HA.out (show tkI F p k = false from hh))
        rw [hh] at HT
        clear hh
        generalize fat F k = x at *
        go_wp2_with fail
        refine (HT.out _).mono ?_
        rintro e w1 ⟨rfl, hb1⟩
        have HX1 := Lib.hid ((HX.out.alloc _).old hb1)
        have HW1 := Lib.hid (bt (ba HW.out _) hb1)
        clear hb1 b_0 b_1 b_2 b_3 b_4 b_5 bf zb
        go_wp2_with fail
        go_roundw
        case rel => exact ⟨k + 1, by omega, by go_num, hR.out, HX1.out, HW1.out⟩
        case measure => simp [intOf]; omega
      · have hR := Lib.hid (show ffst F p = k from fstI_hit hkL HA.out (show tkI F p k = true from hh))
        rw [hh] at HT
        clear hh
        generalize fat F k = x at *
        go_wp2_with fail
        refine (HT.out _).mono ?_
        rintro e w1 ⟨rfl, hb1⟩
        go_wp2_with fail
        go_ret
        exact ⟨by rw [hR.out]; rfl, bt (ba HW.out _) hb1⟩
    · obtain rfl : k = m := by omega
      have hR := Lib.hid (show ffst F p = -1 from fstI_none (by rw [HL.out]; exact HA.out))
      go_wp2_with fail
      go_ret
      exact ⟨by rw [hR.out]; rfl, HW.out⟩
set_option maxHeartbeats 1000000 in
theorem firstFilter_any (p : Pk) (B : Option Addr) (m capb : Nat) (F : List Fi) (w : World) (hf : F.length = m) (hrf : IRow w B (flf F)) (hm : m ≤ 1000) (hok : fOk F) : Calls Tryd.prog 33 #[.slice B m capb, .agg #[.int .i64 (p.id), .int .i64 (p.so), .int .i64 (p.de), .int .i64 (p.po), .int .i64 (p.ma), .int .i64 (p.si)]] w fun e w' => e = .returned (.int .i64 (ffst F p)) ∧ Below w.heap.size w w' := by
  have HL := Lib.hid hf
  have HR := Lib.hid hrf
  have HO := Lib.hid hok
  clear hf hrf hok
  go_enter Tryd.func33, Tryd.ntmps33
  go_wp2_with fail
  go_loopw [9] (fun z wr => ∃ k : Nat, k ≤ m ∧ z = .int .i64 k ∧ (∀ j, j < k → tkI F p j = false) ∧ Bk wr w.heap.size 36 #[.int .i64 p.id, .int .i64 p.so, .int .i64 p.de, .int .i64 p.po, .int .i64 p.ma, .int .i64 p.si] ∧ Below w.heap.size w wr) (fun z _ => m - (intOf z).toNat)
  case atStart => exact ⟨0, Nat.zero_le _, rfl, none_zero, Bk.new _ _ _, ba (b0 _) _⟩
  case round =>
    obtain ⟨k, hk, rfl, hall, hbx, hbw⟩ := hrel
    have HA := Lib.hid hall
    have HX := Lib.hid hbx
    have HW := Lib.hid hbw
    clear hall hbx hbw
    by_cases hlt : k < m
    · have hkL : k < F.length := by have := HL.out; omega
      obtain ⟨g, off, rfl, hg, hcs⟩ := frow (HR.out.below HW.out) (k := k) hkL
      obtain ⟨c0, c1, c2, c3, c4⟩ := hcs k hkL
      have HT := Lib.hid (fun W => takes_any (fat F k) p (HO.out k hkL) W)
      have b : Bk wr (w.heap.size) 36 #[.int .i64 p.id, .int .i64 p.so, .int .i64 p.de, .int .i64 p.po, .int .i64 p.ma, .int .i64 p.si] := HX.out
      have zb : w.heap.size < wr.heap.size := b.lt
      have b_0 : wr.cell? ⟨w.heap.size, 0, none⟩ = some (.int .i64 p.id) := b.cell 0
      have b_1 : wr.cell? ⟨w.heap.size, 1, none⟩ = some (.int .i64 p.so) := b.cell 1
      have b_2 : wr.cell? ⟨w.heap.size, 2, none⟩ = some (.int .i64 p.de) := b.cell 2
      have b_3 : wr.cell? ⟨w.heap.size, 3, none⟩ = some (.int .i64 p.po) := b.cell 3
      have b_4 : wr.cell? ⟨w.heap.size, 4, none⟩ = some (.int .i64 p.ma) := b.cell 4
      have b_5 : wr.cell? ⟨w.heap.size, 5, none⟩ = some (.int .i64 p.si) := b.cell 5
      have bf := b.free
      have Hb := Lib.hid b
      clear b
      clear hcs
      rcases hh : tk (fat F k) p with _ | _
      · have hR := Lib.hid (none_succ HA.out (show tkI F p k = false from hh))
        rw [hh] at HT
        clear hh
        generalize fat F k = x at *
        go_wp2_with fail
        refine (HT.out _).mono ?_
        rintro e w1 ⟨rfl, hb1⟩
        have HX1 := Lib.hid ((HX.out.alloc _).old hb1)
        have HW1 := Lib.hid (bt (ba HW.out _) hb1)
        clear hb1 b_0 b_1 b_2 b_3 b_4 b_5 bf zb
        go_wp2_with fail
        go_roundw
        case rel => exact ⟨k + 1, by omega, by go_num, hR.out, HX1.out, HW1.out⟩
        case measure => simp [intOf]; omega
      · have hR := Lib.hid (show ffst F p = k from fstI_hit hkL HA.out (show tkI F p k = true from hh))
        rw [hh] at HT
        clear hh
        generalize fat F k = x at *
        go_wp2_with fail
        refine (HT.out _).mono ?_
        rintro e w1 ⟨rfl, hb1⟩
        go_wp2_with fail
        go_ret
        exact ⟨by rw [hR.out]; rfl, bt (ba HW.out _) hb1⟩
    · obtain rfl : k = m := by omega
      have hR := Lib.hid (show ffst F p = -1 from fstI_none (by rw [HL.out]; exact HA.out))
      go_wp2_with fail
      go_ret
      exact ⟨by rw [hR.out]; rfl, HW.out⟩
end Go.Proofs.YtjajddhedahpnaaDoor
