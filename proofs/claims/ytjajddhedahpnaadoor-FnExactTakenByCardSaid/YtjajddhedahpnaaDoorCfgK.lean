/- The contracts of FirstFilter and LeafFor, on both sides. (Printed by cfgen6.py.) -/
import Derived.Test.YtjajddhedahpnaaDoorCfgH
import Derived.Test.YtjajddhedahpnaaDoorCfgI
import Derived.Test.YtjajddhedahpnaaDoorCfgJ
namespace Go.Proofs.YtjajddhedahpnaaDoor
open Go.ChangeShapes Go.WideShapes Go.ChangeAt Go.RowKit
set_option linter.unusedVariables false
/-- What a valid configuration gives. -/
structure Cgd (L : List Cl) (F : List Fi) (df : Int) : Prop where
  fo : fOk F
  m16 : F.length ≤ 16
  n24 : L.length ≤ 24
  ft : ∀ k, k < F.length → 0 ≤ fnd L (fat F k).ta
  fd : df = 0 ∨ 0 ≤ fnd L df
  nz : ∀ id, 0 ≤ fnd L id → id ≠ 0
theorem tg_fnd {L : List Cl} {id : Int} (h : tg L id = true) : 0 ≤ fnd L id := by
  unfold tg at h
  rw [Bool.and_eq_true] at h
  exact of_decide_eq_true h.1
theorem cg_d {nm : ByteArray} {L : List Cl} {F : List Fi} {df : Int} (h : cg (nmB nm) L F df = true) : Cgd L F df := by
  have h2 : g2 L = true := cg_iff.1 h 2 (by omega) (by omega)
  have h9 : g9 L F = true := cg_iff.1 h 9 (by omega) (by omega)
  have h10 : g10 L df = true := cg_iff.1 h 10 (by omega) (by omega)
  unfold g2 at h2
  unfold g9 at h9
  unfold g10 at h10
  rw [Bool.and_eq_true, allB_iff, decide_eq_true_eq] at h2 h9
  refine ⟨fun k hk => ?_, h9.2, h2.2.2, fun k hk => ?_, ?_, fun id h0 e => ?_⟩
  · have := h9.1 k hk
    simp only [Bool.and_eq_true] at this
    have h3 := of_decide_eq_true this.1.1
    exact h3.2.1
  · have := h9.1 k hk
    simp only [Bool.and_eq_true] at this
    exact tg_fnd this.2
  · rw [Bool.or_eq_true, decide_eq_true_eq] at h10
    exact h10.imp id tg_fnd
  · unfold fnd at h0
    rcases fstI_cases L.length (isI L id) with ⟨k, hk, h1, _, h4⟩ | ⟨_, h4⟩
    · have h5 := of_decide_eq_true h1
      have h6 := h2.1 k hk
      rw [Bool.and_eq_true] at h6
      have h7 := of_decide_eq_true h6.1
      omega
    · omega
def ffR (nm : ByteArray) (L : List Cl) (F : List Fi) (df : Int) (p : Pk) : Int × Bool := if cg (nmB nm) L F df = true ∧ p.ok = true ∧ 0 ≤ ffst F p then (ffst F p, true) else (0, false)
/-- The class of the leaf for a packet, of a valid configuration; -1 if there is none. -/
def lfv (L : List Cl) (F : List Fi) (df : Int) (p : Pk) : Int := if 0 ≤ ffst F p then fnd L (fat F (ffst F p).toNat).ta else if df = 0 then -1 else fnd L df
def lfR (nm : ByteArray) (L : List Cl) (F : List Fi) (df : Int) (p : Pk) : Int × Bool := if cg (nmB nm) L F df = true ∧ p.ok = true ∧ 0 ≤ lfv L F df p then (lfv L F df p, true) else (0, false)
def TupE (w : World) (r : Int × Bool) (e : Ending) (w' : World) : Prop := e = .returned (.tuple #[.int .i64 r.1, .bool r.2]) ∧ Below w.heap.size w w'
theorem TupE_of {w w' : World} {r : Int × Bool} {q : Int} {b : Bool} {e : Ending} (h : r = (q, b)) (he : e = .returned (.tuple #[.int .i64 q, .bool b])) (hb : Below w.heap.size w w') : TupE w r e w' := by
  subst h
  exact ⟨he, hb⟩
theorem ffst_b (F : List Fi) (p : Pk) : -1 ≤ ffst F p ∧ ffst F p < F.length := fstI_b _ _
set_option maxHeartbeats 2000000 in
theorem specFirstFilter_any (p : Pk) (nm : ByteArray) (A : Option Addr) (n cap : Nat) (B : Option Addr) (m capb : Nat) (df : Int) (L : List Cl) (F : List Fi) (w : World) (hl : L.length = n) (hr : IRow w A (flc L)) (hf : F.length = m) (hrf : IRow w B (flf F)) (hs : nm.size ≤ 1048576) (hm : m ≤ 1048576) : Calls Tryd.prog 22 #[.agg #[.string nm, .slice A n cap, .slice B m capb, .int .i64 df], .agg #[.int .i64 (p.id), .int .i64 (p.so), .int .i64 (p.de), .int .i64 (p.po), .int .i64 (p.ma), .int .i64 (p.si)]] w (TupE w (ffR nm L F df p)) := by
  have HG := Lib.hid (fun W (hb : Below w.heap.size w W) => cfGood_any nm A n cap B m capb df L F W hl (hr.below hb) hf (hrf.below hb) hs hm)
  have HL := Lib.hid hl
  have HR := Lib.hid hr
  have HLF := Lib.hid hf
  have HRF := Lib.hid hrf
  clear hl hr hf hrf
  have HBX := Lib.hid (show Bk ((w.alloc (.cells #[.string nm, .slice A n cap, .slice B m capb, .int .i64 df] 34)).alloc (.cells #[.int .i64 p.id, .int .i64 p.so, .int .i64 p.de, .int .i64 p.po, .int .i64 p.ma, .int .i64 p.si] 36)) w.heap.size 34 #[.string nm, .slice A n cap, .slice B m capb, .int .i64 df] from (Bk.new _ _ _).alloc _)
  have HBP := Lib.hid (show Bk ((w.alloc (.cells #[.string nm, .slice A n cap, .slice B m capb, .int .i64 df] 34)).alloc (.cells #[.int .i64 p.id, .int .i64 p.so, .int .i64 p.de, .int .i64 p.po, .int .i64 p.ma, .int .i64 p.si] 36)) (w.heap.size + 1) 36 #[.int .i64 p.id, .int .i64 p.so, .int .i64 p.de, .int .i64 p.po, .int .i64 p.ma, .int .i64 p.si] from Bk.new_ (by simp))
  have HBW := Lib.hid (show Below w.heap.size w ((w.alloc (.cells #[.string nm, .slice A n cap, .slice B m capb, .int .i64 df] 34)).alloc (.cells #[.int .i64 p.id, .int .i64 p.so, .int .i64 p.de, .int .i64 p.po, .int .i64 p.ma, .int .i64 p.si] 36)) from ba (ba (b0 w) _) _)
  rcases h1 : cg (nmB nm) L F df with _ | _
  · have hR := Lib.hid (show ffR nm L F df p = (0, false) from by unfold ffR; rw [if_neg]; rw [h1]; simp)
    rw [h1] at HG
    go_enter Tryd.func22, Tryd.ntmps22
    go_wp2_with fail
    refine (HG.out _ HBW.out).mono ?_
    rintro e w1 ⟨rfl, hb1⟩
    go_wp2_with fail
    go_ret2
    exact TupE_of hR.out rfl (bt HBW.out hb1)
  rw [h1] at HG
  have HD := Lib.hid (cg_d h1)
  go_enter Tryd.func22, Tryd.ntmps22
  go_wp2_with fail
  refine (HG.out _ HBW.out).mono ?_
  rintro e w1 ⟨rfl, hb1⟩
  have HX1 := Lib.hid (HBX.out.old hb1)
  have HP1 := Lib.hid (HBP.out.old hb1)
  have HW1 := Lib.hid (bt HBW.out hb1)
  have b : Bk w1 (w.heap.size) 34 #[.string nm, .slice A n cap, .slice B m capb, .int .i64 df] := HX1.out
  have zb : w.heap.size < w1.heap.size := b.lt
  have b_0 : w1.cell? ⟨w.heap.size, 0, none⟩ = some (.string nm) := b.cell 0
  have b_1 : w1.cell? ⟨w.heap.size, 1, none⟩ = some (.slice A n cap) := b.cell 1
  have b_2 : w1.cell? ⟨w.heap.size, 2, none⟩ = some (.slice B m capb) := b.cell 2
  have b_3 : w1.cell? ⟨w.heap.size, 3, none⟩ = some (.int .i64 df) := b.cell 3
  have bf := b.free
  have Hb := Lib.hid b
  clear b
  have y : Bk w1 (w.heap.size + 1) 36 #[.int .i64 p.id, .int .i64 p.so, .int .i64 p.de, .int .i64 p.po, .int .i64 p.ma, .int .i64 p.si] := HP1.out
  have zy : w.heap.size + 1 < w1.heap.size := y.lt
  have y_0 : w1.cell? ⟨w.heap.size + 1, 0, none⟩ = some (.int .i64 p.id) := y.cell 0
  have y_1 : w1.cell? ⟨w.heap.size + 1, 1, none⟩ = some (.int .i64 p.so) := y.cell 1
  have y_2 : w1.cell? ⟨w.heap.size + 1, 2, none⟩ = some (.int .i64 p.de) := y.cell 2
  have y_3 : w1.cell? ⟨w.heap.size + 1, 3, none⟩ = some (.int .i64 p.po) := y.cell 3
  have y_4 : w1.cell? ⟨w.heap.size + 1, 4, none⟩ = some (.int .i64 p.ma) := y.cell 4
  have y_5 : w1.cell? ⟨w.heap.size + 1, 5, none⟩ = some (.int .i64 p.si) := y.cell 5
  have yf := y.free
  have Hy := Lib.hid y
  clear y
  clear hb1 HBX HBP
  go_wp2_with fail
  rcases hp : p.ok with _ | _
  · have hR := Lib.hid (show ffR nm L F df p = (0, false) from by unfold ffR; rw [if_neg]; rw [hp]; simp)
    refine (pkGood_b hp _).mono ?_
    rintro e w2 ⟨rfl, hb2⟩
    go_wp2_with fail
    go_ret2
    exact TupE_of hR.out rfl (bt HW1.out hb2)
  refine (pkGood_b hp _).mono ?_
  rintro e w2 ⟨rfl, hb2⟩
  have HX2 := Lib.hid (HX1.out.old hb2)
  have HP2 := Lib.hid (HP1.out.old hb2)
  have HW2 := Lib.hid (bt HW1.out hb2)
  clear hb2 HX1 HP1 b_0 b_1 b_2 b_3 bf zb Hb y_0 y_1 y_2 y_3 y_4 y_5 yf zy Hy
  have b : Bk w2 (w.heap.size) 34 #[.string nm, .slice A n cap, .slice B m capb, .int .i64 df] := HX2.out
  have zb : w.heap.size < w2.heap.size := b.lt
  have b_0 : w2.cell? ⟨w.heap.size, 0, none⟩ = some (.string nm) := b.cell 0
  have b_1 : w2.cell? ⟨w.heap.size, 1, none⟩ = some (.slice A n cap) := b.cell 1
  have b_2 : w2.cell? ⟨w.heap.size, 2, none⟩ = some (.slice B m capb) := b.cell 2
  have b_3 : w2.cell? ⟨w.heap.size, 3, none⟩ = some (.int .i64 df) := b.cell 3
  have bf := b.free
  have Hb := Lib.hid b
  clear b
  have y : Bk w2 (w.heap.size + 1) 36 #[.int .i64 p.id, .int .i64 p.so, .int .i64 p.de, .int .i64 p.po, .int .i64 p.ma, .int .i64 p.si] := HP2.out
  have zy : w.heap.size + 1 < w2.heap.size := y.lt
  have y_0 : w2.cell? ⟨w.heap.size + 1, 0, none⟩ = some (.int .i64 p.id) := y.cell 0
  have y_1 : w2.cell? ⟨w.heap.size + 1, 1, none⟩ = some (.int .i64 p.so) := y.cell 1
  have y_2 : w2.cell? ⟨w.heap.size + 1, 2, none⟩ = some (.int .i64 p.de) := y.cell 2
  have y_3 : w2.cell? ⟨w.heap.size + 1, 3, none⟩ = some (.int .i64 p.po) := y.cell 3
  have y_4 : w2.cell? ⟨w.heap.size + 1, 4, none⟩ = some (.int .i64 p.ma) := y.cell 4
  have y_5 : w2.cell? ⟨w.heap.size + 1, 5, none⟩ = some (.int .i64 p.si) := y.cell 5
  have yf := y.free
  have Hy := Lib.hid y
  clear y
  have HF := Lib.hid (fun W (hb : Below w.heap.size w W) => fiFirst_any p B m capb F W HLF.out (HRF.out.below hb) (by have := HD.out.m16; have := HLF.out; omega) HD.out.fo)
  have hRy := Lib.hid (fun (h : 0 ≤ ffst F p) => show ffR nm L F df p = (ffst F p, true) from by unfold ffR; rw [if_pos ⟨h1, hp, h⟩])
  have hRn := Lib.hid (fun (h : ¬ 0 ≤ ffst F p) => show ffR nm L F df p = (0, false) from by unfold ffR; rw [if_neg]; exact fun h' => h h'.2.2)
  generalize ffst F p = q at *
  go_wp2_with fail
  refine (HF.out _ HW2.out).mono ?_
  rintro e w3 ⟨rfl, hb3⟩
  have HX3 := Lib.hid (HX2.out.old hb3)
  have HP3 := Lib.hid (HP2.out.old hb3)
  have HW3 := Lib.hid (bt HW2.out hb3)
  clear hb3 HX2 HP2 b_0 b_1 b_2 b_3 bf zb Hb y_0 y_1 y_2 y_3 y_4 y_5 yf zy Hy
  have b : Bk w3 (w.heap.size) 34 #[.string nm, .slice A n cap, .slice B m capb, .int .i64 df] := HX3.out
  have zb : w.heap.size < w3.heap.size := b.lt
  have b_0 : w3.cell? ⟨w.heap.size, 0, none⟩ = some (.string nm) := b.cell 0
  have b_1 : w3.cell? ⟨w.heap.size, 1, none⟩ = some (.slice A n cap) := b.cell 1
  have b_2 : w3.cell? ⟨w.heap.size, 2, none⟩ = some (.slice B m capb) := b.cell 2
  have b_3 : w3.cell? ⟨w.heap.size, 3, none⟩ = some (.int .i64 df) := b.cell 3
  have bf := b.free
  have Hb := Lib.hid b
  clear b
  have y : Bk w3 (w.heap.size + 1) 36 #[.int .i64 p.id, .int .i64 p.so, .int .i64 p.de, .int .i64 p.po, .int .i64 p.ma, .int .i64 p.si] := HP3.out
  have zy : w.heap.size + 1 < w3.heap.size := y.lt
  have y_0 : w3.cell? ⟨w.heap.size + 1, 0, none⟩ = some (.int .i64 p.id) := y.cell 0
  have y_1 : w3.cell? ⟨w.heap.size + 1, 1, none⟩ = some (.int .i64 p.so) := y.cell 1
  have y_2 : w3.cell? ⟨w.heap.size + 1, 2, none⟩ = some (.int .i64 p.de) := y.cell 2
  have y_3 : w3.cell? ⟨w.heap.size + 1, 3, none⟩ = some (.int .i64 p.po) := y.cell 3
  have y_4 : w3.cell? ⟨w.heap.size + 1, 4, none⟩ = some (.int .i64 p.ma) := y.cell 4
  have y_5 : w3.cell? ⟨w.heap.size + 1, 5, none⟩ = some (.int .i64 p.si) := y.cell 5
  have yf := y.free
  have Hy := Lib.hid y
  clear y
  by_cases hq : q < 0
  · have hR := Lib.hid (hRn.out (by omega))
    go_wp2_with fail
    go_ret2
    exact TupE_of hR.out rfl HW3.out
  · have hR := Lib.hid (hRy.out (by omega))
    go_wp2_with fail
    refine (HF.out _ HW3.out).mono ?_
    rintro e w4 ⟨rfl, hb4⟩
    go_wp2_with fail
    go_ret2
    exact TupE_of hR.out rfl (bt HW3.out hb4)

set_option maxHeartbeats 2000000 in
theorem implFirstFilter_any (p : Pk) (nm : ByteArray) (A : Option Addr) (n cap : Nat) (B : Option Addr) (m capb : Nat) (df : Int) (L : List Cl) (F : List Fi) (w : World) (hl : L.length = n) (hr : IRow w A (flc L)) (hf : F.length = m) (hrf : IRow w B (flf F)) (hky : KeysOk w) : Calls Tryd.prog 23 #[.agg #[.string nm, .slice A n cap, .slice B m capb, .int .i64 df], .agg #[.int .i64 (p.id), .int .i64 (p.so), .int .i64 (p.de), .int .i64 (p.po), .int .i64 (p.ma), .int .i64 (p.si)]] w (TupE w (ffR nm L F df p)) := by
  have HG := Lib.hid (fun W (hb : Below w.heap.size w W) => isConfig_any nm A n cap B m capb df L F W hl (hr.below hb) hf (hrf.below hb) (hky.below hb))
  have HL := Lib.hid hl
  have HR := Lib.hid hr
  have HLF := Lib.hid hf
  have HRF := Lib.hid hrf
  clear hl hr hf hrf
  have HBX := Lib.hid (show Bk ((w.alloc (.cells #[.string nm, .slice A n cap, .slice B m capb, .int .i64 df] 34)).alloc (.cells #[.int .i64 p.id, .int .i64 p.so, .int .i64 p.de, .int .i64 p.po, .int .i64 p.ma, .int .i64 p.si] 36)) w.heap.size 34 #[.string nm, .slice A n cap, .slice B m capb, .int .i64 df] from (Bk.new _ _ _).alloc _)
  have HBP := Lib.hid (show Bk ((w.alloc (.cells #[.string nm, .slice A n cap, .slice B m capb, .int .i64 df] 34)).alloc (.cells #[.int .i64 p.id, .int .i64 p.so, .int .i64 p.de, .int .i64 p.po, .int .i64 p.ma, .int .i64 p.si] 36)) (w.heap.size + 1) 36 #[.int .i64 p.id, .int .i64 p.so, .int .i64 p.de, .int .i64 p.po, .int .i64 p.ma, .int .i64 p.si] from Bk.new_ (by simp))
  have HBW := Lib.hid (show Below w.heap.size w ((w.alloc (.cells #[.string nm, .slice A n cap, .slice B m capb, .int .i64 df] 34)).alloc (.cells #[.int .i64 p.id, .int .i64 p.so, .int .i64 p.de, .int .i64 p.po, .int .i64 p.ma, .int .i64 p.si] 36)) from ba (ba (b0 w) _) _)
  rcases h1 : cg (nmB nm) L F df with _ | _
  · have hR := Lib.hid (show ffR nm L F df p = (0, false) from by unfold ffR; rw [if_neg]; rw [h1]; simp)
    rw [h1] at HG
    go_enter Tryd.func23, Tryd.ntmps23
    go_wp2_with fail
    refine (HG.out _ HBW.out).mono ?_
    rintro e w1 ⟨rfl, hb1⟩
    go_wp2_with fail
    go_ret2
    exact TupE_of hR.out rfl (bt HBW.out hb1)
  rw [h1] at HG
  have HD := Lib.hid (cg_d h1)
  go_enter Tryd.func23, Tryd.ntmps23
  go_wp2_with fail
  refine (HG.out _ HBW.out).mono ?_
  rintro e w1 ⟨rfl, hb1⟩
  have HX1 := Lib.hid (HBX.out.old hb1)
  have HP1 := Lib.hid (HBP.out.old hb1)
  have HW1 := Lib.hid (bt HBW.out hb1)
  have b : Bk w1 (w.heap.size) 34 #[.string nm, .slice A n cap, .slice B m capb, .int .i64 df] := HX1.out
  have zb : w.heap.size < w1.heap.size := b.lt
  have b_0 : w1.cell? ⟨w.heap.size, 0, none⟩ = some (.string nm) := b.cell 0
  have b_1 : w1.cell? ⟨w.heap.size, 1, none⟩ = some (.slice A n cap) := b.cell 1
  have b_2 : w1.cell? ⟨w.heap.size, 2, none⟩ = some (.slice B m capb) := b.cell 2
  have b_3 : w1.cell? ⟨w.heap.size, 3, none⟩ = some (.int .i64 df) := b.cell 3
  have bf := b.free
  have Hb := Lib.hid b
  clear b
  have y : Bk w1 (w.heap.size + 1) 36 #[.int .i64 p.id, .int .i64 p.so, .int .i64 p.de, .int .i64 p.po, .int .i64 p.ma, .int .i64 p.si] := HP1.out
  have zy : w.heap.size + 1 < w1.heap.size := y.lt
  have y_0 : w1.cell? ⟨w.heap.size + 1, 0, none⟩ = some (.int .i64 p.id) := y.cell 0
  have y_1 : w1.cell? ⟨w.heap.size + 1, 1, none⟩ = some (.int .i64 p.so) := y.cell 1
  have y_2 : w1.cell? ⟨w.heap.size + 1, 2, none⟩ = some (.int .i64 p.de) := y.cell 2
  have y_3 : w1.cell? ⟨w.heap.size + 1, 3, none⟩ = some (.int .i64 p.po) := y.cell 3
  have y_4 : w1.cell? ⟨w.heap.size + 1, 4, none⟩ = some (.int .i64 p.ma) := y.cell 4
  have y_5 : w1.cell? ⟨w.heap.size + 1, 5, none⟩ = some (.int .i64 p.si) := y.cell 5
  have yf := y.free
  have Hy := Lib.hid y
  clear y
  clear hb1 HBX HBP
  go_wp2_with fail
  rcases hp : p.ok with _ | _
  · have hR := Lib.hid (show ffR nm L F df p = (0, false) from by unfold ffR; rw [if_neg]; rw [hp]; simp)
    refine (isPacket_b hp _).mono ?_
    rintro e w2 ⟨rfl, hb2⟩
    go_wp2_with fail
    go_ret2
    exact TupE_of hR.out rfl (bt HW1.out hb2)
  refine (isPacket_b hp _).mono ?_
  rintro e w2 ⟨rfl, hb2⟩
  have HX2 := Lib.hid (HX1.out.old hb2)
  have HP2 := Lib.hid (HP1.out.old hb2)
  have HW2 := Lib.hid (bt HW1.out hb2)
  clear hb2 HX1 HP1 b_0 b_1 b_2 b_3 bf zb Hb y_0 y_1 y_2 y_3 y_4 y_5 yf zy Hy
  have b : Bk w2 (w.heap.size) 34 #[.string nm, .slice A n cap, .slice B m capb, .int .i64 df] := HX2.out
  have zb : w.heap.size < w2.heap.size := b.lt
  have b_0 : w2.cell? ⟨w.heap.size, 0, none⟩ = some (.string nm) := b.cell 0
  have b_1 : w2.cell? ⟨w.heap.size, 1, none⟩ = some (.slice A n cap) := b.cell 1
  have b_2 : w2.cell? ⟨w.heap.size, 2, none⟩ = some (.slice B m capb) := b.cell 2
  have b_3 : w2.cell? ⟨w.heap.size, 3, none⟩ = some (.int .i64 df) := b.cell 3
  have bf := b.free
  have Hb := Lib.hid b
  clear b
  have y : Bk w2 (w.heap.size + 1) 36 #[.int .i64 p.id, .int .i64 p.so, .int .i64 p.de, .int .i64 p.po, .int .i64 p.ma, .int .i64 p.si] := HP2.out
  have zy : w.heap.size + 1 < w2.heap.size := y.lt
  have y_0 : w2.cell? ⟨w.heap.size + 1, 0, none⟩ = some (.int .i64 p.id) := y.cell 0
  have y_1 : w2.cell? ⟨w.heap.size + 1, 1, none⟩ = some (.int .i64 p.so) := y.cell 1
  have y_2 : w2.cell? ⟨w.heap.size + 1, 2, none⟩ = some (.int .i64 p.de) := y.cell 2
  have y_3 : w2.cell? ⟨w.heap.size + 1, 3, none⟩ = some (.int .i64 p.po) := y.cell 3
  have y_4 : w2.cell? ⟨w.heap.size + 1, 4, none⟩ = some (.int .i64 p.ma) := y.cell 4
  have y_5 : w2.cell? ⟨w.heap.size + 1, 5, none⟩ = some (.int .i64 p.si) := y.cell 5
  have yf := y.free
  have Hy := Lib.hid y
  clear y
  have HF := Lib.hid (fun W (hb : Below w.heap.size w W) => firstFilter_any p B m capb F W HLF.out (HRF.out.below hb) (by have := HD.out.m16; have := HLF.out; omega) HD.out.fo)
  have hRy := Lib.hid (fun (h : 0 ≤ ffst F p) => show ffR nm L F df p = (ffst F p, true) from by unfold ffR; rw [if_pos ⟨h1, hp, h⟩])
  have hRn := Lib.hid (fun (h : ¬ 0 ≤ ffst F p) => show ffR nm L F df p = (0, false) from by unfold ffR; rw [if_neg]; exact fun h' => h h'.2.2)
  generalize ffst F p = q at *
  go_wp2_with fail
  refine (HF.out _ HW2.out).mono ?_
  rintro e w3 ⟨rfl, hb3⟩
  have HX3 := Lib.hid (HX2.out.old hb3)
  have HP3 := Lib.hid (HP2.out.old hb3)
  have HW3 := Lib.hid (bt HW2.out hb3)
  clear hb3 HX2 HP2 b_0 b_1 b_2 b_3 bf zb Hb y_0 y_1 y_2 y_3 y_4 y_5 yf zy Hy
  have b : Bk w3 (w.heap.size) 34 #[.string nm, .slice A n cap, .slice B m capb, .int .i64 df] := HX3.out
  have zb : w.heap.size < w3.heap.size := b.lt
  have b_0 : w3.cell? ⟨w.heap.size, 0, none⟩ = some (.string nm) := b.cell 0
  have b_1 : w3.cell? ⟨w.heap.size, 1, none⟩ = some (.slice A n cap) := b.cell 1
  have b_2 : w3.cell? ⟨w.heap.size, 2, none⟩ = some (.slice B m capb) := b.cell 2
  have b_3 : w3.cell? ⟨w.heap.size, 3, none⟩ = some (.int .i64 df) := b.cell 3
  have bf := b.free
  have Hb := Lib.hid b
  clear b
  have y : Bk w3 (w.heap.size + 1) 36 #[.int .i64 p.id, .int .i64 p.so, .int .i64 p.de, .int .i64 p.po, .int .i64 p.ma, .int .i64 p.si] := HP3.out
  have zy : w.heap.size + 1 < w3.heap.size := y.lt
  have y_0 : w3.cell? ⟨w.heap.size + 1, 0, none⟩ = some (.int .i64 p.id) := y.cell 0
  have y_1 : w3.cell? ⟨w.heap.size + 1, 1, none⟩ = some (.int .i64 p.so) := y.cell 1
  have y_2 : w3.cell? ⟨w.heap.size + 1, 2, none⟩ = some (.int .i64 p.de) := y.cell 2
  have y_3 : w3.cell? ⟨w.heap.size + 1, 3, none⟩ = some (.int .i64 p.po) := y.cell 3
  have y_4 : w3.cell? ⟨w.heap.size + 1, 4, none⟩ = some (.int .i64 p.ma) := y.cell 4
  have y_5 : w3.cell? ⟨w.heap.size + 1, 5, none⟩ = some (.int .i64 p.si) := y.cell 5
  have yf := y.free
  have Hy := Lib.hid y
  clear y
  by_cases hq : q < 0
  · have hR := Lib.hid (hRn.out (by omega))
    go_wp2_with fail
    go_ret2
    exact TupE_of hR.out rfl HW3.out
  · have hR := Lib.hid (hRy.out (by omega))
    go_wp2_with fail
    go_ret2
    exact TupE_of hR.out rfl HW3.out

set_option maxHeartbeats 2000000 in
theorem fiLeaf_any (p : Pk) (nm : ByteArray) (A : Option Addr) (n cap : Nat) (B : Option Addr) (m capb : Nat) (df : Int) (L : List Cl) (F : List Fi) (w : World) (hl : L.length = n) (hr : IRow w A (flc L)) (hf : F.length = m) (hrf : IRow w B (flf F)) (hd : Cgd L F df) : Calls Tryd.prog 28 #[.agg #[.string nm, .slice A n cap, .slice B m capb, .int .i64 df], .agg #[.int .i64 (p.id), .int .i64 (p.so), .int .i64 (p.de), .int .i64 (p.po), .int .i64 (p.ma), .int .i64 (p.si)]] w fun e w' => e = .returned (.int .i64 (lfv L F df p)) ∧ Below w.heap.size w w' := by
  have hqb := ffst_b F p
  rw [hf] at hqb
  have HL := Lib.hid hl
  have HR := Lib.hid hr
  have HLF := Lib.hid hf
  have HRF := Lib.hid hrf
  have HD := Lib.hid hd
  have HV := Lib.hid (show lfv L F df p = if 0 ≤ ffst F p then fnd L (fat F (ffst F p).toNat).ta else if df = 0 then -1 else fnd L df from rfl)
  clear hl hr hf hrf hd
  have HBX := Lib.hid (show Bk ((w.alloc (.cells #[.string nm, .slice A n cap, .slice B m capb, .int .i64 df] 34)).alloc (.cells #[.int .i64 p.id, .int .i64 p.so, .int .i64 p.de, .int .i64 p.po, .int .i64 p.ma, .int .i64 p.si] 36)) w.heap.size 34 #[.string nm, .slice A n cap, .slice B m capb, .int .i64 df] from (Bk.new _ _ _).alloc _)
  have HBW := Lib.hid (show Below w.heap.size w ((w.alloc (.cells #[.string nm, .slice A n cap, .slice B m capb, .int .i64 df] 34)).alloc (.cells #[.int .i64 p.id, .int .i64 p.so, .int .i64 p.de, .int .i64 p.po, .int .i64 p.ma, .int .i64 p.si] 36)) from ba (ba (b0 w) _) _)
  have HF := Lib.hid (fun W (hb : Below w.heap.size w W) => fiFirst_any p B m capb F W HLF.out (HRF.out.below hb) (by have := HD.out.m16; have := HLF.out; omega) HD.out.fo)
  generalize ffst F p = q at *
  by_cases hq : 0 ≤ q
  · obtain ⟨k, rfl⟩ : ∃ k : Nat, q = (k : Int) := ⟨q.toNat, by omega⟩
    have hkF : k < F.length := by have := HLF.out; omega
    have HV2 := Lib.hid (show lfv L F df p = fnd L (fat F k).ta from by rw [HV.out, if_pos hq, Int.toNat_natCast])
    have k0 : (0 : Int) ≤ (k : Int) := by omega
    have k1 : (k : Int) < (m : Int) := by omega
    go_enter Tryd.func28, Tryd.ntmps28
    go_wp2_with fail
    refine (HF.out _ HBW.out).mono ?_
    rintro e w1 ⟨rfl, hb1⟩
    have HX1 := Lib.hid (HBX.out.old hb1)
    have HW1 := Lib.hid (bt HBW.out hb1)
    clear hb1 HBX
    obtain ⟨g, off, rfl, hg, hcs⟩ := frow (HRF.out.below HW1.out) hkF
    obtain ⟨c0, c1, c2, c3, c4⟩ := hcs k hkF
    go_wp2_with fail
    have pb0 := fun (u : Gr w1) => gr_cell (HX1.out.cell 0) u
    have pb1 := fun (u : Gr w1) => gr_cell (HX1.out.cell 1) u
    have pb2 := fun (u : Gr w1) => gr_cell (HX1.out.cell 2) u
    have pb3 := fun (u : Gr w1) => gr_cell (HX1.out.cell 3) u
    have pp := fun (u : Gr w1) => gr_cell c4 u
    have HQ := Lib.hid (fun (u : Gr w1) => cfFind_any (fat F k).ta nm A n cap (some ⟨g, off, none⟩) m capb df L u.v HL.out (HR.out.below (bt HW1.out u.h)) (by have := HD.out.n24; have := HL.out; omega))
    rw [← HV2.out] at HQ
    clear hcs c0 c1 c2 c3 c4
    generalize (fat F k).ta = x at *
    refine wp_region_gr (by kernel_rfl) (by kernel_rfl) ?_
    repeat (go_big_quiet_step ((go_at_call 48; (with_reducible exact gr_of (HQ.out _)))))
    refine wpQuiet_nil ?_
    intro _ hw'
    obtain ⟨pq, hw''⟩ := hw'
    subst hw''
    go_wp2_with fail
    go_ret
    exact ⟨rfl, bt HW1.out pq.h⟩
  · by_cases h0 : df = 0
    · have HV2 := Lib.hid (show lfv L F df p = -1 from by rw [HV.out, if_neg hq, if_pos h0])
      have h0b : (df == 0) = true := by rw [beq_iff_eq]; exact h0
      clear h0
      generalize lfv L F df p = r at *
      go_enter Tryd.func28, Tryd.ntmps28
      go_wp2_with fail
      refine (HF.out _ HBW.out).mono ?_
      rintro e w1 ⟨rfl, hb1⟩
      have HX1 := Lib.hid (HBX.out.old hb1)
      have HW1 := Lib.hid (bt HBW.out hb1)
      have b : Bk w1 (w.heap.size) 34 #[.string nm, .slice A n cap, .slice B m capb, .int .i64 df] := HX1.out
      have zb : w.heap.size < w1.heap.size := b.lt
      have b_0 : w1.cell? ⟨w.heap.size, 0, none⟩ = some (.string nm) := b.cell 0
      have b_1 : w1.cell? ⟨w.heap.size, 1, none⟩ = some (.slice A n cap) := b.cell 1
      have b_2 : w1.cell? ⟨w.heap.size, 2, none⟩ = some (.slice B m capb) := b.cell 2
      have b_3 : w1.cell? ⟨w.heap.size, 3, none⟩ = some (.int .i64 df) := b.cell 3
      have bf := b.free
      have Hb := Lib.hid b
      clear b
      clear hb1 HBX
      go_wp2_with fail
      go_ret
      exact ⟨by rw [HV2.out]; rfl, HW1.out⟩
    · have HV2 := Lib.hid (show lfv L F df p = fnd L df from by rw [HV.out, if_neg hq, if_neg h0])
      have HQ := Lib.hid (fun W (hb : Below w.heap.size w W) => cfFind_any df nm A n cap B m capb df L W HL.out (HR.out.below hb) (by have := HD.out.n24; have := HL.out; omega))
      rw [← HV2.out] at HQ
      generalize lfv L F df p = r at *
      go_enter Tryd.func28, Tryd.ntmps28
      go_wp2_with fail
      refine (HF.out _ HBW.out).mono ?_
      rintro e w1 ⟨rfl, hb1⟩
      have HX1 := Lib.hid (HBX.out.old hb1)
      have HW1 := Lib.hid (bt HBW.out hb1)
      have b : Bk w1 (w.heap.size) 34 #[.string nm, .slice A n cap, .slice B m capb, .int .i64 df] := HX1.out
      have zb : w.heap.size < w1.heap.size := b.lt
      have b_0 : w1.cell? ⟨w.heap.size, 0, none⟩ = some (.string nm) := b.cell 0
      have b_1 : w1.cell? ⟨w.heap.size, 1, none⟩ = some (.slice A n cap) := b.cell 1
      have b_2 : w1.cell? ⟨w.heap.size, 2, none⟩ = some (.slice B m capb) := b.cell 2
      have b_3 : w1.cell? ⟨w.heap.size, 3, none⟩ = some (.int .i64 df) := b.cell 3
      have bf := b.free
      have Hb := Lib.hid b
      clear b
      clear hb1 HBX
      go_wp2_with fail
      refine (HQ.out _ HW1.out).mono ?_
      rintro e w2 ⟨rfl, hb2⟩
      go_wp2_with fail
      go_ret
      exact ⟨rfl, bt HW1.out hb2⟩
set_option maxHeartbeats 2000000 in
theorem specLeafFor_any (p : Pk) (nm : ByteArray) (A : Option Addr) (n cap : Nat) (B : Option Addr) (m capb : Nat) (df : Int) (L : List Cl) (F : List Fi) (w : World) (hl : L.length = n) (hr : IRow w A (flc L)) (hf : F.length = m) (hrf : IRow w B (flf F)) (hs : nm.size ≤ 1048576) (hm : m ≤ 1048576) : Calls Tryd.prog 7 #[.agg #[.string nm, .slice A n cap, .slice B m capb, .int .i64 df], .agg #[.int .i64 (p.id), .int .i64 (p.so), .int .i64 (p.de), .int .i64 (p.po), .int .i64 (p.ma), .int .i64 (p.si)]] w (TupE w (lfR nm L F df p)) := by
  have HG := Lib.hid (fun W (hb : Below w.heap.size w W) => cfGood_any nm A n cap B m capb df L F W hl (hr.below hb) hf (hrf.below hb) hs hm)
  have HL := Lib.hid hl
  have HR := Lib.hid hr
  have HLF := Lib.hid hf
  have HRF := Lib.hid hrf
  clear hl hr hf hrf
  have HBX := Lib.hid (show Bk ((w.alloc (.cells #[.string nm, .slice A n cap, .slice B m capb, .int .i64 df] 34)).alloc (.cells #[.int .i64 p.id, .int .i64 p.so, .int .i64 p.de, .int .i64 p.po, .int .i64 p.ma, .int .i64 p.si] 36)) w.heap.size 34 #[.string nm, .slice A n cap, .slice B m capb, .int .i64 df] from (Bk.new _ _ _).alloc _)
  have HBP := Lib.hid (show Bk ((w.alloc (.cells #[.string nm, .slice A n cap, .slice B m capb, .int .i64 df] 34)).alloc (.cells #[.int .i64 p.id, .int .i64 p.so, .int .i64 p.de, .int .i64 p.po, .int .i64 p.ma, .int .i64 p.si] 36)) (w.heap.size + 1) 36 #[.int .i64 p.id, .int .i64 p.so, .int .i64 p.de, .int .i64 p.po, .int .i64 p.ma, .int .i64 p.si] from Bk.new_ (by simp))
  have HBW := Lib.hid (show Below w.heap.size w ((w.alloc (.cells #[.string nm, .slice A n cap, .slice B m capb, .int .i64 df] 34)).alloc (.cells #[.int .i64 p.id, .int .i64 p.so, .int .i64 p.de, .int .i64 p.po, .int .i64 p.ma, .int .i64 p.si] 36)) from ba (ba (b0 w) _) _)
  rcases h1 : cg (nmB nm) L F df with _ | _
  · have hR := Lib.hid (show lfR nm L F df p = (0, false) from by unfold lfR; rw [if_neg]; rw [h1]; simp)
    rw [h1] at HG
    go_enter Tryd.func7, Tryd.ntmps7
    go_wp2_with fail
    refine (HG.out _ HBW.out).mono ?_
    rintro e w1 ⟨rfl, hb1⟩
    go_wp2_with fail
    go_ret2
    exact TupE_of hR.out rfl (bt HBW.out hb1)
  rw [h1] at HG
  have HD := Lib.hid (cg_d h1)
  go_enter Tryd.func7, Tryd.ntmps7
  go_wp2_with fail
  refine (HG.out _ HBW.out).mono ?_
  rintro e w1 ⟨rfl, hb1⟩
  have HX1 := Lib.hid (HBX.out.old hb1)
  have HP1 := Lib.hid (HBP.out.old hb1)
  have HW1 := Lib.hid (bt HBW.out hb1)
  have b : Bk w1 (w.heap.size) 34 #[.string nm, .slice A n cap, .slice B m capb, .int .i64 df] := HX1.out
  have zb : w.heap.size < w1.heap.size := b.lt
  have b_0 : w1.cell? ⟨w.heap.size, 0, none⟩ = some (.string nm) := b.cell 0
  have b_1 : w1.cell? ⟨w.heap.size, 1, none⟩ = some (.slice A n cap) := b.cell 1
  have b_2 : w1.cell? ⟨w.heap.size, 2, none⟩ = some (.slice B m capb) := b.cell 2
  have b_3 : w1.cell? ⟨w.heap.size, 3, none⟩ = some (.int .i64 df) := b.cell 3
  have bf := b.free
  have Hb := Lib.hid b
  clear b
  have y : Bk w1 (w.heap.size + 1) 36 #[.int .i64 p.id, .int .i64 p.so, .int .i64 p.de, .int .i64 p.po, .int .i64 p.ma, .int .i64 p.si] := HP1.out
  have zy : w.heap.size + 1 < w1.heap.size := y.lt
  have y_0 : w1.cell? ⟨w.heap.size + 1, 0, none⟩ = some (.int .i64 p.id) := y.cell 0
  have y_1 : w1.cell? ⟨w.heap.size + 1, 1, none⟩ = some (.int .i64 p.so) := y.cell 1
  have y_2 : w1.cell? ⟨w.heap.size + 1, 2, none⟩ = some (.int .i64 p.de) := y.cell 2
  have y_3 : w1.cell? ⟨w.heap.size + 1, 3, none⟩ = some (.int .i64 p.po) := y.cell 3
  have y_4 : w1.cell? ⟨w.heap.size + 1, 4, none⟩ = some (.int .i64 p.ma) := y.cell 4
  have y_5 : w1.cell? ⟨w.heap.size + 1, 5, none⟩ = some (.int .i64 p.si) := y.cell 5
  have yf := y.free
  have Hy := Lib.hid y
  clear y
  clear hb1 HBX HBP
  go_wp2_with fail
  rcases hp : p.ok with _ | _
  · have hR := Lib.hid (show lfR nm L F df p = (0, false) from by unfold lfR; rw [if_neg]; rw [hp]; simp)
    refine (pkGood_b hp _).mono ?_
    rintro e w2 ⟨rfl, hb2⟩
    go_wp2_with fail
    go_ret2
    exact TupE_of hR.out rfl (bt HW1.out hb2)
  refine (pkGood_b hp _).mono ?_
  rintro e w2 ⟨rfl, hb2⟩
  have HX2 := Lib.hid (HX1.out.old hb2)
  have HP2 := Lib.hid (HP1.out.old hb2)
  have HW2 := Lib.hid (bt HW1.out hb2)
  clear hb2 HX1 HP1 b_0 b_1 b_2 b_3 bf zb Hb y_0 y_1 y_2 y_3 y_4 y_5 yf zy Hy
  have b : Bk w2 (w.heap.size) 34 #[.string nm, .slice A n cap, .slice B m capb, .int .i64 df] := HX2.out
  have zb : w.heap.size < w2.heap.size := b.lt
  have b_0 : w2.cell? ⟨w.heap.size, 0, none⟩ = some (.string nm) := b.cell 0
  have b_1 : w2.cell? ⟨w.heap.size, 1, none⟩ = some (.slice A n cap) := b.cell 1
  have b_2 : w2.cell? ⟨w.heap.size, 2, none⟩ = some (.slice B m capb) := b.cell 2
  have b_3 : w2.cell? ⟨w.heap.size, 3, none⟩ = some (.int .i64 df) := b.cell 3
  have bf := b.free
  have Hb := Lib.hid b
  clear b
  have y : Bk w2 (w.heap.size + 1) 36 #[.int .i64 p.id, .int .i64 p.so, .int .i64 p.de, .int .i64 p.po, .int .i64 p.ma, .int .i64 p.si] := HP2.out
  have zy : w.heap.size + 1 < w2.heap.size := y.lt
  have y_0 : w2.cell? ⟨w.heap.size + 1, 0, none⟩ = some (.int .i64 p.id) := y.cell 0
  have y_1 : w2.cell? ⟨w.heap.size + 1, 1, none⟩ = some (.int .i64 p.so) := y.cell 1
  have y_2 : w2.cell? ⟨w.heap.size + 1, 2, none⟩ = some (.int .i64 p.de) := y.cell 2
  have y_3 : w2.cell? ⟨w.heap.size + 1, 3, none⟩ = some (.int .i64 p.po) := y.cell 3
  have y_4 : w2.cell? ⟨w.heap.size + 1, 4, none⟩ = some (.int .i64 p.ma) := y.cell 4
  have y_5 : w2.cell? ⟨w.heap.size + 1, 5, none⟩ = some (.int .i64 p.si) := y.cell 5
  have yf := y.free
  have Hy := Lib.hid y
  clear y
  have HF := Lib.hid (fun W (hb : Below w.heap.size w W) => fiLeaf_any p nm A n cap B m capb df L F W HL.out (HR.out.below hb) HLF.out (HRF.out.below hb) HD.out)
  have hRy := Lib.hid (fun (h : 0 ≤ lfv L F df p) => show lfR nm L F df p = (lfv L F df p, true) from by unfold lfR; rw [if_pos ⟨h1, hp, h⟩])
  have hRn := Lib.hid (fun (h : ¬ 0 ≤ lfv L F df p) => show lfR nm L F df p = (0, false) from by unfold lfR; rw [if_neg]; exact fun h' => h h'.2.2)
  generalize lfv L F df p = q at *
  go_wp2_with fail
  refine (HF.out _ HW2.out).mono ?_
  rintro e w3 ⟨rfl, hb3⟩
  have HX3 := Lib.hid (HX2.out.old hb3)
  have HP3 := Lib.hid (HP2.out.old hb3)
  have HW3 := Lib.hid (bt HW2.out hb3)
  clear hb3 HX2 HP2 b_0 b_1 b_2 b_3 bf zb Hb y_0 y_1 y_2 y_3 y_4 y_5 yf zy Hy
  have b : Bk w3 (w.heap.size) 34 #[.string nm, .slice A n cap, .slice B m capb, .int .i64 df] := HX3.out
  have zb : w.heap.size < w3.heap.size := b.lt
  have b_0 : w3.cell? ⟨w.heap.size, 0, none⟩ = some (.string nm) := b.cell 0
  have b_1 : w3.cell? ⟨w.heap.size, 1, none⟩ = some (.slice A n cap) := b.cell 1
  have b_2 : w3.cell? ⟨w.heap.size, 2, none⟩ = some (.slice B m capb) := b.cell 2
  have b_3 : w3.cell? ⟨w.heap.size, 3, none⟩ = some (.int .i64 df) := b.cell 3
  have bf := b.free
  have Hb := Lib.hid b
  clear b
  have y : Bk w3 (w.heap.size + 1) 36 #[.int .i64 p.id, .int .i64 p.so, .int .i64 p.de, .int .i64 p.po, .int .i64 p.ma, .int .i64 p.si] := HP3.out
  have zy : w.heap.size + 1 < w3.heap.size := y.lt
  have y_0 : w3.cell? ⟨w.heap.size + 1, 0, none⟩ = some (.int .i64 p.id) := y.cell 0
  have y_1 : w3.cell? ⟨w.heap.size + 1, 1, none⟩ = some (.int .i64 p.so) := y.cell 1
  have y_2 : w3.cell? ⟨w.heap.size + 1, 2, none⟩ = some (.int .i64 p.de) := y.cell 2
  have y_3 : w3.cell? ⟨w.heap.size + 1, 3, none⟩ = some (.int .i64 p.po) := y.cell 3
  have y_4 : w3.cell? ⟨w.heap.size + 1, 4, none⟩ = some (.int .i64 p.ma) := y.cell 4
  have y_5 : w3.cell? ⟨w.heap.size + 1, 5, none⟩ = some (.int .i64 p.si) := y.cell 5
  have yf := y.free
  have Hy := Lib.hid y
  clear y
  by_cases hq : q < 0
  · have hR := Lib.hid (hRn.out (by omega))
    go_wp2_with fail
    go_ret2
    exact TupE_of hR.out rfl HW3.out
  · have hR := Lib.hid (hRy.out (by omega))
    go_wp2_with fail
    refine (HF.out _ HW3.out).mono ?_
    rintro e w4 ⟨rfl, hb4⟩
    go_wp2_with fail
    go_ret2
    exact TupE_of hR.out rfl (bt HW3.out hb4)

set_option maxHeartbeats 2000000 in
theorem implLeafFor_any (p : Pk) (nm : ByteArray) (A : Option Addr) (n cap : Nat) (B : Option Addr) (m capb : Nat) (df : Int) (L : List Cl) (F : List Fi) (w : World) (hl : L.length = n) (hr : IRow w A (flc L)) (hf : F.length = m) (hrf : IRow w B (flf F)) (hky : KeysOk w) : Calls Tryd.prog 10 #[.agg #[.string nm, .slice A n cap, .slice B m capb, .int .i64 df], .agg #[.int .i64 (p.id), .int .i64 (p.so), .int .i64 (p.de), .int .i64 (p.po), .int .i64 (p.ma), .int .i64 (p.si)]] w (TupE w (lfR nm L F df p)) := by
  have HG := Lib.hid (fun W (hb : Below w.heap.size w W) => isConfig_any nm A n cap B m capb df L F W hl (hr.below hb) hf (hrf.below hb) (hky.below hb))
  have HL := Lib.hid hl
  have HR := Lib.hid hr
  have HLF := Lib.hid hf
  have HRF := Lib.hid hrf
  clear hl hr hf hrf
  have HBX := Lib.hid (show Bk ((w.alloc (.cells #[.string nm, .slice A n cap, .slice B m capb, .int .i64 df] 34)).alloc (.cells #[.int .i64 p.id, .int .i64 p.so, .int .i64 p.de, .int .i64 p.po, .int .i64 p.ma, .int .i64 p.si] 36)) w.heap.size 34 #[.string nm, .slice A n cap, .slice B m capb, .int .i64 df] from (Bk.new _ _ _).alloc _)
  have HBP := Lib.hid (show Bk ((w.alloc (.cells #[.string nm, .slice A n cap, .slice B m capb, .int .i64 df] 34)).alloc (.cells #[.int .i64 p.id, .int .i64 p.so, .int .i64 p.de, .int .i64 p.po, .int .i64 p.ma, .int .i64 p.si] 36)) (w.heap.size + 1) 36 #[.int .i64 p.id, .int .i64 p.so, .int .i64 p.de, .int .i64 p.po, .int .i64 p.ma, .int .i64 p.si] from Bk.new_ (by simp))
  have HBW := Lib.hid (show Below w.heap.size w ((w.alloc (.cells #[.string nm, .slice A n cap, .slice B m capb, .int .i64 df] 34)).alloc (.cells #[.int .i64 p.id, .int .i64 p.so, .int .i64 p.de, .int .i64 p.po, .int .i64 p.ma, .int .i64 p.si] 36)) from ba (ba (b0 w) _) _)
  rcases h1 : cg (nmB nm) L F df with _ | _
  · have hR := Lib.hid (show lfR nm L F df p = (0, false) from by unfold lfR; rw [if_neg]; rw [h1]; simp)
    rw [h1] at HG
    go_enter Tryd.func10, Tryd.ntmps10
    go_wp2_with fail
    refine (HG.out _ HBW.out).mono ?_
    rintro e w1 ⟨rfl, hb1⟩
    go_wp2_with fail
    go_ret2
    exact TupE_of hR.out rfl (bt HBW.out hb1)
  rw [h1] at HG
  have HD := Lib.hid (cg_d h1)
  go_enter Tryd.func10, Tryd.ntmps10
  go_wp2_with fail
  refine (HG.out _ HBW.out).mono ?_
  rintro e w1 ⟨rfl, hb1⟩
  have HX1 := Lib.hid (HBX.out.old hb1)
  have HP1 := Lib.hid (HBP.out.old hb1)
  have HW1 := Lib.hid (bt HBW.out hb1)
  have b : Bk w1 (w.heap.size) 34 #[.string nm, .slice A n cap, .slice B m capb, .int .i64 df] := HX1.out
  have zb : w.heap.size < w1.heap.size := b.lt
  have b_0 : w1.cell? ⟨w.heap.size, 0, none⟩ = some (.string nm) := b.cell 0
  have b_1 : w1.cell? ⟨w.heap.size, 1, none⟩ = some (.slice A n cap) := b.cell 1
  have b_2 : w1.cell? ⟨w.heap.size, 2, none⟩ = some (.slice B m capb) := b.cell 2
  have b_3 : w1.cell? ⟨w.heap.size, 3, none⟩ = some (.int .i64 df) := b.cell 3
  have bf := b.free
  have Hb := Lib.hid b
  clear b
  have y : Bk w1 (w.heap.size + 1) 36 #[.int .i64 p.id, .int .i64 p.so, .int .i64 p.de, .int .i64 p.po, .int .i64 p.ma, .int .i64 p.si] := HP1.out
  have zy : w.heap.size + 1 < w1.heap.size := y.lt
  have y_0 : w1.cell? ⟨w.heap.size + 1, 0, none⟩ = some (.int .i64 p.id) := y.cell 0
  have y_1 : w1.cell? ⟨w.heap.size + 1, 1, none⟩ = some (.int .i64 p.so) := y.cell 1
  have y_2 : w1.cell? ⟨w.heap.size + 1, 2, none⟩ = some (.int .i64 p.de) := y.cell 2
  have y_3 : w1.cell? ⟨w.heap.size + 1, 3, none⟩ = some (.int .i64 p.po) := y.cell 3
  have y_4 : w1.cell? ⟨w.heap.size + 1, 4, none⟩ = some (.int .i64 p.ma) := y.cell 4
  have y_5 : w1.cell? ⟨w.heap.size + 1, 5, none⟩ = some (.int .i64 p.si) := y.cell 5
  have yf := y.free
  have Hy := Lib.hid y
  clear y
  clear hb1 HBX HBP
  go_wp2_with fail
  rcases hp : p.ok with _ | _
  · have hR := Lib.hid (show lfR nm L F df p = (0, false) from by unfold lfR; rw [if_neg]; rw [hp]; simp)
    refine (isPacket_b hp _).mono ?_
    rintro e w2 ⟨rfl, hb2⟩
    go_wp2_with fail
    go_ret2
    exact TupE_of hR.out rfl (bt HW1.out hb2)
  refine (isPacket_b hp _).mono ?_
  rintro e w2 ⟨rfl, hb2⟩
  have HX2 := Lib.hid (HX1.out.old hb2)
  have HP2 := Lib.hid (HP1.out.old hb2)
  have HW2 := Lib.hid (bt HW1.out hb2)
  clear hb2 HX1 HP1 b_0 b_1 b_2 b_3 bf zb Hb y_0 y_1 y_2 y_3 y_4 y_5 yf zy Hy
  have b : Bk w2 (w.heap.size) 34 #[.string nm, .slice A n cap, .slice B m capb, .int .i64 df] := HX2.out
  have zb : w.heap.size < w2.heap.size := b.lt
  have b_0 : w2.cell? ⟨w.heap.size, 0, none⟩ = some (.string nm) := b.cell 0
  have b_1 : w2.cell? ⟨w.heap.size, 1, none⟩ = some (.slice A n cap) := b.cell 1
  have b_2 : w2.cell? ⟨w.heap.size, 2, none⟩ = some (.slice B m capb) := b.cell 2
  have b_3 : w2.cell? ⟨w.heap.size, 3, none⟩ = some (.int .i64 df) := b.cell 3
  have bf := b.free
  have Hb := Lib.hid b
  clear b
  have y : Bk w2 (w.heap.size + 1) 36 #[.int .i64 p.id, .int .i64 p.so, .int .i64 p.de, .int .i64 p.po, .int .i64 p.ma, .int .i64 p.si] := HP2.out
  have zy : w.heap.size + 1 < w2.heap.size := y.lt
  have y_0 : w2.cell? ⟨w.heap.size + 1, 0, none⟩ = some (.int .i64 p.id) := y.cell 0
  have y_1 : w2.cell? ⟨w.heap.size + 1, 1, none⟩ = some (.int .i64 p.so) := y.cell 1
  have y_2 : w2.cell? ⟨w.heap.size + 1, 2, none⟩ = some (.int .i64 p.de) := y.cell 2
  have y_3 : w2.cell? ⟨w.heap.size + 1, 3, none⟩ = some (.int .i64 p.po) := y.cell 3
  have y_4 : w2.cell? ⟨w.heap.size + 1, 4, none⟩ = some (.int .i64 p.ma) := y.cell 4
  have y_5 : w2.cell? ⟨w.heap.size + 1, 5, none⟩ = some (.int .i64 p.si) := y.cell 5
  have yf := y.free
  have Hy := Lib.hid y
  clear y
  have hqb := ffst_b F p
  rw [HLF.out] at hqb
  have HF := Lib.hid (fun W (hb : Below w.heap.size w W) => firstFilter_any p B m capb F W HLF.out (HRF.out.below hb) (by have := HD.out.m16; have := HLF.out; omega) HD.out.fo)
  have HV := Lib.hid (show lfv L F df p = if 0 ≤ ffst F p then fnd L (fat F (ffst F p).toNat).ta else if df = 0 then -1 else fnd L df from rfl)
  have HY := Lib.hid (fun (h : 0 ≤ lfv L F df p) => show lfR nm L F df p = (lfv L F df p, true) from by unfold lfR; rw [if_pos ⟨h1, hp, h⟩])
  have HN := Lib.hid (fun (h : ¬ 0 ≤ lfv L F df p) => show lfR nm L F df p = (0, false) from by unfold lfR; rw [if_neg]; exact fun h' => h h'.2.2)
  have HQ := Lib.hid (fun id W (hb : Below w.heap.size w W) => indexOf_any id nm A n cap B m capb df L W HL.out (HR.out.below hb) (by have := HD.out.n24; have := HL.out; omega))
  generalize ffst F p = q at *
  go_wp2_with fail
  refine (HF.out _ HW2.out).mono ?_
  rintro e w3 ⟨rfl, hb3⟩
  have HX3 := Lib.hid (HX2.out.old hb3)
  have HW3 := Lib.hid (bt HW2.out hb3)
  clear hb3 HX2 HP2 b_0 b_1 b_2 b_3 bf zb Hb y_0 y_1 y_2 y_3 y_4 y_5 yf zy Hy
  by_cases hq : 0 ≤ q
  · obtain ⟨k, rfl⟩ : ∃ k : Nat, q = (k : Int) := ⟨q.toNat, by omega⟩
    have hkF : k < F.length := by have := HLF.out; omega
    have k0 : (0 : Int) ≤ (k : Int) := by omega
    have k1 : (k : Int) < (m : Int) := by omega
    have HV2 := Lib.hid (show lfv L F df p = fnd L (fat F k).ta from by rw [HV.out, if_pos hq, Int.toNat_natCast])
    have HR2 := Lib.hid (show lfR nm L F df p = (fnd L (fat F k).ta, true) from by rw [HY.out (by rw [HV2.out]; exact HD.out.ft k hkF), HV2.out])
    have hnz := HD.out.nz _ (HD.out.ft k hkF)
    have HQ2 := Lib.hid (HQ.out (fat F k).ta)
    obtain ⟨g, off, rfl, hg, hcs⟩ := frow (HRF.out.below HW3.out) hkF
    obtain ⟨c0, c1, c2, c3, c4⟩ := hcs k hkF
    have b : Bk w3 (w.heap.size) 34 #[.string nm, .slice A n cap, .slice (some ⟨g, off, none⟩) m capb, .int .i64 df] := HX3.out
    have zb : w.heap.size < w3.heap.size := b.lt
    have b_0 : w3.cell? ⟨w.heap.size, 0, none⟩ = some (.string nm) := b.cell 0
    have b_1 : w3.cell? ⟨w.heap.size, 1, none⟩ = some (.slice A n cap) := b.cell 1
    have b_2 : w3.cell? ⟨w.heap.size, 2, none⟩ = some (.slice (some ⟨g, off, none⟩) m capb) := b.cell 2
    have b_3 : w3.cell? ⟨w.heap.size, 3, none⟩ = some (.int .i64 df) := b.cell 3
    have bf := b.free
    have Hb := Lib.hid b
    clear b
    clear hcs c0 c1 c2 c3 HY HN HV HV2
    generalize fnd L (fat F k).ta = r at *
    generalize (fat F k).ta = x at *
    have hxb : (x == 0) = false := by rw [beq_eq_false_iff_ne]; exact hnz
    go_wp2_with fail
    refine (HQ2.out _ HW3.out).mono ?_
    rintro e w4 ⟨rfl, hb4⟩
    go_wp2_with fail
    go_ret2
    exact TupE_of HR2.out rfl (bt HW3.out hb4)
  · have HZ := Lib.hid hq
    have b : Bk w3 (w.heap.size) 34 #[.string nm, .slice A n cap, .slice B m capb, .int .i64 df] := HX3.out
    have zb : w.heap.size < w3.heap.size := b.lt
    have b_0 : w3.cell? ⟨w.heap.size, 0, none⟩ = some (.string nm) := b.cell 0
    have b_1 : w3.cell? ⟨w.heap.size, 1, none⟩ = some (.slice A n cap) := b.cell 1
    have b_2 : w3.cell? ⟨w.heap.size, 2, none⟩ = some (.slice B m capb) := b.cell 2
    have b_3 : w3.cell? ⟨w.heap.size, 3, none⟩ = some (.int .i64 df) := b.cell 3
    have bf := b.free
    have Hb := Lib.hid b
    clear b
    by_cases h0 : df = 0
    · have HR2 := Lib.hid (HN.out (by rw [HV.out, if_neg hq, if_pos h0]; omega))
      have h0b : (df == 0) = true := by rw [beq_iff_eq]; exact h0
      clear h0
      go_wp2_with fail
      go_ret2
      exact TupE_of HR2.out rfl HW3.out
    · have HV2 := Lib.hid (show lfv L F df p = fnd L df from by rw [HV.out, if_neg hq, if_neg h0])
      have HR2 := Lib.hid (show lfR nm L F df p = (fnd L df, true) from by rw [HY.out (by rw [HV2.out]; exact HD.out.fd.resolve_left h0), HV2.out])
      have HQ2 := Lib.hid (HQ.out df)
      clear HY HN HV HV2
      generalize fnd L df = r at *
      go_wp2_with fail
      refine (HQ2.out _ HW3.out).mono ?_
      rintro e w4 ⟨rfl, hb4⟩
      go_wp2_with fail
      go_ret2
      exact TupE_of HR2.out rfl (bt HW3.out hb4)

end Go.Proofs.YtjajddhedahpnaaDoor
