/- The statement FnExactTakenByCardSaid: for every configuration and list of packets the law FnExactTakenBy returns true, and its arguments read as before; the listed table of key words is tied to the program's text. (Printed by lawtb.py.) -/
import Derived.Test.YtjajddhedahpnaaDoorCfgO
import Derived.Test.YtjajddhedahpnaaDoorCfgQ
import Derived.Test.YtjajddhedahpnaaDoorChecked
import Derived.Test.YtjajddhedahpnaaDoorCards
import Derived.Test.YtjajddhedahpnaaDoorTie
import Derived.SevenTiedAt
import Derived.LaidMore
import Derived.Lay
import Derived.OpenVars
import Derived.ChangeVars
import Derived.Lib.LaidU8
namespace Go.Proofs.YtjajddhedahpnaaDoor.lawTakenBy
open Go.ChangeShapes Go.WideShapes Go.ChangeAt Go.RowKit
set_option linter.unusedVariables false
set_option maxRecDepth 100000
def laidL : List (String × DataW Unit) := Rows.fnExactTakenByRow.laid
theorem tbR_len (nm : ByteArray) (L : List Cl) (F : List Fi) (df : Int) (Q : List Pk) : (tbR nm L F df Q).1.length ≤ F.length + 1 := by
  unfold tbR
  split
  · exact Nat.le_of_eq (cntTo_len F Q Q.length)
  · simp
set_option maxHeartbeats 8000000 in
theorem walk_ (nm : ByteArray) (A : Option Addr) (n cap : Nat) (B : Option Addr) (m capb : Nat) (df : Int) (Q : Option Addr) (N capq : Nat) (L : List Cl) (F : List Fi) (PL : List Pk) (w : World) (hs : nm.size ≤ maxLen) (hl : L.length = n) (hr : IRow w A (flc L)) (hf : F.length = m) (hrf : IRow w B (flf F)) (hp : PL.length = N) (hrp : IRow w Q (fl PL)) (hn : n ≤ 9223372036854775807) (hm : m ≤ 9223372036854775807) (hN : N ≤ 9223372036854775807) (hky : KeysOk w) :
    Calls Tryd.prog 4 #[.agg #[.string nm, .slice A n cap, .slice B m capb, .int .i64 df], .slice Q N capq] w fun e w' => e = .returned (.bool true) ∧ Below w.heap.size w w' := by
  have HSZ := Lib.hid (fun W => szConfig_any nm A n cap B m capb df W hs hn hm)
  have HBX := Lib.hid (show Bk (w.alloc (.cells #[.string nm, .slice A n cap, .slice B m capb, .int .i64 df] 25)) w.heap.size 25 #[.string nm, .slice A n cap, .slice B m capb, .int .i64 df] from Bk.new _ _ _)
  have HBW := Lib.hid (show Below w.heap.size w (w.alloc (.cells #[.string nm, .slice A n cap, .slice B m capb, .int .i64 df] 25)) from ba (b0 w) _)
  by_cases hbig : (nm.size : Int) + (n : Int) + (m : Int) ≤ 1048576
  rotate_left
  · have hz : szR nm.size n m = -1 := if_neg hbig
    rw [hz] at HSZ
    clear hl hr hf hrf hp hrp
    go_enter Tryd.func4, Tryd.ntmps4
    go_wp2_with fail
    refine (HSZ.out _).mono ?_
    rintro e w1 ⟨rfl, hb1⟩
    go_wp2_with fail
    go_ret
    exact ⟨rfl, bt HBW.out hb1⟩
  obtain ⟨z, hz⟩ : ∃ z, z = szR nm.size n m := ⟨_, rfl⟩
  rw [← hz] at HSZ
  have hzv : z = 1048576 - (nm.size : Int) - (n : Int) - (m : Int) := by rw [hz, szR, if_pos hbig]
  have z0 : ¬ z < 0 := by omega
  have HSP := Lib.hid (fun W => szPacket_any Q N capq z W hN (by omega) (by omega))
  by_cases hNz : (N : Int) ≤ z
  rotate_left
  · rw [if_neg hNz] at HSP
    clear hl hr hf hrf hp hrp hz hzv hbig
    go_enter Tryd.func4, Tryd.ntmps4
    go_wp2_with fail
    refine (HSZ.out _).mono ?_
    rintro e w1 ⟨rfl, hb1⟩
    go_wp2_with fail
    refine (HSP.out _).mono ?_
    rintro e w2 ⟨rfl, rfl⟩
    go_wp2_with fail
    go_ret
    exact ⟨rfl, bt HBW.out hb1⟩
  rw [if_pos hNz] at HSP
  have z1n : ¬ z - (N : Int) < 0 := by omega
  have HR := Lib.hid hr
  have HRF := Lib.hid hrf
  have HRP := Lib.hid hrp
  have HK := Lib.hid hky
  have HN := Lib.hid (show nm.size ≤ 1048576 ∧ n ≤ 1048576 ∧ m ≤ 1048576 ∧ N ≤ 1048576 from by omega)
  have HLC := Lib.hid (show (flc L).length = n * 8 from by rw [flc_len, hl])
  have HLF := Lib.hid (show (flf F).length = m * 5 from by rw [flf_len, hf])
  have HLP := Lib.hid (show (fl PL).length = N * 6 from by rw [fl_len, hp])
  have HL := Lib.hid hl
  have HF := Lib.hid hf
  have HPL := Lib.hid hp
  have HTC := Lib.hid (fun W (hb : Below w.heap.size w W) => toConfig_any nm A n cap B m capb df (flc L) (flf F) W HLC.out HLF.out (HR.out.below hb) (HRF.out.below hb) HN.out.2.1 HN.out.2.2.1)
  have HTP := Lib.hid (fun W (hb : Below w.heap.size w W) => toPacketS_any Q N capq (fl PL) W HLP.out (HRP.out.below hb) HN.out.2.2.2)
  have HSPEC := Lib.hid (fun A' c' B' d' Q' q' W hr' hrf' hrp' => specTakenBy_any nm A' n c' B' m d' df Q' N q' L F PL W HL.out hr' HF.out hrf' HPL.out hrp' HN.out.2.2.2 HN.out.1 HN.out.2.2.1)
  have HIMP := Lib.hid (fun A' c' B' d' Q' q' W hr' hrf' hrp' hk' => implTakenBy_any nm A' n c' B' m d' df Q' N q' L F PL W HL.out hr' HF.out hrf' HPL.out hrp' HN.out.2.2.2 hk')
  have HRL := Lib.hid (show (tbR nm L F df PL).1.length ≤ 1048577 from by have h := tbR_len nm L F df PL; have := HN.out.2.2.1; omega)
  unfold TbE at HSPEC HIMP
  generalize tbR nm L F df PL = rr at *
  obtain ⟨rl, rb⟩ := rr
  clear hl hr hf hrf hp hrp hbig hz hky hNz hzv
  go_enter Tryd.func4, Tryd.ntmps4
  go_wp2_with fail
  refine (HSZ.out _).mono ?_
  rintro e w1 ⟨rfl, hb1⟩
  have HX1 := Lib.hid (HBX.out.old hb1)
  have HW1 := Lib.hid (bt HBW.out hb1)
  have y1 : w.heap.size < w1.heap.size := HX1.out.lt
  clear hb1 HBX
  go_wp2_with fail
  refine (HSP.out _).mono ?_
  rintro e w1' ⟨rfl, rfl⟩
  have a : Bk w1 (w.heap.size) 25 #[.string nm, .slice A n cap, .slice B m capb, .int .i64 df] := HX1.out
  have za : w.heap.size < w1.heap.size := a.lt
  have a_0 : w1.cell? ⟨w.heap.size, 0, none⟩ = some (.string nm) := a.cell 0
  have a_1 : w1.cell? ⟨w.heap.size, 1, none⟩ = some (.slice A n cap) := a.cell 1
  have a_2 : w1.cell? ⟨w.heap.size, 2, none⟩ = some (.slice B m capb) := a.cell 2
  have a_3 : w1.cell? ⟨w.heap.size, 3, none⟩ = some (.int .i64 df) := a.cell 3
  have af := a.free
  have Ha := Lib.hid a
  clear a
  go_wp2_with fail
  refine (HTC.out _ HW1.out).mono ?_
  unfold TcE
  rintro e w2 ⟨A1, c1, B1, d1, hi1, rfl, ho1, ho2, hlo1, hlo2, hb2⟩
  have HRA2 := Lib.hid ho1.row
  have HRB2 := Lib.hid ho2.row
  have HX2 := Lib.hid (HX1.out.old hb2)
  have HW2 := Lib.hid (bt HW1.out hb2)
  have y2 := hb2.size
  clear ho1 ho2 hlo1 hlo2 hb2 HX1 a_0 a_1 a_2 a_3 af za Ha
  go_wp2_with fail
  refine (HTP.out _ HW2.out).mono ?_
  unfold NewPacketS
  rintro e w3 ⟨Q1, N1, q1, rfl, ho3, hb3⟩
  obtain rfl : N1 = N := by have h := ho3.len; rw [HLP.out] at h; omega
  have HRQ3 := Lib.hid ho3.row
  have HRA3 := Lib.hid (HRA2.out.below hb3)
  have HRB3 := Lib.hid (HRB2.out.below hb3)
  have HX3 := Lib.hid (HX2.out.old hb3)
  have HW3 := Lib.hid (bt HW2.out hb3)
  have y3 := hb3.size
  clear ho3 hb3 HRA2 HRB2 HX2
  go_wp2_with fail
  refine (HSPEC.out A1 c1 B1 d1 Q1 q1 _ HRA3.out HRB3.out HRQ3.out).mono ?_
  rintro e w4 ⟨A0, n0, c0, rfl, ho4, hb4⟩
  have HN0 := Lib.hid (show rl.length = n0 from by have h := ho4.len; simpa using h)
  have HNB := Lib.hid (show n0 ≤ 1048577 from by have h1 : rl.length ≤ 1048577 := HRL.out; have := HN0.out; omega)
  have HO0_4 := Lib.hid ho4
  have HX4 := Lib.hid (HX3.out.old hb4)
  have HW4 := Lib.hid (bt HW3.out hb4)
  have y4 := hb4.size
  clear ho4 hb4 HRA3 HRB3 HRQ3 HX3
  have a : Bk w4 (w.heap.size) 25 #[.string nm, .slice A n cap, .slice B m capb, .int .i64 df] := HX4.out
  have za : w.heap.size < w4.heap.size := a.lt
  have a_0 : w4.cell? ⟨w.heap.size, 0, none⟩ = some (.string nm) := a.cell 0
  have a_1 : w4.cell? ⟨w.heap.size, 1, none⟩ = some (.slice A n cap) := a.cell 1
  have a_2 : w4.cell? ⟨w.heap.size, 2, none⟩ = some (.slice B m capb) := a.cell 2
  have a_3 : w4.cell? ⟨w.heap.size, 3, none⟩ = some (.int .i64 df) := a.cell 3
  have af := a.free
  have Ha := Lib.hid a
  clear a
  go_wp2_with fail
  refine (HTC.out _ HW4.out).mono ?_
  unfold TcE
  rintro e w5 ⟨A4, c4, B4, d4, hi5, rfl, ho5, ho6, hlo5, hlo6, hb5⟩
  have HOA := Lib.hid ho5
  have HOB := Lib.hid ho6
  have HO0_5 := Lib.hid (HO0_4.out.old hb5)
  have HX5 := Lib.hid (HX4.out.old hb5)
  have HW5 := Lib.hid (bt HW4.out hb5)
  have y5 := hb5.size
  clear ho5 ho6 hb5 HX4 HO0_4 a_0 a_1 a_2 a_3 af za Ha
  go_wp2_with fail
  refine gen_world ?_
  intro W5 hW5
  have zW5 : W5.heap.size = w5.heap.size + 1 := by rw [hW5]; simp
  have HX5a := Lib.hid (show Bk W5 w.heap.size 25 #[.string nm, .slice A n cap, .slice B m capb, .int .i64 df] from by rw [hW5]; exact HX5.out.alloc _)
  have HY5 := Lib.hid (show Bk W5 w5.heap.size 34 #[.string nm, .slice A4 n c4, .slice B4 m d4, .int .i64 df] from by rw [hW5]; exact Bk.new _ _ _)
  have HOA5 := Lib.hid (show IOwn W5 w4.heap.size hi5 74 8 A4 n c4 (flc L) from by rw [hW5]; exact HOA.out.alloc _)
  have HOB5 := Lib.hid (show IOwn W5 hi5 w5.heap.size 62 5 B4 m d4 (flf F) from by rw [hW5]; exact HOB.out.alloc _)
  have HO05 := Lib.hid (show IOwn W5 w3.heap.size w4.heap.size 3 1 A0 n0 c0 rl from by rw [hW5]; exact HO0_5.out.alloc _)
  have HW5a := Lib.hid (show Below w.heap.size w W5 from by rw [hW5]; exact ba HW5.out _)
  clear hW5 HX5 HOA HOB HO0_5
  refine (HTP.out _ HW5a.out).mono ?_
  unfold NewPacketS
  rintro e w6 ⟨Q5, N5, q5, rfl, ho7, hb6⟩
  obtain rfl : N5 = N1 := by have h := ho7.len; rw [HLP.out] at h; omega
  have HOQ6 := Lib.hid ho7
  have y6 := hb6.size
  have HX_6 := Lib.hid (HX5a.out.old hb6)
  clear HX5a
  have HY_6 := Lib.hid (HY5.out.old hb6)
  clear HY5
  have HOA_6 := Lib.hid (HOA5.out.old hb6)
  clear HOA5
  have HOB_6 := Lib.hid (HOB5.out.old hb6)
  clear HOB5
  have HO0_6 := Lib.hid (HO05.out.old hb6)
  clear HO05
  have HW_6 := Lib.hid (bt HW5a.out hb6)
  clear ho7 hb6
  have y : Bk w6 (w5.heap.size) 34 #[.string nm, .slice A4 n c4, .slice B4 m d4, .int .i64 df] := HY_6.out
  have zy : w5.heap.size < w6.heap.size := y.lt
  have y_0 : w6.cell? ⟨w5.heap.size, 0, none⟩ = some (.string nm) := y.cell 0
  have y_1 : w6.cell? ⟨w5.heap.size, 1, none⟩ = some (.slice A4 n c4) := y.cell 1
  have y_2 : w6.cell? ⟨w5.heap.size, 2, none⟩ = some (.slice B4 m d4) := y.cell 2
  have y_3 : w6.cell? ⟨w5.heap.size, 3, none⟩ = some (.int .i64 df) := y.cell 3
  have yf := y.free
  have Hy := Lib.hid y
  clear y
  go_wp2_with fail
  refine (HIMP.out A4 c4 B4 d4 Q5 q5 _ HOA_6.out.row HOB_6.out.row HOQ6.out.row (HK.out.below HW_6.out)).mono ?_
  rintro e w7 ⟨A6, n6, c6, rfl, ho8, hb7⟩
  obtain rfl : n6 = n0 := by have h : rl.length = n6 * 1 := ho8.len; have := HN0.out; omega
  have HOG7 := Lib.hid ho8
  have y7 := hb7.size
  clear y_0 y_1 y_2 y_3 yf zy Hy
  have HX_7 := Lib.hid (HX_6.out.old hb7)
  clear HX_6
  have HY_7 := Lib.hid (HY_6.out.old hb7)
  clear HY_6
  have HOA_7 := Lib.hid (HOA_6.out.old hb7)
  clear HOA_6
  have HOB_7 := Lib.hid (HOB_6.out.old hb7)
  clear HOB_6
  have HO0_7 := Lib.hid (HO0_6.out.old hb7)
  clear HO0_6
  have HOQ_7 := Lib.hid (HOQ6.out.old hb7)
  clear HOQ6
  have HW_7 := Lib.hid (bt HW_6.out hb7)
  clear ho8 hb7
  go_wp2_with fail
  refine (eqIntS_any A6 A0 n6 c6 c0 rl _ HN0.out (by have := HNB.out; omega) HOG7.out.row HO0_7.out.row).mono ?_
  rintro e w8 ⟨rfl, hb8⟩
  have y8 := hb8.size
  have HX_8 := Lib.hid (HX_7.out.old hb8)
  clear HX_7
  have HY_8 := Lib.hid (HY_7.out.old hb8)
  clear HY_7
  have HOA_8 := Lib.hid (HOA_7.out.old hb8)
  clear HOA_7
  have HOB_8 := Lib.hid (HOB_7.out.old hb8)
  clear HOB_7
  have HO0_8 := Lib.hid (HO0_7.out.old hb8)
  clear HO0_7
  have HOQ_8 := Lib.hid (HOQ_7.out.old hb8)
  clear HOQ_7
  have HOG_8 := Lib.hid (HOG7.out.old hb8)
  clear HOG7
  have HW_8 := Lib.hid (bt HW_7.out hb8)
  clear hb8
  have HSX := Lib.hid (show ∀ V, Below w8.heap.size w8 V → (fun w' => w'.cell? ⟨w5.heap.size, 0, none⟩ = some (.string nm) ∧ w'.cell? ⟨w5.heap.size, 1, none⟩ = some (.slice A4 n c4) ∧ w'.cell? ⟨w5.heap.size, 2, none⟩ = some (.slice B4 m d4) ∧ w'.cell? ⟨w5.heap.size, 3, none⟩ = some (.int .i64 df) ∧ w'.cell? ⟨w.heap.size, 0, none⟩ = some (.string nm) ∧ w'.cell? ⟨w.heap.size, 1, none⟩ = some (.slice A n cap) ∧ w'.cell? ⟨w.heap.size, 2, none⟩ = some (.slice B m capb) ∧ w'.cell? ⟨w.heap.size, 3, none⟩ = some (.int .i64 df)) V from fun V hb => ⟨(HY_8.out.old hb).cell 0, (HY_8.out.old hb).cell 1, (HY_8.out.old hb).cell 2, (HY_8.out.old hb).cell 3, (HX_8.out.old hb).cell 0, (HX_8.out.old hb).cell 1, (HX_8.out.old hb).cell 2, (HX_8.out.old hb).cell 3⟩)
  go_wp2_with fail
  go_region_held3 (fun w' => w'.cell? ⟨w5.heap.size, 0, none⟩ = some (.string nm) ∧ w'.cell? ⟨w5.heap.size, 1, none⟩ = some (.slice A4 n c4) ∧ w'.cell? ⟨w5.heap.size, 2, none⟩ = some (.slice B4 m d4) ∧ w'.cell? ⟨w5.heap.size, 3, none⟩ = some (.int .i64 df) ∧ w'.cell? ⟨w.heap.size, 0, none⟩ = some (.string nm) ∧ w'.cell? ⟨w.heap.size, 1, none⟩ = some (.slice A n cap) ∧ w'.cell? ⟨w.heap.size, 2, none⟩ = some (.slice B m capb) ∧ w'.cell? ⟨w.heap.size, 3, none⟩ = some (.int .i64 df)) (exact HSX.out _ (by repeat (first | (with_reducible exact b0 _) | (with_reducible refine ba ?_ _) | (with_reducible refine bd ?_ _) | (with_reducible refine Below.drew ?_) | (with_reducible refine bsB ?_ (by first | exact Nat.le_refl _ | exact Nat.le_add_right _ _ | omega)) | (with_reducible refine bt ?_ (by assumption)))))
    (first
      | (go_at_call 8; refine (HTC.out _ (bt HW_8.out (by repeat (first | (with_reducible exact b0 _) | (with_reducible refine ba ?_ _) | (with_reducible refine bd ?_ _) | (with_reducible refine Below.drew ?_) | (with_reducible refine bsB ?_ (by first | exact Nat.le_refl _ | exact Nat.le_add_right _ _ | omega)) | (with_reducible refine bt ?_ (by assumption)))))).mono ?_; unfold TcE; rintro e v6 ⟨A7, c7, B7, d7, hi7, rfl, hv7, hv8, hlo7, hlo8, hbr6⟩)
      | (go_at_call 11; refine (eqConfig_any nm A4 n c4 B4 m d4 df A7 c7 B7 d7 (flc L) (flf F) _ HLC.out HLF.out (HOA_8.out.row.below (by repeat (first | (with_reducible exact b0 _) | (with_reducible refine ba ?_ _) | (with_reducible refine bd ?_ _) | (with_reducible refine Below.drew ?_) | (with_reducible refine bsB ?_ (by first | exact Nat.le_refl _ | exact Nat.le_add_right _ _ | omega)) | (with_reducible refine bt ?_ (by assumption))))) (HOB_8.out.row.below (by repeat (first | (with_reducible exact b0 _) | (with_reducible refine ba ?_ _) | (with_reducible refine bd ?_ _) | (with_reducible refine Below.drew ?_) | (with_reducible refine bsB ?_ (by first | exact Nat.le_refl _ | exact Nat.le_add_right _ _ | omega)) | (with_reducible refine bt ?_ (by assumption))))) hv7.row hv8.row HN.out.2.1 HN.out.2.2.1).mono ?_; rintro e w9 ⟨rfl, hbr7⟩))
  have hb9 : Below w8.heap.size w8 w9 := (by repeat (first | (with_reducible exact b0 _) | (with_reducible refine ba ?_ _) | (with_reducible refine bd ?_ _) | (with_reducible refine Below.drew ?_) | (with_reducible refine bsB ?_ (by first | exact Nat.le_refl _ | exact Nat.le_add_right _ _ | omega)) | (with_reducible refine bt ?_ (by assumption))))
  have y9 := hb9.size
  clear hv7 hv8 hlo7 hlo8 hbr6 hbr7 HSX
  have HX_9 := Lib.hid (HX_8.out.old hb9)
  clear HX_8
  have HY_9 := Lib.hid (HY_8.out.old hb9)
  clear HY_8
  have HOA_9 := Lib.hid (HOA_8.out.old hb9)
  clear HOA_8
  have HOB_9 := Lib.hid (HOB_8.out.old hb9)
  clear HOB_8
  have HO0_9 := Lib.hid (HO0_8.out.old hb9)
  clear HO0_8
  have HOQ_9 := Lib.hid (HOQ_8.out.old hb9)
  clear HOQ_8
  have HOG_9 := Lib.hid (HOG_8.out.old hb9)
  clear HOG_8
  have HW_9 := Lib.hid (bt HW_8.out hb9)
  clear hb9
  go_wp2_with fail
  refine (HTP.out _ HW_9.out).mono ?_
  unfold NewPacketS
  rintro e w10 ⟨Q7, N7, q7, rfl, ho9, hb10⟩
  obtain rfl : N7 = N5 := by have h := ho9.len; rw [HLP.out] at h; omega
  have HRQ10 := Lib.hid ho9.row
  have y10 := hb10.size
  have HX_10 := Lib.hid (HX_9.out.old hb10)
  clear HX_9
  have HY_10 := Lib.hid (HY_9.out.old hb10)
  clear HY_9
  have HOA_10 := Lib.hid (HOA_9.out.old hb10)
  clear HOA_9
  have HOB_10 := Lib.hid (HOB_9.out.old hb10)
  clear HOB_9
  have HO0_10 := Lib.hid (HO0_9.out.old hb10)
  clear HO0_9
  have HOQ_10 := Lib.hid (HOQ_9.out.old hb10)
  clear HOQ_9
  have HOG_10 := Lib.hid (HOG_9.out.old hb10)
  clear HOG_9
  have HW_10 := Lib.hid (bt HW_9.out hb10)
  clear ho9 hb10
  go_wp2_with fail
  refine (eqPacketS_any Q5 Q7 N7 q5 q7 (fl PL) _ HLP.out (by have := HN.out; omega) HOQ_10.out.row HRQ10.out).mono ?_
  rintro e w11 ⟨rfl, hb11⟩
  have y11 := hb11.size
  have HX_11 := Lib.hid (HX_10.out.old hb11)
  clear HX_10
  have HY_11 := Lib.hid (HY_10.out.old hb11)
  clear HY_10
  have HOA_11 := Lib.hid (HOA_10.out.old hb11)
  clear HOA_10
  have HOB_11 := Lib.hid (HOB_10.out.old hb11)
  clear HOB_10
  have HO0_11 := Lib.hid (HO0_10.out.old hb11)
  clear HO0_10
  have HOQ_11 := Lib.hid (HOQ_10.out.old hb11)
  clear HOQ_10
  have HOG_11 := Lib.hid (HOG_10.out.old hb11)
  clear HOG_10
  have HW_11 := Lib.hid (bt HW_10.out hb11)
  clear hb11 HRQ10
  obtain ⟨kv, hkv⟩ : ∃ kv : Int, kv = 1 + ((n * 8 : Nat) : Int) + ((m * 5 : Nat) : Int) := ⟨_, rfl⟩
  have kvb : 0 ≤ kv ∧ kv ≤ 1099511627776 := by have := HN.out; omega
  have HMC := Lib.hid (markConfig_any nm A4 n c4 B4 m d4 df (flc L) (flf F) 1 w4.heap.size hi5 hi5 w5.heap.size w11 HOA_11.out HOB_11.out hlo5 (Nat.le_refl _) hlo6 (by omega) HN.out.2.1 HN.out.2.2.1 (by omega) (by omega))
  rw [← hkv] at HMC
  clear hkv
  have y : Bk w11 (w5.heap.size) 34 #[.string nm, .slice A4 n c4, .slice B4 m d4, .int .i64 df] := HY_11.out
  have zy : w5.heap.size < w11.heap.size := y.lt
  have y_0 : w11.cell? ⟨w5.heap.size, 0, none⟩ = some (.string nm) := y.cell 0
  have y_1 : w11.cell? ⟨w5.heap.size, 1, none⟩ = some (.slice A4 n c4) := y.cell 1
  have y_2 : w11.cell? ⟨w5.heap.size, 2, none⟩ = some (.slice B4 m d4) := y.cell 2
  have y_3 : w11.cell? ⟨w5.heap.size, 3, none⟩ = some (.int .i64 df) := y.cell 3
  have yf := y.free
  have Hy := Lib.hid y
  clear y
  go_wp2_with fail
  refine HMC.out.mono ?_
  rintro e w12 ⟨rfl, hc12⟩
  have y12 := hc12.size
  clear y_0 y_1 y_2 y_3 yf zy Hy
  clear HMC
  have HX_12 := Lib.hid (HX_11.out.chg hc12 (.inl (by omega)))
  clear HX_11
  have HY_12 := Lib.hid (HY_11.out.chg hc12 (.inr (by omega)))
  clear HY_11
  have HO0_12 := Lib.hid (HO0_11.out.chg hc12 (.inl (by omega)))
  clear HO0_11
  have HOQ_12 := Lib.hid (HOQ_11.out.chg hc12 (.inr (by omega)))
  clear HOQ_11
  have HOG_12 := Lib.hid (HOG_11.out.chg hc12 (.inr (by omega)))
  clear HOG_11
  have HW_12 := Lib.hid (Chg.below HW_11.out hc12 (by omega))
  clear HOA_11
  clear HOB_11
  clear hc12
  obtain ⟨kw, hkw⟩ : ∃ kw : Int, kw = kv + ((N7 * 6 : Nat) : Int) := ⟨_, rfl⟩
  have kwn : ¬ kw < 0 := by omega
  have HMP := Lib.hid (markPacketS_any Q5 N7 q5 (fl PL) kv W5.heap.size w6.heap.size w12 HOQ_12.out (by have := HN.out; omega) kvb.1 kvb.2)
  unfold MarkedPacket at HMP
  rw [← hkw] at HMP
  clear hkw
  go_wp2_with fail
  refine HMP.out.mono ?_
  rintro e w13 ⟨rfl, ho10, hc13⟩
  have y13 := hc13.size
  clear ho10 HMP
  have HX_13 := Lib.hid (HX_12.out.chg hc13 (.inl (by omega)))
  clear HX_12
  have HY_13 := Lib.hid (HY_12.out.chg hc13 (.inl (by omega)))
  clear HY_12
  have HO0_13 := Lib.hid (HO0_12.out.chg hc13 (.inl (by omega)))
  clear HO0_12
  have HOG_13 := Lib.hid (HOG_12.out.chg hc13 (.inr (by omega)))
  clear HOG_12
  have HW_13 := Lib.hid (Chg.below HW_12.out hc13 (by omega))
  clear HOQ_12
  clear hc13
  go_wp2_with fail
  refine (eqIntS_any A6 A0 n6 c6 c0 rl _ HN0.out (by have := HNB.out; omega) HOG_13.out.row HO0_13.out.row).mono ?_
  rintro e w14 ⟨rfl, hb14⟩
  have y14 := hb14.size
  have HX_14 := Lib.hid (HX_13.out.old hb14)
  clear HX_13
  have HY_14 := Lib.hid (HY_13.out.old hb14)
  clear HY_13
  have HO0_14 := Lib.hid (HO0_13.out.old hb14)
  clear HO0_13
  have HOG_14 := Lib.hid (HOG_13.out.old hb14)
  clear HOG_13
  have HW_14 := Lib.hid (bt HW_13.out hb14)
  clear hb14
  have HMI := Lib.hid (markIntS_any A6 n6 c6 rl 1 w6.heap.size w7.heap.size w14 HOG_14.out (by have := HNB.out; omega) (by omega) (by omega))
  unfold Marked at HMI
  obtain ⟨kn, hkn⟩ : ∃ kn : Int, kn = 1 + (n6 : Int) := ⟨_, rfl⟩
  have HHI := Lib.hid (fun W hr => heldIntS_any A6 n6 c6 1 W hr (by have := HNB.out; omega) (by omega) (by omega))
  rw [← hkn] at HMI HHI
  have knn : ¬ kn < 0 := by omega
  clear hkn
  go_wp2_with fail
  refine HMI.out.mono ?_
  rintro e w15 ⟨rfl, ho11, hc15⟩
  have HOG15 := Lib.hid ho11
  have y15 := hc15.size
  clear ho11 HMI
  have HX_15 := Lib.hid (HX_14.out.chg hc15 (.inl (by omega)))
  clear HX_14
  have HY_15 := Lib.hid (HY_14.out.chg hc15 (.inl (by omega)))
  clear HY_14
  have HO0_15 := Lib.hid (HO0_14.out.chg hc15 (.inl (by omega)))
  clear HO0_14
  have HW_15 := Lib.hid (Chg.below HW_14.out hc15 (by omega))
  clear HOG_14
  clear hc15
  go_wp2_with fail
  refine (HHI.out _ HOG15.out.row).mono ?_
  rintro e w16 ⟨rfl, hb16⟩
  have y16 := hb16.size
  have HX_16 := Lib.hid (HX_15.out.old hb16)
  clear HX_15
  have HY_16 := Lib.hid (HY_15.out.old hb16)
  clear HY_15
  have HO0_16 := Lib.hid (HO0_15.out.old hb16)
  clear HO0_15
  have HOG_16 := Lib.hid (HOG15.out.old hb16)
  clear HOG15
  have HW_16 := Lib.hid (bt HW_15.out hb16)
  clear hb16
  have a : Bk w16 (w.heap.size) 25 #[.string nm, .slice A n cap, .slice B m capb, .int .i64 df] := HX_16.out
  have za : w.heap.size < w16.heap.size := a.lt
  have a_0 : w16.cell? ⟨w.heap.size, 0, none⟩ = some (.string nm) := a.cell 0
  have a_1 : w16.cell? ⟨w.heap.size, 1, none⟩ = some (.slice A n cap) := a.cell 1
  have a_2 : w16.cell? ⟨w.heap.size, 2, none⟩ = some (.slice B m capb) := a.cell 2
  have a_3 : w16.cell? ⟨w.heap.size, 3, none⟩ = some (.int .i64 df) := a.cell 3
  have af := a.free
  have Ha := Lib.hid a
  clear a
  go_wp2_with fail
  refine (HTC.out _ HW_16.out).mono ?_
  unfold TcE
  rintro e w17 ⟨A8, c8, B8, d8, hi8, rfl, ho12, ho13, hlo9, hlo10, hb17⟩
  have HRA17 := Lib.hid ho12.row
  have HRB17 := Lib.hid ho13.row
  have y17 := hb17.size
  clear ho12 ho13 hlo9 hlo10
  clear a_0 a_1 a_2 a_3 af za Ha
  have HX_17 := Lib.hid (HX_16.out.old hb17)
  clear HX_16
  have HY_17 := Lib.hid (HY_16.out.old hb17)
  clear HY_16
  have HO0_17 := Lib.hid (HO0_16.out.old hb17)
  clear HO0_16
  have HOG_17 := Lib.hid (HOG_16.out.old hb17)
  clear HOG_16
  have HW_17 := Lib.hid (bt HW_16.out hb17)
  clear hb17
  go_wp2_with fail
  refine (HTP.out _ HW_17.out).mono ?_
  unfold NewPacketS
  rintro e w18 ⟨Q8, N8, q8, rfl, ho14, hb18⟩
  obtain rfl : N8 = N7 := by have h := ho14.len; rw [HLP.out] at h; omega
  have HRQ18 := Lib.hid ho14.row
  have HRA18 := Lib.hid (HRA17.out.below hb18)
  have HRB18 := Lib.hid (HRB17.out.below hb18)
  have y18 := hb18.size
  clear ho14 HRA17 HRB17
  have HX_18 := Lib.hid (HX_17.out.old hb18)
  clear HX_17
  have HY_18 := Lib.hid (HY_17.out.old hb18)
  clear HY_17
  have HO0_18 := Lib.hid (HO0_17.out.old hb18)
  clear HO0_17
  have HOG_18 := Lib.hid (HOG_17.out.old hb18)
  clear HOG_17
  have HW_18 := Lib.hid (bt HW_17.out hb18)
  clear hb18
  go_wp2_with fail
  refine (HIMP.out A8 c8 B8 d8 Q8 q8 _ HRA18.out HRB18.out HRQ18.out (HK.out.below HW_18.out)).mono ?_
  rintro e w19 ⟨A9, n9, c9, rfl, ho15, hb19⟩
  obtain rfl : n9 = n6 := by have h : rl.length = n9 * 1 := ho15.len; have := HN0.out; omega
  have HOV19 := Lib.hid ho15
  have y19 := hb19.size
  clear ho15
  have HX_19 := Lib.hid (HX_18.out.old hb19)
  clear HX_18
  have HY_19 := Lib.hid (HY_18.out.old hb19)
  clear HY_18
  have HO0_19 := Lib.hid (HO0_18.out.old hb19)
  clear HO0_18
  have HOG_19 := Lib.hid (HOG_18.out.old hb19)
  clear HOG_18
  have HW_19 := Lib.hid (bt HW_18.out hb19)
  clear hb19
  go_wp2_with fail
  refine (eqIntS_any A9 A0 n9 c9 c0 rl _ HN0.out (by have := HNB.out; omega) HOV19.out.row HO0_19.out.row).mono ?_
  rintro e w20 ⟨rfl, hb20⟩
  have HX_20 := Lib.hid (HX_19.out.old hb20)
  clear HX_19
  have HY_20 := Lib.hid (HY_19.out.old hb20)
  clear HY_19
  have HO0_20 := Lib.hid (HO0_19.out.old hb20)
  clear HO0_19
  have HOG_20 := Lib.hid (HOG_19.out.old hb20)
  clear HOG_19
  have HW_20 := Lib.hid (bt HW_19.out hb20)
  clear hb20
  go_wp2_with fail
  refine (HHI.out _ HOG_20.out.row).mono ?_
  rintro e w21 ⟨rfl, hb21⟩
  go_wp2_with fail
  go_ret
  exact ⟨rfl, bt HW_20.out hb21⟩
theorem walk (w : World) (nm : ByteArray) (hs : nm.size ≤ maxLen) (A : Option Addr) (n cap : Nat) (lc : List Int) (hr : IRow w A lc ∧ lc.length = n * 8 ∧ n ≤ 9223372036854775807 ∧ IBs lc) (B : Option Addr) (m capb : Nat) (lf : List Int) (hrf : IRow w B lf ∧ lf.length = m * 5 ∧ m ≤ 9223372036854775807 ∧ IBs lf) (df : Int) (_ : IB df) (Q : Option Addr) (N capq : Nat) (lp : List Int) (hrp : IRow w Q lp ∧ lp.length = N * 6 ∧ N ≤ 9223372036854775807 ∧ IBs lp) (hk : KeysOk w) :
    Calls Tryd.prog 4 #[.agg #[.string nm, .slice A n cap, .slice B m capb, .int .i64 df], .slice Q N capq] w fun e w' => e = .returned (.bool true) ∧ Below w.heap.size w w' := by
  obtain ⟨L, hL, rfl⟩ := unflc n lc hr.2.1
  obtain ⟨F, hF, rfl⟩ := unflf m lf hrf.2.1
  obtain ⟨PL, hP, rfl⟩ := unfl N lp hrp.2.1
  exact walk_ nm A n cap B m capb df Q N capq L F PL w hs hL hr.1 hF hrf.1 hP hrp.1 hr.2.2.1 hrf.2.2.1 hrp.2.2.1 hk
theorem door_met (os : Os) (args : Array Value) : laidMetH Tryd.prog laidL ((World.laidAll Tryd.prog os laidL).forCall (fun _ _ => 0) ⟨#[], args, []⟩).memory :=
  laidMet_laidAll args (by kernel_rfl) (by kernel_rfl)
theorem tab {W : World} (h : laidMetH Tryd.prog laidL W) : KeysOk W := by
  have h' : laidMet Tryd.prog laidL W := h
  obtain ⟨ps, ⟨g0, t0, cs0, f0, a0, b0, hg0, ht0, hv0, hd0, _, _⟩, _, _⟩ := h'
  obtain rfl : g0 = 0 := (Option.some.inj ((show Tryd.prog.globalNamed "loop.example/g00838/impl.keyWords" = some 0 by kernel_rfl).symm.trans hg0)).symm
  obtain rfl : t0 = 96 := (Option.some.inj ((show (Tryd.prog.globals[0]?).map (·.type) = some 96 by kernel_rfl).symm.trans ht0)).symm
  intro j hj
  obtain ⟨fu, d, q, hdj, hdt⟩ := Lib.array_elem Tryd.underlying96 hd0 j hj
  rw [show Tryd.prog.cellsOf 9 = 1 by kernel_rfl, Nat.mul_one] at hdt
  obtain ⟨s, hs, hx, _⟩ := DataW.trod_string Tryd.underlying9 hdt
  have hc := World.var?_cell hg0 hv0 j
  have e1 : cs0[j]? = some (.string s) := by
    rw [← Array.getElem?_toList]
    have e := congrArg (fun l : List Value => l[0]?) hs
    simpa [List.getElem?_take, List.getElem?_drop] using e
  rw [hc, e1]
  have hd : d = .lit (.string s.data.toList) := (Prod.mk.inj hx).1
  subst hd
  have key : s.data.toList = (kw j).data.toList := by
    clear hc e1 hs hx hdt
    obtain rfl | rfl | rfl | rfl | rfl | rfl | rfl | rfl | rfl | rfl | rfl | rfl | rfl | rfl : j = 0 ∨ j = 1 ∨ j = 2 ∨ j = 3 ∨ j = 4 ∨ j = 5 ∨ j = 6 ∨ j = 7 ∨ j = 8 ∨ j = 9 ∨ j = 10 ∨ j = 11 ∨ j = 12 ∨ j = 13 := by omega
    all_goals
      simp only [List.getElem?_cons_zero, List.getElem?_cons_succ, Option.some.injEq, DataW.lit.injEq, Lit.string.injEq] at hdj
      rw [← hdj]
      rfl
  exact congrArg (fun x => some (Value.string x)) (ByteArray.ext (Array.toList_inj.1 key))
theorem own : ownKnob Tryd.prog.godebug = none := by kernel_rfl
theorem laidOut : laidOutB Tryd.prog = true := by kernel_rfl
set_option maxRecDepth 100000 in
theorem lifted (os : Os) (started : os.Started) (H : Type) (enc : TypeId × Value → H) :
    ReturnsInHanded {} Tryd.checked os 4 .any (fun w args => (Rows.fnExactTakenBySpec.pre enc Tryd.prog Tryd.f4 [] false w args ∧ laidMetH Tryd.prog laidL w) ∧ sizedMet enc Tryd.prog Tryd.f4 (OpenSpec.ofChange Rows.fnExactTakenBySpec) false w args) (Rows.fnExactTakenBySpec.post enc Tryd.prog Tryd.f4 false true false false) := by
  refine returnsInHanded_of_change_and (C := Tryd.checked) (X := fun w _ => laidMetH Tryd.prog laidL w) (fun _ _ _ hh h => h.of_heap hh) own started (by kernel_rfl) Tryd.func4
    (ChangeSpec.witness_shaped (enc := enc) (C := Tryd.checked) (os := os) (X := fun w _ => laidMetH Tryd.prog laidL w) false (World.laidAll Tryd.prog os laidL) #[.agg #[.string ByteArray.empty, .slice none 0 0, .slice none 0 0, .int .i64 0], .slice none 0 0] 8 (World.laidAll_os _ _ _) (World.shaped_of_ZipB (by kernel_rfl) (by kernel_rfl)) (by kernel_rfl) (by kernel_rfl) (by kernel_rfl) (door_met os _)) ?_
  intro W base args ds gs before hval0 hW _ _ hL _
  have hval : ∀ (j : Nat) t v, Tryd.f4.params[j]? = some t → args[j]? = some v → Value.okWide Tryd.prog W .any base t v := hval0
  have hW' := hW
  obtain ⟨p, q, hA0, hV, rfl, hfz, hnd⟩ := hW
  have hA : DataW.TrodAll enc Tryd.prog W 0 (fun _ => true) true Tryd.f4.params.toList args.toList ds p := hA0
  rw [Tryd.params4] at hA hval
  obtain ⟨v0, vs0, d0, ds0, p0, q0, hargs, rfl, rfl, h0, r0⟩ := trodAll_cons hA
  obtain ⟨v1, vs1, d1, ds1, p1, q1, rfl, rfl, rfl, h1, r1⟩ := trodAll_cons r0
  obtain ⟨rfl, rfl, rfl⟩ := trodAll_nil r1
  obtain rfl : args = #[v0, v1] := by cases args; simp_all
  have hVk := hV
  obtain ⟨gv, tv, csv, fuv, dv, pv', rfl, hgv, htv, hvv, hdv, rfl⟩ := trodVars_one hV
  have k0 := h0
  have lt0 : ∀ x ∈ p0, x.block < W.heap.size := by obtain ⟨m, hm⟩ := k0; exact DataW.trod_lt m _ _ _ hm
  have k1 := h1
  have lt1 : ∀ x ∈ p1, x.block < W.heap.size := by obtain ⟨m, hm⟩ := k1; exact DataW.trod_lt m _ _ _ hm
  obtain ⟨cs0, rfl, hsz0⟩ := okWide_struct Tryd.underlying25 (hval 0 25 v0 rfl rfl)
  obtain ⟨c0_0, c0_1, c0_2, c0_3, rfl⟩ := arr4 (hsz0.trans (by kernel_rfl))
  have hf0 := h0
  obtain ⟨fu0, hf0⟩ := hf0
  simp only [Value.cells] at hf0
  obtain ⟨ma0_0, ya0_0, ta0_0⟩ := leaf Tryd.underlying25 hf0 0 _ rfl (by kernel_rfl) rfl
  obtain ⟨sa0_0, ea0_0, _, hsa0_0⟩ := DataW.trod_string Tryd.underlying9 ta0_0
  simp only [List.cons.injEq, and_true] at ea0_0
  subst ea0_0
  obtain ⟨ma0_1, ya0_1, ta0_1⟩ := leaf Tryd.underlying25 hf0 1 _ rfl (by kernel_rfl) rfl
  obtain ⟨Aa0_1, lena0_1, capa0_1, la0_1, ea0_1, hra0_1⟩ := rows_leaf (s := 8) Tryd.underlying22 (by kernel_rfl) (by decide) (flatClass enc W) ta0_1
  subst ea0_1
  obtain ⟨ma0_2, ya0_2, ta0_2⟩ := leaf Tryd.underlying25 hf0 2 _ rfl (by kernel_rfl) rfl
  obtain ⟨Aa0_2, lena0_2, capa0_2, la0_2, ea0_2, hra0_2⟩ := rows_leaf (s := 5) Tryd.underlying23 (by kernel_rfl) (by decide) (flatFilter enc W) ta0_2
  subst ea0_2
  obtain ⟨a0_3, ea0_3⟩ := leaf_int Tryd.underlying25 hf0 3 _ rfl Tryd.underlying3 (by kernel_rfl) rfl
  obtain ⟨ea0_3, wa0_3⟩ := ea0_3
  subst ea0_3
  obtain ⟨A1, len1, cap1, rfl⟩ := okWide_slice Tryd.underlying40 (hval 1 40 v1 rfl rfl)
  obtain ⟨l1, hr1⟩ := rows_row (s := 6) Tryd.underlying40 (by kernel_rfl) (by decide) (flatPacket enc W) h1
  clear hA0 hval0
  refine (walk W sa0_0 hsa0_0 Aa0_1 lena0_1 capa0_1 la0_1 hra0_1 Aa0_2 lena0_2 capa0_2 la0_2 hra0_2 a0_3 (ibounds wa0_3) A1 len1 cap1 l1 hr1 (tab hL)).mono fun e W' ⟨he, bel⟩ => ?_
  subst he
  exact ⟨_, rfl, _, _, _, [], _, _, hW', trodAll_mk1 (shut_bool Tryd.underlying4 _), (trodAll_cons_mk (Below.trod laidOut (by kernel_rfl) (of_decide_eq_true (by kernel_rfl)) k0 bel lt0) (trodAll_cons_mk (Below.trod laidOut (by kernel_rfl) (of_decide_eq_true (by kernel_rfl)) k1 bel lt1) trodAll_mk0)), Below.trodVars laidOut bel (by kernel_rfl) hVk, bel.frame _, fun h => by cases h⟩
theorem over : Rows.fnExactTakenByRow.holds Tryd.pinned (OpenSpec.ofChange Rows.fnExactTakenBySpec) :=
  OpenClaim.holds_of_wide 4 Tryd.f4 rfl rfl rfl rfl rfl rfl rfl ⟨rfl, rfl, rfl, rfl, rfl⟩ rfl rfl rfl rfl rfl (by kernel_rfl) Tryd.func4 (by kernel_rfl)
    (of_decide_eq_true (by kernel_rfl)) (by unfold Func.isWrapper; first | (rw [if_pos (by decide +kernel)]; kernel_rfl) | (rw [if_neg (by decide +kernel)]; exact ⟨rfl, rfl⟩))
    (fun os started H enc _ => lifted os started H enc)

/-- The given statement: the card. -/
theorem proved : Rows.FnExactTakenByCardSaid :=
  Claim7.holds_tied_plain_at .later [] [.data] true (true, "61591814ef0e6af5e8faf52f8c5d5c32b3e0d0172286deed4be7bf9754902aee") false
    over (fun _ h => by cases h) (by kernel_rfl) (fun _ h => by cases h) fnExactTakenBy_row_tie rfl ⟨rfl, rfl⟩ (by kernel_rfl) rfl
    (fun f fn hf hfn => by
      obtain rfl : f = 4 := Option.some.inj ((show Tryd.prog.funcNamed "loop.example/g00838/laws.FnExactTakenBy" = some 4 by kernel_rfl).symm.trans hf) |>.symm
      obtain rfl : fn = Tryd.f4 := (Option.some.inj (Tryd.func4.symm.trans hfn)).symm
      exact ⟨by kernel_rfl, fun j t ht => by
        rw [Tryd.params4] at ht
        have h3 : t = 25 ∨ t = 40 := by
          rcases j with _ | _ | j
          · exact .inl (by simpa using ht.symm)
          · exact .inr (by simpa using ht.symm)
          · simp at ht
        rcases h3 with rfl | rfl
        · exact (show Tryd.prog.wantsStandIn 25 = false by kernel_rfl)
        · exact (show Tryd.prog.wantsStandIn 40 = false by kernel_rfl)⟩)
    (by kernel_rfl)
#print axioms proved
end Go.Proofs.YtjajddhedahpnaaDoor.lawTakenBy
