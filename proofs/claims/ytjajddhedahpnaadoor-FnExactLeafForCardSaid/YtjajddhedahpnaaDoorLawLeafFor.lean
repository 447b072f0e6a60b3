/- The statement FnExactLeafForCardSaid: for every configuration and packet the law FnExactLeafFor returns true, and its arguments read as before; the listed table of key words is tied to the program's text. (Printed by lawff.py.) -/
import Derived.Test.YtjajddhedahpnaaDoorCfgK
import Derived.Test.YtjajddhedahpnaaDoorCfgL
import Derived.Test.YtjajddhedahpnaaDoorChecked
import Derived.Test.YtjajddhedahpnaaDoorCards
import Derived.Test.YtjajddhedahpnaaDoorTie
import Derived.SevenTiedAt
import Derived.LaidMore
import Derived.Lay
import Derived.OpenVars
import Derived.ChangeVars
import Derived.Lib.LaidU8
namespace Go.Proofs.YtjajddhedahpnaaDoor.lawLeafFor
open Go.ChangeShapes Go.WideShapes Go.ChangeAt Go.RowKit
set_option linter.unusedVariables false
set_option maxRecDepth 100000
def laidL : List (String × DataW Unit) := Rows.fnExactLeafForRow.laid
set_option maxHeartbeats 4000000 in
theorem walk_ (nm : ByteArray) (A : Option Addr) (n cap : Nat) (B : Option Addr) (m capb : Nat) (df : Int) (L : List Cl) (F : List Fi) (p : Pk) (w : World) (hs : nm.size ≤ maxLen) (hl : L.length = n) (hr : IRow w A (flc L)) (hf : F.length = m) (hrf : IRow w B (flf F)) (hn : n ≤ 9223372036854775807) (hm : m ≤ 9223372036854775807) (hky : KeysOk w) :
    Calls Tryd.prog 3 #[.agg #[.string nm, .slice A n cap, .slice B m capb, .int .i64 df], .agg #[.int .i64 (p.id), .int .i64 (p.so), .int .i64 (p.de), .int .i64 (p.po), .int .i64 (p.ma), .int .i64 (p.si)]] w fun e w' => e = .returned (.bool true) ∧ Below w.heap.size w w' := by
  have HSZ := Lib.hid (fun W => szConfig_any nm A n cap B m capb df W hs hn hm)
  have HBX := Lib.hid (show Bk ((w.alloc (.cells #[.string nm, .slice A n cap, .slice B m capb, .int .i64 df] 25)).alloc (.cells #[.int .i64 p.id, .int .i64 p.so, .int .i64 p.de, .int .i64 p.po, .int .i64 p.ma, .int .i64 p.si] 27)) w.heap.size 25 #[.string nm, .slice A n cap, .slice B m capb, .int .i64 df] from (Bk.new _ _ _).alloc _)
  have HBP := Lib.hid (show Bk ((w.alloc (.cells #[.string nm, .slice A n cap, .slice B m capb, .int .i64 df] 25)).alloc (.cells #[.int .i64 p.id, .int .i64 p.so, .int .i64 p.de, .int .i64 p.po, .int .i64 p.ma, .int .i64 p.si] 27)) (w.heap.size + 1) 27 #[.int .i64 p.id, .int .i64 p.so, .int .i64 p.de, .int .i64 p.po, .int .i64 p.ma, .int .i64 p.si] from Bk.new_ (by simp))
  have HBW := Lib.hid (show Below w.heap.size w ((w.alloc (.cells #[.string nm, .slice A n cap, .slice B m capb, .int .i64 df] 25)).alloc (.cells #[.int .i64 p.id, .int .i64 p.so, .int .i64 p.de, .int .i64 p.po, .int .i64 p.ma, .int .i64 p.si] 27)) from ba (ba (b0 w) _) _)
  by_cases hbig : (nm.size : Int) + (n : Int) + (m : Int) ≤ 1048576
  rotate_left
  · have hz : szR nm.size n m = -1 := if_neg hbig
    rw [hz] at HSZ
    clear hl hr hf hrf
    go_enter Tryd.func3, Tryd.ntmps3
    go_wp2_with fail
    refine (HSZ.out _).mono ?_
    rintro e w1 ⟨rfl, hb1⟩
    go_wp2_with fail
    go_ret
    exact ⟨rfl, bt HBW.out hb1⟩
  have HR := Lib.hid hr
  have HRF := Lib.hid hrf
  have HK := Lib.hid hky
  have HN := Lib.hid (show nm.size ≤ 1048576 ∧ n ≤ 1048576 ∧ m ≤ 1048576 from by omega)
  have HLC := Lib.hid (show (flc L).length = n * 8 from by rw [flc_len, hl])
  have HLF := Lib.hid (show (flf F).length = m * 5 from by rw [flf_len, hf])
  have HL := Lib.hid hl
  have HF := Lib.hid hf
  have HTC := Lib.hid (fun W (hb : Below w.heap.size w W) => toConfig_any nm A n cap B m capb df (flc L) (flf F) W HLC.out HLF.out (HR.out.below hb) (HRF.out.below hb) HN.out.2.1 HN.out.2.2)
  have HSP := Lib.hid (fun A' c' B' d' W hr' hrf' => specLeafFor_any p nm A' n c' B' m d' df L F W HL.out hr' HF.out hrf' HN.out.1 HN.out.2.2)
  have HIM := Lib.hid (fun A' c' B' d' W hr' hrf' hk' => implLeafFor_any p nm A' n c' B' m d' df L F W HL.out hr' HF.out hrf' hk')
  unfold TupE at HSP HIM
  generalize lfR nm L F df p = rr at *
  obtain ⟨q, bb⟩ := rr
  obtain ⟨z, hz⟩ : ∃ z, z = szR nm.size n m := ⟨_, rfl⟩
  rw [← hz] at HSZ
  have z0 : ¬ z < 0 := by rw [hz, szR, if_pos hbig]; omega
  clear hl hr hf hrf hbig hz hky
  go_enter Tryd.func3, Tryd.ntmps3
  go_wp2_with fail
  refine (HSZ.out _).mono ?_
  rintro e w1 ⟨rfl, hb1⟩
  have HX1 := Lib.hid (HBX.out.old hb1)
  have HP1 := Lib.hid (HBP.out.old hb1)
  have HW1 := Lib.hid (bt HBW.out hb1)
  have HSX := Lib.hid (show ∀ W, Below w1.heap.size w1 W → (fun w' => w'.cell? ⟨w.heap.size, 0, none⟩ = some (.string nm) ∧ w'.cell? ⟨w.heap.size, 1, none⟩ = some (.slice A n cap) ∧ w'.cell? ⟨w.heap.size, 2, none⟩ = some (.slice B m capb) ∧ w'.cell? ⟨w.heap.size, 3, none⟩ = some (.int .i64 df) ∧ w'.cell? ⟨w.heap.size + 1, 0, none⟩ = some (.int .i64 p.id) ∧ w'.cell? ⟨w.heap.size + 1, 1, none⟩ = some (.int .i64 p.so) ∧ w'.cell? ⟨w.heap.size + 1, 2, none⟩ = some (.int .i64 p.de) ∧ w'.cell? ⟨w.heap.size + 1, 3, none⟩ = some (.int .i64 p.po) ∧ w'.cell? ⟨w.heap.size + 1, 4, none⟩ = some (.int .i64 p.ma) ∧ w'.cell? ⟨w.heap.size + 1, 5, none⟩ = some (.int .i64 p.si)) W from fun W hb => ⟨(HX1.out.old hb).cell 0, (HX1.out.old hb).cell 1, (HX1.out.old hb).cell 2, (HX1.out.old hb).cell 3, (HP1.out.old hb).cell 0, (HP1.out.old hb).cell 1, (HP1.out.old hb).cell 2, (HP1.out.old hb).cell 3, (HP1.out.old hb).cell 4, (HP1.out.old hb).cell 5⟩)
  clear hb1 HBX HBP
  go_wp2_with fail
  go_region_held3 (fun w' => w'.cell? ⟨w.heap.size, 0, none⟩ = some (.string nm) ∧ w'.cell? ⟨w.heap.size, 1, none⟩ = some (.slice A n cap) ∧ w'.cell? ⟨w.heap.size, 2, none⟩ = some (.slice B m capb) ∧ w'.cell? ⟨w.heap.size, 3, none⟩ = some (.int .i64 df) ∧ w'.cell? ⟨w.heap.size + 1, 0, none⟩ = some (.int .i64 p.id) ∧ w'.cell? ⟨w.heap.size + 1, 1, none⟩ = some (.int .i64 p.so) ∧ w'.cell? ⟨w.heap.size + 1, 2, none⟩ = some (.int .i64 p.de) ∧ w'.cell? ⟨w.heap.size + 1, 3, none⟩ = some (.int .i64 p.po) ∧ w'.cell? ⟨w.heap.size + 1, 4, none⟩ = some (.int .i64 p.ma) ∧ w'.cell? ⟨w.heap.size + 1, 5, none⟩ = some (.int .i64 p.si)) (exact HSX.out _ (by repeat (first | (with_reducible exact b0 _) | (with_reducible refine ba ?_ _) | (with_reducible refine bd ?_ _) | (with_reducible refine Below.drew ?_) | (with_reducible refine bsB ?_ (by first | exact Nat.le_refl _ | exact Nat.le_add_right _ _ | omega)) | (with_reducible refine bt ?_ (by assumption)))))
    (first
      | (go_at_call 8; refine (HTC.out _ (bt HW1.out (by repeat (first | (with_reducible exact b0 _) | (with_reducible refine ba ?_ _) | (with_reducible refine bd ?_ _) | (with_reducible refine Below.drew ?_) | (with_reducible refine bsB ?_ (by first | exact Nat.le_refl _ | exact Nat.le_add_right _ _ | omega)) | (with_reducible refine bt ?_ (by assumption)))))).mono ?_; unfold TcE; rintro e v1 ⟨A1, c1, B1, d1, hi1, rfl, ho1, ho2, hlo1, hlo2, hbr1⟩)
      | (go_at_call 9; refine (toPacket_any _ _ _ _ _ _ _).mono ?_; rintro e v2 ⟨rfl, hbr2⟩)
      | (go_at_call 7; refine (HSP.out A1 c1 B1 d1 _ (ho1.row.below hbr2) (ho2.row.below hbr2)).mono ?_; rintro e v3 ⟨rfl, hbr3⟩))
  have HB3 := Lib.hid (show Below w1.heap.size w1 v3 from (by repeat (first | (with_reducible exact b0 _) | (with_reducible refine ba ?_ _) | (with_reducible refine bd ?_ _) | (with_reducible refine Below.drew ?_) | (with_reducible refine bsB ?_ (by first | exact Nat.le_refl _ | exact Nat.le_add_right _ _ | omega)) | (with_reducible refine bt ?_ (by assumption)))))
  have HX3 := Lib.hid (HX1.out.old HB3.out)
  have HP3 := Lib.hid (HP1.out.old HB3.out)
  have HW3 := Lib.hid (bt HW1.out HB3.out)
  have z3 := HX3.out.lt
  clear hbr1 hbr2 hbr3 ho1 ho2 HSX HX1 HP1 HB3
  have a : Bk v3 (w.heap.size) 25 #[.string nm, .slice A n cap, .slice B m capb, .int .i64 df] := HX3.out
  have za : w.heap.size < v3.heap.size := a.lt
  have a_0 : v3.cell? ⟨w.heap.size, 0, none⟩ = some (.string nm) := a.cell 0
  have a_1 : v3.cell? ⟨w.heap.size, 1, none⟩ = some (.slice A n cap) := a.cell 1
  have a_2 : v3.cell? ⟨w.heap.size, 2, none⟩ = some (.slice B m capb) := a.cell 2
  have a_3 : v3.cell? ⟨w.heap.size, 3, none⟩ = some (.int .i64 df) := a.cell 3
  have af := a.free
  have Ha := Lib.hid a
  clear a
  go_wp2_with fail
  refine (HTC.out _ HW3.out).mono ?_
  unfold TcE
  rintro e w4 ⟨A4, c4, B4, d4, hi4, rfl, ho4, ho5, hlo4, hlo5, hb4⟩
  have HX4 := Lib.hid (HX3.out.old hb4)
  have HP4 := Lib.hid (HP3.out.old hb4)
  have HW4 := Lib.hid (bt HW3.out hb4)
  have HO4 := Lib.hid ho4
  have HO5 := Lib.hid ho5
  clear hb4 a_0 a_1 a_2 a_3 af za Ha ho4 ho5
  go_wp2_with fail
  obtain ⟨W, hW⟩ : ∃ W, W = w4.alloc (.cells #[.string nm, .slice A4 n c4, .slice B4 m d4, .int .i64 df] 34) := ⟨_, rfl⟩
  rw [← hW]
  have HX5 := Lib.hid (show Bk W w.heap.size 25 #[.string nm, .slice A n cap, .slice B m capb, .int .i64 df] from by rw [hW]; exact HX4.out.alloc _)
  have HP5 := Lib.hid (show Bk W (w.heap.size + 1) 27 #[.int .i64 p.id, .int .i64 p.so, .int .i64 p.de, .int .i64 p.po, .int .i64 p.ma, .int .i64 p.si] from by rw [hW]; exact HP4.out.alloc _)
  have HY5 := Lib.hid (show Bk W w4.heap.size 34 #[.string nm, .slice A4 n c4, .slice B4 m d4, .int .i64 df] from by rw [hW]; exact Bk.new _ _ _)
  have HRC := Lib.hid (show IRow W A4 (flc L) from by rw [hW]; exact (HO4.out.alloc _).row)
  have HRD := Lib.hid (show IRow W B4 (flf F) from by rw [hW]; exact (HO5.out.alloc _).row)
  have HW5 := Lib.hid (show Below w.heap.size w W from by rw [hW]; exact ba HW4.out _)
  clear hW HX4 HP4 HO4 HO5
  have HSX := Lib.hid (show ∀ V, Below W.heap.size W V → (fun w' => w'.cell? ⟨w4.heap.size, 0, none⟩ = some (.string nm) ∧ w'.cell? ⟨w4.heap.size, 1, none⟩ = some (.slice A4 n c4) ∧ w'.cell? ⟨w4.heap.size, 2, none⟩ = some (.slice B4 m d4) ∧ w'.cell? ⟨w4.heap.size, 3, none⟩ = some (.int .i64 df) ∧ w'.cell? ⟨w.heap.size + 1, 0, none⟩ = some (.int .i64 p.id) ∧ w'.cell? ⟨w.heap.size + 1, 1, none⟩ = some (.int .i64 p.so) ∧ w'.cell? ⟨w.heap.size + 1, 2, none⟩ = some (.int .i64 p.de) ∧ w'.cell? ⟨w.heap.size + 1, 3, none⟩ = some (.int .i64 p.po) ∧ w'.cell? ⟨w.heap.size + 1, 4, none⟩ = some (.int .i64 p.ma) ∧ w'.cell? ⟨w.heap.size + 1, 5, none⟩ = some (.int .i64 p.si)) V from fun V hb => ⟨(HY5.out.old hb).cell 0, (HY5.out.old hb).cell 1, (HY5.out.old hb).cell 2, (HY5.out.old hb).cell 3, (HP5.out.old hb).cell 0, (HP5.out.old hb).cell 1, (HP5.out.old hb).cell 2, (HP5.out.old hb).cell 3, (HP5.out.old hb).cell 4, (HP5.out.old hb).cell 5⟩)
  go_region_held3 (fun w' => w'.cell? ⟨w4.heap.size, 0, none⟩ = some (.string nm) ∧ w'.cell? ⟨w4.heap.size, 1, none⟩ = some (.slice A4 n c4) ∧ w'.cell? ⟨w4.heap.size, 2, none⟩ = some (.slice B4 m d4) ∧ w'.cell? ⟨w4.heap.size, 3, none⟩ = some (.int .i64 df) ∧ w'.cell? ⟨w.heap.size + 1, 0, none⟩ = some (.int .i64 p.id) ∧ w'.cell? ⟨w.heap.size + 1, 1, none⟩ = some (.int .i64 p.so) ∧ w'.cell? ⟨w.heap.size + 1, 2, none⟩ = some (.int .i64 p.de) ∧ w'.cell? ⟨w.heap.size + 1, 3, none⟩ = some (.int .i64 p.po) ∧ w'.cell? ⟨w.heap.size + 1, 4, none⟩ = some (.int .i64 p.ma) ∧ w'.cell? ⟨w.heap.size + 1, 5, none⟩ = some (.int .i64 p.si)) (exact HSX.out _ (by repeat (first | (with_reducible exact b0 _) | (with_reducible refine ba ?_ _) | (with_reducible refine bd ?_ _) | (with_reducible refine Below.drew ?_) | (with_reducible refine bsB ?_ (by first | exact Nat.le_refl _ | exact Nat.le_add_right _ _ | omega)) | (with_reducible refine bt ?_ (by assumption)))))
    (first
      | (go_at_call 9; refine (toPacket_any _ _ _ _ _ _ _).mono ?_; rintro e v2 ⟨rfl, hbr2⟩)
      | (go_at_call 10; refine (HIM.out A4 c4 B4 d4 _ (HRC.out.below (by repeat (first | (with_reducible exact b0 _) | (with_reducible refine ba ?_ _) | (with_reducible refine bd ?_ _) | (with_reducible refine Below.drew ?_) | (with_reducible refine bsB ?_ (by first | exact Nat.le_refl _ | exact Nat.le_add_right _ _ | omega)) | (with_reducible refine bt ?_ (by assumption))))) (HRD.out.below (by repeat (first | (with_reducible exact b0 _) | (with_reducible refine ba ?_ _) | (with_reducible refine bd ?_ _) | (with_reducible refine Below.drew ?_) | (with_reducible refine bsB ?_ (by first | exact Nat.le_refl _ | exact Nat.le_add_right _ _ | omega)) | (with_reducible refine bt ?_ (by assumption))))) (HK.out.below (bt HW5.out (by repeat (first | (with_reducible exact b0 _) | (with_reducible refine ba ?_ _) | (with_reducible refine bd ?_ _) | (with_reducible refine Below.drew ?_) | (with_reducible refine bsB ?_ (by first | exact Nat.le_refl _ | exact Nat.le_add_right _ _ | omega)) | (with_reducible refine bt ?_ (by assumption))))))).mono ?_; rintro e v5 ⟨rfl, hbr5⟩))
  have HB6 := Lib.hid (show Below W.heap.size W v5 from (by repeat (first | (with_reducible exact b0 _) | (with_reducible refine ba ?_ _) | (with_reducible refine bd ?_ _) | (with_reducible refine Below.drew ?_) | (with_reducible refine bsB ?_ (by first | exact Nat.le_refl _ | exact Nat.le_add_right _ _ | omega)) | (with_reducible refine bt ?_ (by assumption)))))
  have HX6 := Lib.hid (HX5.out.old HB6.out)
  have HY6 := Lib.hid (HY5.out.old HB6.out)
  have HRC6 := Lib.hid (HRC.out.below HB6.out)
  have HRD6 := Lib.hid (HRD.out.below HB6.out)
  have HW6 := Lib.hid (bt HW5.out HB6.out)
  clear hbr2 hbr5 HSX HX5 HY5 HP5 HRC HRD HB6
  go_wp2_with fail
  have HSX := Lib.hid (show ∀ V, Below v5.heap.size v5 V → (fun w' => w'.cell? ⟨w4.heap.size, 0, none⟩ = some (.string nm) ∧ w'.cell? ⟨w4.heap.size, 1, none⟩ = some (.slice A4 n c4) ∧ w'.cell? ⟨w4.heap.size, 2, none⟩ = some (.slice B4 m d4) ∧ w'.cell? ⟨w4.heap.size, 3, none⟩ = some (.int .i64 df) ∧ w'.cell? ⟨w.heap.size, 0, none⟩ = some (.string nm) ∧ w'.cell? ⟨w.heap.size, 1, none⟩ = some (.slice A n cap) ∧ w'.cell? ⟨w.heap.size, 2, none⟩ = some (.slice B m capb) ∧ w'.cell? ⟨w.heap.size, 3, none⟩ = some (.int .i64 df)) V from fun V hb => ⟨(HY6.out.old hb).cell 0, (HY6.out.old hb).cell 1, (HY6.out.old hb).cell 2, (HY6.out.old hb).cell 3, (HX6.out.old hb).cell 0, (HX6.out.old hb).cell 1, (HX6.out.old hb).cell 2, (HX6.out.old hb).cell 3⟩)
  go_region_held3 (fun w' => w'.cell? ⟨w4.heap.size, 0, none⟩ = some (.string nm) ∧ w'.cell? ⟨w4.heap.size, 1, none⟩ = some (.slice A4 n c4) ∧ w'.cell? ⟨w4.heap.size, 2, none⟩ = some (.slice B4 m d4) ∧ w'.cell? ⟨w4.heap.size, 3, none⟩ = some (.int .i64 df) ∧ w'.cell? ⟨w.heap.size, 0, none⟩ = some (.string nm) ∧ w'.cell? ⟨w.heap.size, 1, none⟩ = some (.slice A n cap) ∧ w'.cell? ⟨w.heap.size, 2, none⟩ = some (.slice B m capb) ∧ w'.cell? ⟨w.heap.size, 3, none⟩ = some (.int .i64 df)) (exact HSX.out _ (by repeat (first | (with_reducible exact b0 _) | (with_reducible refine ba ?_ _) | (with_reducible refine bd ?_ _) | (with_reducible refine Below.drew ?_) | (with_reducible refine bsB ?_ (by first | exact Nat.le_refl _ | exact Nat.le_add_right _ _ | omega)) | (with_reducible refine bt ?_ (by assumption)))))
    (first
      | (go_at_call 8; refine (HTC.out _ (bt HW6.out (by repeat (first | (with_reducible exact b0 _) | (with_reducible refine ba ?_ _) | (with_reducible refine bd ?_ _) | (with_reducible refine Below.drew ?_) | (with_reducible refine bsB ?_ (by first | exact Nat.le_refl _ | exact Nat.le_add_right _ _ | omega)) | (with_reducible refine bt ?_ (by assumption)))))).mono ?_; unfold TcE; rintro e v6 ⟨A7, c7, B7, d7, hi7, rfl, ho7, ho8, hlo7, hlo8, hbr6⟩)
      | (go_at_call 11; refine (eqConfig_any nm A4 n c4 B4 m d4 df A7 c7 B7 d7 (flc L) (flf F) _ HLC.out HLF.out (HRC6.out.below (by repeat (first | (with_reducible exact b0 _) | (with_reducible refine ba ?_ _) | (with_reducible refine bd ?_ _) | (with_reducible refine Below.drew ?_) | (with_reducible refine bsB ?_ (by first | exact Nat.le_refl _ | exact Nat.le_add_right _ _ | omega)) | (with_reducible refine bt ?_ (by assumption))))) (HRD6.out.below (by repeat (first | (with_reducible exact b0 _) | (with_reducible refine ba ?_ _) | (with_reducible refine bd ?_ _) | (with_reducible refine Below.drew ?_) | (with_reducible refine bsB ?_ (by first | exact Nat.le_refl _ | exact Nat.le_add_right _ _ | omega)) | (with_reducible refine bt ?_ (by assumption))))) ho7.row ho8.row HN.out.2.1 HN.out.2.2).mono ?_; rintro e v7 ⟨rfl, hbr7⟩))
  have HB8 := Lib.hid (show Below v5.heap.size v5 v7 from (by repeat (first | (with_reducible exact b0 _) | (with_reducible refine ba ?_ _) | (with_reducible refine bd ?_ _) | (with_reducible refine Below.drew ?_) | (with_reducible refine bsB ?_ (by first | exact Nat.le_refl _ | exact Nat.le_add_right _ _ | omega)) | (with_reducible refine bt ?_ (by assumption)))))
  go_wp2_with fail
  go_ret
  exact ⟨rfl, bt HW6.out HB8.out⟩
theorem walk (w : World) (nm : ByteArray) (hs : nm.size ≤ maxLen) (A : Option Addr) (n cap : Nat) (lc : List Int) (hr : IRow w A lc ∧ lc.length = n * 8 ∧ n ≤ 9223372036854775807 ∧ IBs lc) (B : Option Addr) (m capb : Nat) (lf : List Int) (hrf : IRow w B lf ∧ lf.length = m * 5 ∧ m ≤ 9223372036854775807 ∧ IBs lf) (df : Int) (_ : IB df) (p0 : Int) (_ : IB p0) (p1 : Int) (_ : IB p1) (p2 : Int) (_ : IB p2) (p3 : Int) (_ : IB p3) (p4 : Int) (_ : IB p4) (p5 : Int) (_ : IB p5) (hk : KeysOk w) :
    Calls Tryd.prog 3 #[.agg #[.string nm, .slice A n cap, .slice B m capb, .int .i64 df], .agg #[.int .i64 p0, .int .i64 p1, .int .i64 p2, .int .i64 p3, .int .i64 p4, .int .i64 p5]] w fun e w' => e = .returned (.bool true) ∧ Below w.heap.size w w' := by
  obtain ⟨L, hL, rfl⟩ := unflc n lc hr.2.1
  obtain ⟨F, hF, rfl⟩ := unflf m lf hrf.2.1
  exact walk_ nm A n cap B m capb df L F ⟨p0, p1, p2, p3, p4, p5⟩ w hs hL hr.1 hF hrf.1 hr.2.2.1 hrf.2.2.1 hk
theorem door_met (os : Os) (args : Array Value) : laidMetH Tryd.prog laidL ((World.laidAll Tryd.prog os laidL).forCall (fun _ _ => 0) ⟨#[], args, []⟩).memory :=
  laidMet_laidAll args (by kernel_rfl) (by kernel_rfl)
theorem tab {W : World} (h : laidMetH Tryd.prog laidL W) : KeysOk W := by
  have h' : laidMet Tryd.prog laidL W := h
  obtain ⟨ps, ⟨g0, t0, cs0, f0, a0, b0, hg0, ht0, hv0, hd0, _, _⟩, _, _⟩ := h'
  obtain rfl : g0 = 0 := (Option.some.inj ((show Tryd.prog.globalNamed "loop.example/g00838/impl.keyWords" = some 0 by kernel_rfl).symm.trans hg0)).symm
  obtain rfl : t0 = 96 := (Option.some.inj ((show (Tryd.prog.globals[0]?).map (·.type) = some 96 by kernel_rfl).symm.trans ht0)).symm
  intro j hj
  obtain ⟨fu, d, q, hdj, hdt⟩ := Lib.array_elem Tryd.underlying96 hd0 j hj
  rw [show Tryd.prog.cellsOf 9 = 1 by kernel_rfl, Nat.mul_one] at hdt
  obtain ⟨s, hs, hx, _⟩ := DataW.trod_string Tryd.underlying9 hdt
  have hc := World.var?_cell hg0 hv0 j
  have e1 : cs0[j]? = some (.string s) := by
    rw [← Array.getElem?_toList]
    have e := congrArg (fun l : List Value => l[0]?) hs
    simpa [List.getElem?_take, List.getElem?_drop] using e
  rw [hc, e1]
  have hd : d = .lit (.string s.data.toList) := (Prod.mk.inj hx).1
  subst hd
  have key : s.data.toList = (kw j).data.toList := by
    clear hc e1 hs hx hdt
    obtain rfl | rfl | rfl | rfl | rfl | rfl | rfl | rfl | rfl | rfl | rfl | rfl | rfl | rfl : j = 0 ∨ j = 1 ∨ j = 2 ∨ j = 3 ∨ j = 4 ∨ j = 5 ∨ j = 6 ∨ j = 7 ∨ j = 8 ∨ j = 9 ∨ j = 10 ∨ j = 11 ∨ j = 12 ∨ j = 13 := by omega
    all_goals
      simp only [List.getElem?_cons_zero, List.getElem?_cons_succ, Option.some.injEq, DataW.lit.injEq, Lit.string.injEq] at hdj
      rw [← hdj]
      rfl
  exact congrArg (fun x => some (Value.string x)) (ByteArray.ext (Array.toList_inj.1 key))
theorem own : ownKnob Tryd.prog.godebug = none := by kernel_rfl
theorem laidOut : laidOutB Tryd.prog = true := by kernel_rfl
set_option maxRecDepth 100000 in
theorem lifted (os : Os) (started : os.Started) (H : Type) (enc : TypeId × Value → H) :
    ReturnsInHanded {} Tryd.checked os 3 .any (fun w args => (Rows.fnExactLeafForSpec.pre enc Tryd.prog Tryd.f3 [] false w args ∧ laidMetH Tryd.prog laidL w) ∧ sizedMet enc Tryd.prog Tryd.f3 (OpenSpec.ofChange Rows.fnExactLeafForSpec) false w args) (Rows.fnExactLeafForSpec.post enc Tryd.prog Tryd.f3 false true false false) := by
  refine returnsInHanded_of_change_and (C := Tryd.checked) (X := fun w _ => laidMetH Tryd.prog laidL w) (fun _ _ _ hh h => h.of_heap hh) own started (by kernel_rfl) Tryd.func3
    (ChangeSpec.witness_shaped (enc := enc) (C := Tryd.checked) (os := os) (X := fun w _ => laidMetH Tryd.prog laidL w) false (World.laidAll Tryd.prog os laidL) #[.agg #[.string ByteArray.empty, .slice none 0 0, .slice none 0 0, .int .i64 0], .agg #[.int .i64 0, .int .i64 0, .int .i64 0, .int .i64 0, .int .i64 0, .int .i64 0]] 8 (World.laidAll_os _ _ _) (World.shaped_of_ZipB (by kernel_rfl) (by kernel_rfl)) (by kernel_rfl) (by kernel_rfl) (by kernel_rfl) (door_met os _)) ?_
  intro W base args ds gs before hval0 hW _ _ hL _
  have hval : ∀ (j : Nat) t v, Tryd.f3.params[j]? = some t → args[j]? = some v → Value.okWide Tryd.prog W .any base t v := hval0
  have hW' := hW
  obtain ⟨p, q, hA0, hV, rfl, hfz, hnd⟩ := hW
  have hA : DataW.TrodAll enc Tryd.prog W 0 (fun _ => true) true Tryd.f3.params.toList args.toList ds p := hA0
  rw [Tryd.params3] at hA hval
  obtain ⟨v0, vs0, d0, ds0, p0, q0, hargs, rfl, rfl, h0, r0⟩ := trodAll_cons hA
  obtain ⟨v1, vs1, d1, ds1, p1, q1, rfl, rfl, rfl, h1, r1⟩ := trodAll_cons r0
  obtain ⟨rfl, rfl, rfl⟩ := trodAll_nil r1
  obtain rfl : args = #[v0, v1] := by cases args; simp_all
  have hVk := hV
  obtain ⟨gv, tv, csv, fuv, dv, pv', rfl, hgv, htv, hvv, hdv, rfl⟩ := trodVars_one hV
  have k0 := h0
  have lt0 : ∀ x ∈ p0, x.block < W.heap.size := by obtain ⟨m, hm⟩ := k0; exact DataW.trod_lt m _ _ _ hm
  have k1 := h1
  have lt1 : ∀ x ∈ p1, x.block < W.heap.size := by obtain ⟨m, hm⟩ := k1; exact DataW.trod_lt m _ _ _ hm
  obtain ⟨cs0, rfl, hsz0⟩ := okWide_struct Tryd.underlying25 (hval 0 25 v0 rfl rfl)
  obtain ⟨c0_0, c0_1, c0_2, c0_3, rfl⟩ := arr4 (hsz0.trans (by kernel_rfl))
  have hf0 := h0
  obtain ⟨fu0, hf0⟩ := hf0
  simp only [Value.cells] at hf0
  obtain ⟨ma0_0, ya0_0, ta0_0⟩ := leaf Tryd.underlying25 hf0 0 _ rfl (by kernel_rfl) rfl
  obtain ⟨sa0_0, ea0_0, _, hsa0_0⟩ := DataW.trod_string Tryd.underlying9 ta0_0
  simp only [List.cons.injEq, and_true] at ea0_0
  subst ea0_0
  obtain ⟨ma0_1, ya0_1, ta0_1⟩ := leaf Tryd.underlying25 hf0 1 _ rfl (by kernel_rfl) rfl
  obtain ⟨Aa0_1, lena0_1, capa0_1, la0_1, ea0_1, hra0_1⟩ := rows_leaf (s := 8) Tryd.underlying22 (by kernel_rfl) (by decide) (flatClass enc W) ta0_1
  subst ea0_1
  obtain ⟨ma0_2, ya0_2, ta0_2⟩ := leaf Tryd.underlying25 hf0 2 _ rfl (by kernel_rfl) rfl
  obtain ⟨Aa0_2, lena0_2, capa0_2, la0_2, ea0_2, hra0_2⟩ := rows_leaf (s := 5) Tryd.underlying23 (by kernel_rfl) (by decide) (flatFilter enc W) ta0_2
  subst ea0_2
  obtain ⟨a0_3, ea0_3⟩ := leaf_int Tryd.underlying25 hf0 3 _ rfl Tryd.underlying3 (by kernel_rfl) rfl
  obtain ⟨ea0_3, wa0_3⟩ := ea0_3
  subst ea0_3
  obtain ⟨cs1, rfl, hsz1⟩ := okWide_struct Tryd.underlying27 (hval 1 27 v1 rfl rfl)
  obtain ⟨c1_0, c1_1, c1_2, c1_3, c1_4, c1_5, rfl⟩ := arr6 (hsz1.trans (by kernel_rfl))
  have hf1 := h1
  obtain ⟨fu1, hf1⟩ := hf1
  simp only [Value.cells] at hf1
  obtain ⟨a1_0, ea1_0⟩ := leaf_int Tryd.underlying27 hf1 0 _ rfl Tryd.underlying3 (by kernel_rfl) rfl
  obtain ⟨ea1_0, wa1_0⟩ := ea1_0
  subst ea1_0
  obtain ⟨a1_1, ea1_1⟩ := leaf_int Tryd.underlying27 hf1 1 _ rfl Tryd.underlying3 (by kernel_rfl) rfl
  obtain ⟨ea1_1, wa1_1⟩ := ea1_1
  subst ea1_1
  obtain ⟨a1_2, ea1_2⟩ := leaf_int Tryd.underlying27 hf1 2 _ rfl Tryd.underlying3 (by kernel_rfl) rfl
  obtain ⟨ea1_2, wa1_2⟩ := ea1_2
  subst ea1_2
  obtain ⟨a1_3, ea1_3⟩ := leaf_int Tryd.underlying27 hf1 3 _ rfl Tryd.underlying3 (by kernel_rfl) rfl
  obtain ⟨ea1_3, wa1_3⟩ := ea1_3
  subst ea1_3
  obtain ⟨a1_4, ea1_4⟩ := leaf_int Tryd.underlying27 hf1 4 _ rfl Tryd.underlying3 (by kernel_rfl) rfl
  obtain ⟨ea1_4, wa1_4⟩ := ea1_4
  subst ea1_4
  obtain ⟨a1_5, ea1_5⟩ := leaf_int Tryd.underlying27 hf1 5 _ rfl Tryd.underlying3 (by kernel_rfl) rfl
  obtain ⟨ea1_5, wa1_5⟩ := ea1_5
  subst ea1_5
  clear hA0 hval0
  refine (walk W sa0_0 hsa0_0 Aa0_1 lena0_1 capa0_1 la0_1 hra0_1 Aa0_2 lena0_2 capa0_2 la0_2 hra0_2 a0_3 (ibounds wa0_3) a1_0 (ibounds wa1_0) a1_1 (ibounds wa1_1) a1_2 (ibounds wa1_2) a1_3 (ibounds wa1_3) a1_4 (ibounds wa1_4) a1_5 (ibounds wa1_5) (tab hL)).mono fun e W' ⟨he, bel⟩ => ?_
  subst he
  exact ⟨_, rfl, _, _, _, [], _, _, hW', trodAll_mk1 (shut_bool Tryd.underlying4 _), (trodAll_cons_mk (Below.trod laidOut (by kernel_rfl) (of_decide_eq_true (by kernel_rfl)) k0 bel lt0) (trodAll_cons_mk (Below.trod laidOut (by kernel_rfl) (of_decide_eq_true (by kernel_rfl)) k1 bel lt1) trodAll_mk0)), Below.trodVars laidOut bel (by kernel_rfl) hVk, bel.frame _, fun h => by cases h⟩
theorem over : Rows.fnExactLeafForRow.holds Tryd.pinned (OpenSpec.ofChange Rows.fnExactLeafForSpec) :=
  OpenClaim.holds_of_wide 3 Tryd.f3 rfl rfl rfl rfl rfl rfl rfl ⟨rfl, rfl, rfl, rfl, rfl⟩ rfl rfl rfl rfl rfl (by kernel_rfl) Tryd.func3 (by kernel_rfl)
    (of_decide_eq_true (by kernel_rfl)) (by unfold Func.isWrapper; first | (rw [if_pos (by decide +kernel)]; kernel_rfl) | (rw [if_neg (by decide +kernel)]; exact ⟨rfl, rfl⟩))
    (fun os started H enc _ => lifted os started H enc)

/-- The given statement: the card. -/
theorem proved : Rows.FnExactLeafForCardSaid :=
  Claim7.holds_tied_plain_at .later [] [.data] true (true, "61591814ef0e6af5e8faf52f8c5d5c32b3e0d0172286deed4be7bf9754902aee") false
    over (fun _ h => by cases h) (by kernel_rfl) (fun _ h => by cases h) fnExactLeafFor_row_tie rfl ⟨rfl, rfl⟩ (by kernel_rfl) rfl
    (fun f fn hf hfn => by
      obtain rfl : f = 3 := Option.some.inj ((show Tryd.prog.funcNamed "loop.example/g00838/laws.FnExactLeafFor" = some 3 by kernel_rfl).symm.trans hf) |>.symm
      obtain rfl : fn = Tryd.f3 := (Option.some.inj (Tryd.func3.symm.trans hfn)).symm
      exact ⟨by kernel_rfl, fun j t ht => by
        rw [Tryd.params3] at ht
        have h3 : t = 25 ∨ t = 27 := by
          rcases j with _ | _ | j
          · exact .inl (by simpa using ht.symm)
          · exact .inr (by simpa using ht.symm)
          · simp at ht
        rcases h3 with rfl | rfl
        · exact (show Tryd.prog.wantsStandIn 25 = false by kernel_rfl)
        · exact (show Tryd.prog.wantsStandIn 27 = false by kernel_rfl)⟩)
    (by kernel_rfl)
#print axioms proved
end Go.Proofs.YtjajddhedahpnaaDoor.lawLeafFor

