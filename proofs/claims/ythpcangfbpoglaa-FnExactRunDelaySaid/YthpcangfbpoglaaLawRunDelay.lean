/- The statement FnExactRunDelaySaid: for every input the law FnExactRunDelay returns true, and its arguments read as before. No condition. -/
import Derived.Test.YthpcangfbpoglaaRdImpl
namespace Go.Proofs.Ythpcangfbpoglaa.lawRunDelay
open Go.ChangeShapes Go.WideShapes Go.ChangeAt Go.RowKit
set_option linter.unusedVariables false
set_option maxRecDepth 100000 in
set_option maxHeartbeats 4000000 in
theorem walk (w : World) (t : Int) (_ : IB t) (i : Int) (_ : IB i) (s : Int) (_ : IB s) (dr : Bool) (c : Int) (_ : IB c) (n : Int) (_ : IB n) (A : Option Addr) (m cap : Nat) (a : List Int) (h : IRow w A a ∧ a.length = m ∧ m ≤ 9223372036854775807 ∧ IBs a) (sv : Int) (_ : IB sv) :
    Calls Try.prog 3 #[.agg #[.int .i64 t, .int .i64 i, .int .i64 s, .bool dr, .int .i64 c, .int .i64 n], .slice A m cap, .int .i64 sv] w fun e w' => e = .returned (.bool true) ∧ Below w.heap.size w w' := by
  obtain ⟨hr, hl, hn, _⟩ := h
  have HL := Lib.hid hl
  have HR_a := Lib.hid hr
  have HSP := Lib.hid (fun (A : Option Addr) (cap : Nat) (w : World) (hr : IRow w A a) => specRunDelay_any A m cap a t i s dr c n sv w hl hr hn)
  have HIM := Lib.hid (fun (A : Option Addr) (cap : Nat) (w : World) (hr : IRow w A a) => implRunDelay_any A m cap a t i s dr c n sv w hl hr hn)
  have hlen := rdR_len a t i s dr c n sv
  rw [hl] at hlen
  clear hl hr
  generalize (rdR a t i s dr c n sv).1 = l at *
  generalize (rdR a t i s dr c n sv).2 = ok at *
  have HLL := Lib.hid hlen
  clear hlen
  by_cases hbig : m ≤ 1048576
  rotate_left
  · have hb' : decide ((1048576 : Int) < (m : Int)) = true := by simp; omega
    go_enter Try.func3, Try.ntmps3
    go_wp2_with fail
    go_ret
    exact ⟨rfl, (by repeat (first | (with_reducible exact b0 _) | (with_reducible refine ba ?_ _) | (with_reducible refine bd ?_ _) | (with_reducible refine Below.drew ?_) | (with_reducible refine bs ?_ (by first | exact Nat.le_refl _ | exact Nat.le_add_right _ _ | omega) _) | (with_reducible refine bt ?_ (by assumption))))⟩
  have hb' : decide ((1048576 : Int) < (m : Int)) = false := by simp; omega
  go_enter Try.func3, Try.ntmps3
  go_wp2_with fail
  refine (toDelay_any _ _ _ _ _ _ _).mono ?_
  rintro e w1 ⟨rfl, hb1⟩
  have z1 := hb1.size
  (try simp at z1)
  have HK_d_1 : Hid (Bk w1 (w.heap.size) 23 #[.int .i64 t, .int .i64 i, .int .i64 s, .bool dr, .int .i64 c, .int .i64 n]) := Lib.hid ((Bk.new_ (by simp) : Bk _ (w.heap.size) 23 #[.int .i64 t, .int .i64 i, .int .i64 s, .bool dr, .int .i64 c, .int .i64 n]).old hb1)
  have zb_d : w.heap.size < w1.heap.size := HK_d_1.out.lt
  have cb_d_0 : w1.cell? ⟨w.heap.size, 0, none⟩ = some (.int .i64 t) := HK_d_1.out.cell 0
  have cb_d_1 : w1.cell? ⟨w.heap.size, 1, none⟩ = some (.int .i64 i) := HK_d_1.out.cell 1
  have cb_d_2 : w1.cell? ⟨w.heap.size, 2, none⟩ = some (.int .i64 s) := HK_d_1.out.cell 2
  have cb_d_3 : w1.cell? ⟨w.heap.size, 3, none⟩ = some (.bool dr) := HK_d_1.out.cell 3
  have cb_d_4 : w1.cell? ⟨w.heap.size, 4, none⟩ = some (.int .i64 c) := HK_d_1.out.cell 4
  have cb_d_5 : w1.cell? ⟨w.heap.size, 5, none⟩ = some (.int .i64 n) := HK_d_1.out.cell 5
  have HB_1 := Lib.hid (bt (ba (b0 w) _) hb1)
  clear hb1
  go_wp2_with fail
  refine (toIntS_any A m cap a _ HL.out (HR_a.out.below HB_1.out) (by omega)).mono ?_
  rintro e w2 ⟨A_u, n_u, cap_u, rfl, ho_u, hb2⟩
  have HN_u := Lib.hid ho_u.len
  have HO_u_2 := Lib.hid ho_u
  clear ho_u
  have z2 := hb2.size
  (try simp at z2)
  have HK_d_2 : Hid (Bk w2 (w.heap.size) 23 #[.int .i64 t, .int .i64 i, .int .i64 s, .bool dr, .int .i64 c, .int .i64 n]) := Lib.hid (HK_d_1.out.old hb2)
  clear HK_d_1
  clear cb_d_0 cb_d_1 cb_d_2 cb_d_3 cb_d_4 cb_d_5 zb_d
  have zb_d : w.heap.size < w2.heap.size := HK_d_2.out.lt
  have cb_d_0 : w2.cell? ⟨w.heap.size, 0, none⟩ = some (.int .i64 t) := HK_d_2.out.cell 0
  have cb_d_1 : w2.cell? ⟨w.heap.size, 1, none⟩ = some (.int .i64 i) := HK_d_2.out.cell 1
  have cb_d_2 : w2.cell? ⟨w.heap.size, 2, none⟩ = some (.int .i64 s) := HK_d_2.out.cell 2
  have cb_d_3 : w2.cell? ⟨w.heap.size, 3, none⟩ = some (.bool dr) := HK_d_2.out.cell 3
  have cb_d_4 : w2.cell? ⟨w.heap.size, 4, none⟩ = some (.int .i64 c) := HK_d_2.out.cell 4
  have cb_d_5 : w2.cell? ⟨w.heap.size, 5, none⟩ = some (.int .i64 n) := HK_d_2.out.cell 5
  have HB_2 := Lib.hid (bt HB_1.out hb2)
  clear hb2
  obtain rfl : n_u = m := by have := HN_u.out; have := HL.out; omega
  go_wp2_with fail
  refine (HSP.out _ _ _ HO_u_2.out.row).mono ?_
  rintro e w3 ⟨A_v, n_v, cap_v, rfl, ho_v, hb3⟩
  have HN_v := Lib.hid ho_v.len
  have HO_v_3 := Lib.hid ho_v
  clear ho_v
  have z3 := hb3.size
  (try simp at z3)
  have HK_d_3 : Hid (Bk w3 (w.heap.size) 23 #[.int .i64 t, .int .i64 i, .int .i64 s, .bool dr, .int .i64 c, .int .i64 n]) := Lib.hid (HK_d_2.out.old hb3)
  clear HK_d_2
  clear cb_d_0 cb_d_1 cb_d_2 cb_d_3 cb_d_4 cb_d_5 zb_d
  have zb_d : w.heap.size < w3.heap.size := HK_d_3.out.lt
  have cb_d_0 : w3.cell? ⟨w.heap.size, 0, none⟩ = some (.int .i64 t) := HK_d_3.out.cell 0
  have cb_d_1 : w3.cell? ⟨w.heap.size, 1, none⟩ = some (.int .i64 i) := HK_d_3.out.cell 1
  have cb_d_2 : w3.cell? ⟨w.heap.size, 2, none⟩ = some (.int .i64 s) := HK_d_3.out.cell 2
  have cb_d_3 : w3.cell? ⟨w.heap.size, 3, none⟩ = some (.bool dr) := HK_d_3.out.cell 3
  have cb_d_4 : w3.cell? ⟨w.heap.size, 4, none⟩ = some (.int .i64 c) := HK_d_3.out.cell 4
  have cb_d_5 : w3.cell? ⟨w.heap.size, 5, none⟩ = some (.int .i64 n) := HK_d_3.out.cell 5
  have HO_u_3 := Lib.hid (HO_u_2.out.old hb3)
  clear HO_u_2
  have HB_3 := Lib.hid (bt HB_2.out hb3)
  clear hb3
  go_wp2_with fail
  refine (toIntS_any A _ cap a _ HL.out (HR_a.out.below HB_3.out) (by omega)).mono ?_
  rintro e w4 ⟨A_x, n_x, cap_x, rfl, ho_x, hb4⟩
  have HN_x := Lib.hid ho_x.len
  have HO_x_4 := Lib.hid ho_x
  clear ho_x
  have z4 := hb4.size
  (try simp at z4)
  have HK_d_4 : Hid (Bk w4 (w.heap.size) 23 #[.int .i64 t, .int .i64 i, .int .i64 s, .bool dr, .int .i64 c, .int .i64 n]) := Lib.hid (HK_d_3.out.old hb4)
  clear HK_d_3
  clear cb_d_0 cb_d_1 cb_d_2 cb_d_3 cb_d_4 cb_d_5 zb_d
  have zb_d : w.heap.size < w4.heap.size := HK_d_4.out.lt
  have cb_d_0 : w4.cell? ⟨w.heap.size, 0, none⟩ = some (.int .i64 t) := HK_d_4.out.cell 0
  have cb_d_1 : w4.cell? ⟨w.heap.size, 1, none⟩ = some (.int .i64 i) := HK_d_4.out.cell 1
  have cb_d_2 : w4.cell? ⟨w.heap.size, 2, none⟩ = some (.int .i64 s) := HK_d_4.out.cell 2
  have cb_d_3 : w4.cell? ⟨w.heap.size, 3, none⟩ = some (.bool dr) := HK_d_4.out.cell 3
  have cb_d_4 : w4.cell? ⟨w.heap.size, 4, none⟩ = some (.int .i64 c) := HK_d_4.out.cell 4
  have cb_d_5 : w4.cell? ⟨w.heap.size, 5, none⟩ = some (.int .i64 n) := HK_d_4.out.cell 5
  have HO_u_4 := Lib.hid (HO_u_3.out.old hb4)
  clear HO_u_3
  have HO_v_4 := Lib.hid (HO_v_3.out.old hb4)
  clear HO_v_3
  have HB_4 := Lib.hid (bt HB_3.out hb4)
  clear hb4
  obtain rfl : n_x = n_u := by have := HN_x.out; have := HL.out; omega
  go_wp2_with fail
  refine (toDelay_any _ _ _ _ _ _ _).mono ?_
  rintro e w5 ⟨rfl, hb5⟩
  have z5 := hb5.size
  (try simp at z5)
  have HK_d_5 : Hid (Bk w5 (w.heap.size) 23 #[.int .i64 t, .int .i64 i, .int .i64 s, .bool dr, .int .i64 c, .int .i64 n]) := Lib.hid (HK_d_4.out.old hb5)
  clear HK_d_4
  clear cb_d_0 cb_d_1 cb_d_2 cb_d_3 cb_d_4 cb_d_5 zb_d
  have zb_d : w.heap.size < w5.heap.size := HK_d_5.out.lt
  have cb_d_0 : w5.cell? ⟨w.heap.size, 0, none⟩ = some (.int .i64 t) := HK_d_5.out.cell 0
  have cb_d_1 : w5.cell? ⟨w.heap.size, 1, none⟩ = some (.int .i64 i) := HK_d_5.out.cell 1
  have cb_d_2 : w5.cell? ⟨w.heap.size, 2, none⟩ = some (.int .i64 s) := HK_d_5.out.cell 2
  have cb_d_3 : w5.cell? ⟨w.heap.size, 3, none⟩ = some (.bool dr) := HK_d_5.out.cell 3
  have cb_d_4 : w5.cell? ⟨w.heap.size, 4, none⟩ = some (.int .i64 c) := HK_d_5.out.cell 4
  have cb_d_5 : w5.cell? ⟨w.heap.size, 5, none⟩ = some (.int .i64 n) := HK_d_5.out.cell 5
  have HO_u_5 := Lib.hid (HO_u_4.out.old hb5)
  clear HO_u_4
  have HO_v_5 := Lib.hid (HO_v_4.out.old hb5)
  clear HO_v_4
  have HO_x_5 := Lib.hid (HO_x_4.out.old hb5)
  clear HO_x_4
  have HB_5 := Lib.hid (bt HB_4.out hb5)
  clear hb5
  go_wp2_with fail
  refine (HIM.out _ _ _ HO_x_5.out.row).mono ?_
  rintro e w6 ⟨A_g, n_g, cap_g, rfl, ho_g, hb6⟩
  have HN_g := Lib.hid ho_g.len
  have HO_g_6 := Lib.hid ho_g
  clear ho_g
  have z6 := hb6.size
  (try simp at z6)
  have HK_d_6 : Hid (Bk w6 (w.heap.size) 23 #[.int .i64 t, .int .i64 i, .int .i64 s, .bool dr, .int .i64 c, .int .i64 n]) := Lib.hid (HK_d_5.out.old hb6)
  clear HK_d_5
  clear cb_d_0 cb_d_1 cb_d_2 cb_d_3 cb_d_4 cb_d_5 zb_d
  have zb_d : w.heap.size < w6.heap.size := HK_d_6.out.lt
  have cb_d_0 : w6.cell? ⟨w.heap.size, 0, none⟩ = some (.int .i64 t) := HK_d_6.out.cell 0
  have cb_d_1 : w6.cell? ⟨w.heap.size, 1, none⟩ = some (.int .i64 i) := HK_d_6.out.cell 1
  have cb_d_2 : w6.cell? ⟨w.heap.size, 2, none⟩ = some (.int .i64 s) := HK_d_6.out.cell 2
  have cb_d_3 : w6.cell? ⟨w.heap.size, 3, none⟩ = some (.bool dr) := HK_d_6.out.cell 3
  have cb_d_4 : w6.cell? ⟨w.heap.size, 4, none⟩ = some (.int .i64 c) := HK_d_6.out.cell 4
  have cb_d_5 : w6.cell? ⟨w.heap.size, 5, none⟩ = some (.int .i64 n) := HK_d_6.out.cell 5
  have HO_u_6 := Lib.hid (HO_u_5.out.old hb6)
  clear HO_u_5
  have HO_v_6 := Lib.hid (HO_v_5.out.old hb6)
  clear HO_v_5
  have HO_x_6 := Lib.hid (HO_x_5.out.old hb6)
  clear HO_x_5
  have HB_6 := Lib.hid (bt HB_5.out hb6)
  clear hb6
  obtain rfl : n_g = n_v := by have := HN_g.out; have := HN_v.out; omega
  have HG := Lib.hid (show l.length = n_g by have := HN_v.out; omega)
  have hnv : n_g ≤ 1099511627776 := by have h1 := HG.out; have h2 := HLL.out; omega
  go_wp2_with fail
  refine (eqIntS_any _ _ _ _ _ l _ HG.out (by omega) HO_g_6.out.row HO_v_6.out.row).mono ?_
  rintro e w7 ⟨rfl, hb7⟩
  have z7 := hb7.size
  (try simp at z7)
  have HK_d_7 : Hid (Bk w7 (w.heap.size) 23 #[.int .i64 t, .int .i64 i, .int .i64 s, .bool dr, .int .i64 c, .int .i64 n]) := Lib.hid (HK_d_6.out.old hb7)
  clear HK_d_6
  clear cb_d_0 cb_d_1 cb_d_2 cb_d_3 cb_d_4 cb_d_5 zb_d
  have zb_d : w.heap.size < w7.heap.size := HK_d_7.out.lt
  have cb_d_0 : w7.cell? ⟨w.heap.size, 0, none⟩ = some (.int .i64 t) := HK_d_7.out.cell 0
  have cb_d_1 : w7.cell? ⟨w.heap.size, 1, none⟩ = some (.int .i64 i) := HK_d_7.out.cell 1
  have cb_d_2 : w7.cell? ⟨w.heap.size, 2, none⟩ = some (.int .i64 s) := HK_d_7.out.cell 2
  have cb_d_3 : w7.cell? ⟨w.heap.size, 3, none⟩ = some (.bool dr) := HK_d_7.out.cell 3
  have cb_d_4 : w7.cell? ⟨w.heap.size, 4, none⟩ = some (.int .i64 c) := HK_d_7.out.cell 4
  have cb_d_5 : w7.cell? ⟨w.heap.size, 5, none⟩ = some (.int .i64 n) := HK_d_7.out.cell 5
  have HO_u_7 := Lib.hid (HO_u_6.out.old hb7)
  clear HO_u_6
  have HO_v_7 := Lib.hid (HO_v_6.out.old hb7)
  clear HO_v_6
  have HO_x_7 := Lib.hid (HO_x_6.out.old hb7)
  clear HO_x_6
  have HO_g_7 := Lib.hid (HO_g_6.out.old hb7)
  clear HO_g_6
  have HB_7 := Lib.hid (bt HB_6.out hb7)
  clear hb7
  go_wp2_with fail
  refine (toIntS_any A _ cap a _ HL.out (HR_a.out.below HB_7.out) (by omega)).mono ?_
  rintro e w8 ⟨A_y, n_y, cap_y, rfl, ho_y, hb8⟩
  have HN_y := Lib.hid ho_y.len
  have HO_y_8 := Lib.hid ho_y
  clear ho_y
  have z8 := hb8.size
  (try simp at z8)
  have HK_d_8 : Hid (Bk w8 (w.heap.size) 23 #[.int .i64 t, .int .i64 i, .int .i64 s, .bool dr, .int .i64 c, .int .i64 n]) := Lib.hid (HK_d_7.out.old hb8)
  clear HK_d_7
  clear cb_d_0 cb_d_1 cb_d_2 cb_d_3 cb_d_4 cb_d_5 zb_d
  have zb_d : w.heap.size < w8.heap.size := HK_d_8.out.lt
  have cb_d_0 : w8.cell? ⟨w.heap.size, 0, none⟩ = some (.int .i64 t) := HK_d_8.out.cell 0
  have cb_d_1 : w8.cell? ⟨w.heap.size, 1, none⟩ = some (.int .i64 i) := HK_d_8.out.cell 1
  have cb_d_2 : w8.cell? ⟨w.heap.size, 2, none⟩ = some (.int .i64 s) := HK_d_8.out.cell 2
  have cb_d_3 : w8.cell? ⟨w.heap.size, 3, none⟩ = some (.bool dr) := HK_d_8.out.cell 3
  have cb_d_4 : w8.cell? ⟨w.heap.size, 4, none⟩ = some (.int .i64 c) := HK_d_8.out.cell 4
  have cb_d_5 : w8.cell? ⟨w.heap.size, 5, none⟩ = some (.int .i64 n) := HK_d_8.out.cell 5
  have HO_u_8 := Lib.hid (HO_u_7.out.old hb8)
  clear HO_u_7
  have HO_v_8 := Lib.hid (HO_v_7.out.old hb8)
  clear HO_v_7
  have HO_x_8 := Lib.hid (HO_x_7.out.old hb8)
  clear HO_x_7
  have HO_g_8 := Lib.hid (HO_g_7.out.old hb8)
  clear HO_g_7
  have HB_8 := Lib.hid (bt HB_7.out hb8)
  clear hb8
  obtain rfl : n_y = n_x := by have := HN_y.out; have := HL.out; omega
  go_wp2_with fail
  refine (eqIntS_any _ _ _ _ _ a _ HL.out (by omega) HO_x_8.out.row HO_y_8.out.row).mono ?_
  rintro e w9 ⟨rfl, hb9⟩
  have z9 := hb9.size
  (try simp at z9)
  have HK_d_9 : Hid (Bk w9 (w.heap.size) 23 #[.int .i64 t, .int .i64 i, .int .i64 s, .bool dr, .int .i64 c, .int .i64 n]) := Lib.hid (HK_d_8.out.old hb9)
  clear HK_d_8
  clear cb_d_0 cb_d_1 cb_d_2 cb_d_3 cb_d_4 cb_d_5 zb_d
  have zb_d : w.heap.size < w9.heap.size := HK_d_9.out.lt
  have cb_d_0 : w9.cell? ⟨w.heap.size, 0, none⟩ = some (.int .i64 t) := HK_d_9.out.cell 0
  have cb_d_1 : w9.cell? ⟨w.heap.size, 1, none⟩ = some (.int .i64 i) := HK_d_9.out.cell 1
  have cb_d_2 : w9.cell? ⟨w.heap.size, 2, none⟩ = some (.int .i64 s) := HK_d_9.out.cell 2
  have cb_d_3 : w9.cell? ⟨w.heap.size, 3, none⟩ = some (.bool dr) := HK_d_9.out.cell 3
  have cb_d_4 : w9.cell? ⟨w.heap.size, 4, none⟩ = some (.int .i64 c) := HK_d_9.out.cell 4
  have cb_d_5 : w9.cell? ⟨w.heap.size, 5, none⟩ = some (.int .i64 n) := HK_d_9.out.cell 5
  have HO_u_9 := Lib.hid (HO_u_8.out.old hb9)
  clear HO_u_8
  have HO_v_9 := Lib.hid (HO_v_8.out.old hb9)
  clear HO_v_8
  have HO_x_9 := Lib.hid (HO_x_8.out.old hb9)
  clear HO_x_8
  have HO_g_9 := Lib.hid (HO_g_8.out.old hb9)
  clear HO_g_8
  have HO_y_9 := Lib.hid (HO_y_8.out.old hb9)
  clear HO_y_8
  have HB_9 := Lib.hid (bt HB_8.out hb9)
  clear hb9
  go_wp2_with fail
  refine (markIntS_any _ _ _ a 1 _ _ _ HO_x_9.out (by omega) (by omega) (by omega)).mono ?_
  rintro e w10 ⟨rfl, ho10, hb10⟩
  have HO_x_10 := Lib.hid ho10
  clear ho10
  have z10 := hb10.size
  (try simp at z10)
  have HK_d_10 : Hid (Bk w10 (w.heap.size) 23 #[.int .i64 t, .int .i64 i, .int .i64 s, .bool dr, .int .i64 c, .int .i64 n]) := Lib.hid (HK_d_9.out.chg hb10 (by first | omega | (simp; done) | (simp; omega)))
  clear HK_d_9
  clear cb_d_0 cb_d_1 cb_d_2 cb_d_3 cb_d_4 cb_d_5 zb_d
  have zb_d : w.heap.size < w10.heap.size := HK_d_10.out.lt
  have cb_d_0 : w10.cell? ⟨w.heap.size, 0, none⟩ = some (.int .i64 t) := HK_d_10.out.cell 0
  have cb_d_1 : w10.cell? ⟨w.heap.size, 1, none⟩ = some (.int .i64 i) := HK_d_10.out.cell 1
  have cb_d_2 : w10.cell? ⟨w.heap.size, 2, none⟩ = some (.int .i64 s) := HK_d_10.out.cell 2
  have cb_d_3 : w10.cell? ⟨w.heap.size, 3, none⟩ = some (.bool dr) := HK_d_10.out.cell 3
  have cb_d_4 : w10.cell? ⟨w.heap.size, 4, none⟩ = some (.int .i64 c) := HK_d_10.out.cell 4
  have cb_d_5 : w10.cell? ⟨w.heap.size, 5, none⟩ = some (.int .i64 n) := HK_d_10.out.cell 5
  have HO_u_10 := Lib.hid (HO_u_9.out.chg hb10 (by first | omega | (simp; done) | (simp; omega)))
  clear HO_u_9
  have HO_v_10 := Lib.hid (HO_v_9.out.chg hb10 (by first | omega | (simp; done) | (simp; omega)))
  clear HO_v_9
  have HO_g_10 := Lib.hid (HO_g_9.out.chg hb10 (by first | omega | (simp; done) | (simp; omega)))
  clear HO_g_9
  have HO_y_10 := Lib.hid (HO_y_9.out.chg hb10 (by first | omega | (simp; done) | (simp; omega)))
  clear HO_y_9
  have HB_10 := Lib.hid (Chg.below HB_9.out hb10 (by first | omega | (simp; done) | (simp; omega)))
  clear hb10
  clear HO_x_9
  go_wp2_with fail
  refine (eqIntS_any _ _ _ _ _ l _ HG.out (by omega) HO_g_10.out.row HO_v_10.out.row).mono ?_
  rintro e w11 ⟨rfl, hb11⟩
  have z11 := hb11.size
  (try simp at z11)
  have HK_d_11 : Hid (Bk w11 (w.heap.size) 23 #[.int .i64 t, .int .i64 i, .int .i64 s, .bool dr, .int .i64 c, .int .i64 n]) := Lib.hid (HK_d_10.out.old hb11)
  clear HK_d_10
  clear cb_d_0 cb_d_1 cb_d_2 cb_d_3 cb_d_4 cb_d_5 zb_d
  have zb_d : w.heap.size < w11.heap.size := HK_d_11.out.lt
  have cb_d_0 : w11.cell? ⟨w.heap.size, 0, none⟩ = some (.int .i64 t) := HK_d_11.out.cell 0
  have cb_d_1 : w11.cell? ⟨w.heap.size, 1, none⟩ = some (.int .i64 i) := HK_d_11.out.cell 1
  have cb_d_2 : w11.cell? ⟨w.heap.size, 2, none⟩ = some (.int .i64 s) := HK_d_11.out.cell 2
  have cb_d_3 : w11.cell? ⟨w.heap.size, 3, none⟩ = some (.bool dr) := HK_d_11.out.cell 3
  have cb_d_4 : w11.cell? ⟨w.heap.size, 4, none⟩ = some (.int .i64 c) := HK_d_11.out.cell 4
  have cb_d_5 : w11.cell? ⟨w.heap.size, 5, none⟩ = some (.int .i64 n) := HK_d_11.out.cell 5
  have HO_u_11 := Lib.hid (HO_u_10.out.old hb11)
  clear HO_u_10
  have HO_v_11 := Lib.hid (HO_v_10.out.old hb11)
  clear HO_v_10
  have HO_x_11 := Lib.hid (HO_x_10.out.old hb11)
  clear HO_x_10
  have HO_g_11 := Lib.hid (HO_g_10.out.old hb11)
  clear HO_g_10
  have HO_y_11 := Lib.hid (HO_y_10.out.old hb11)
  clear HO_y_10
  have HB_11 := Lib.hid (bt HB_10.out hb11)
  clear hb11
  go_wp2_with fail
  refine (markIntS_any _ _ _ l 1 _ _ _ HO_g_11.out (by omega) (by omega) (by omega)).mono ?_
  rintro e w12 ⟨rfl, ho12, hb12⟩
  have HO_g_12 := Lib.hid ho12
  clear ho12
  have z12 := hb12.size
  (try simp at z12)
  have HK_d_12 : Hid (Bk w12 (w.heap.size) 23 #[.int .i64 t, .int .i64 i, .int .i64 s, .bool dr, .int .i64 c, .int .i64 n]) := Lib.hid (HK_d_11.out.chg hb12 (by first | omega | (simp; done) | (simp; omega)))
  clear HK_d_11
  clear cb_d_0 cb_d_1 cb_d_2 cb_d_3 cb_d_4 cb_d_5 zb_d
  have zb_d : w.heap.size < w12.heap.size := HK_d_12.out.lt
  have cb_d_0 : w12.cell? ⟨w.heap.size, 0, none⟩ = some (.int .i64 t) := HK_d_12.out.cell 0
  have cb_d_1 : w12.cell? ⟨w.heap.size, 1, none⟩ = some (.int .i64 i) := HK_d_12.out.cell 1
  have cb_d_2 : w12.cell? ⟨w.heap.size, 2, none⟩ = some (.int .i64 s) := HK_d_12.out.cell 2
  have cb_d_3 : w12.cell? ⟨w.heap.size, 3, none⟩ = some (.bool dr) := HK_d_12.out.cell 3
  have cb_d_4 : w12.cell? ⟨w.heap.size, 4, none⟩ = some (.int .i64 c) := HK_d_12.out.cell 4
  have cb_d_5 : w12.cell? ⟨w.heap.size, 5, none⟩ = some (.int .i64 n) := HK_d_12.out.cell 5
  have HO_u_12 := Lib.hid (HO_u_11.out.chg hb12 (by first | omega | (simp; done) | (simp; omega)))
  clear HO_u_11
  have HO_v_12 := Lib.hid (HO_v_11.out.chg hb12 (by first | omega | (simp; done) | (simp; omega)))
  clear HO_v_11
  have HO_x_12 := Lib.hid (HO_x_11.out.chg hb12 (by first | omega | (simp; done) | (simp; omega)))
  clear HO_x_11
  have HO_y_12 := Lib.hid (HO_y_11.out.chg hb12 (by first | omega | (simp; done) | (simp; omega)))
  clear HO_y_11
  have HB_12 := Lib.hid (Chg.below HB_11.out hb12 (by first | omega | (simp; done) | (simp; omega)))
  clear hb12
  clear HO_g_11
  go_wp2_with fail
  refine (heldIntS_any _ _ _ 1 _ HO_g_12.out.row (by omega) (by omega) (by omega)).mono ?_
  rintro e w13 ⟨rfl, hb13⟩
  have z13 := hb13.size
  (try simp at z13)
  have HK_d_13 : Hid (Bk w13 (w.heap.size) 23 #[.int .i64 t, .int .i64 i, .int .i64 s, .bool dr, .int .i64 c, .int .i64 n]) := Lib.hid (HK_d_12.out.old hb13)
  clear HK_d_12
  clear cb_d_0 cb_d_1 cb_d_2 cb_d_3 cb_d_4 cb_d_5 zb_d
  have zb_d : w.heap.size < w13.heap.size := HK_d_13.out.lt
  have cb_d_0 : w13.cell? ⟨w.heap.size, 0, none⟩ = some (.int .i64 t) := HK_d_13.out.cell 0
  have cb_d_1 : w13.cell? ⟨w.heap.size, 1, none⟩ = some (.int .i64 i) := HK_d_13.out.cell 1
  have cb_d_2 : w13.cell? ⟨w.heap.size, 2, none⟩ = some (.int .i64 s) := HK_d_13.out.cell 2
  have cb_d_3 : w13.cell? ⟨w.heap.size, 3, none⟩ = some (.bool dr) := HK_d_13.out.cell 3
  have cb_d_4 : w13.cell? ⟨w.heap.size, 4, none⟩ = some (.int .i64 c) := HK_d_13.out.cell 4
  have cb_d_5 : w13.cell? ⟨w.heap.size, 5, none⟩ = some (.int .i64 n) := HK_d_13.out.cell 5
  have HO_u_13 := Lib.hid (HO_u_12.out.old hb13)
  clear HO_u_12
  have HO_v_13 := Lib.hid (HO_v_12.out.old hb13)
  clear HO_v_12
  have HO_x_13 := Lib.hid (HO_x_12.out.old hb13)
  clear HO_x_12
  have HO_g_13 := Lib.hid (HO_g_12.out.old hb13)
  clear HO_g_12
  have HO_y_13 := Lib.hid (HO_y_12.out.old hb13)
  clear HO_y_12
  have HB_13 := Lib.hid (bt HB_12.out hb13)
  clear hb13
  go_wp2_with fail
  refine (toDelay_any _ _ _ _ _ _ _).mono ?_
  rintro e w14 ⟨rfl, hb14⟩
  have z14 := hb14.size
  (try simp at z14)
  have HK_d_14 : Hid (Bk w14 (w.heap.size) 23 #[.int .i64 t, .int .i64 i, .int .i64 s, .bool dr, .int .i64 c, .int .i64 n]) := Lib.hid (HK_d_13.out.old hb14)
  clear HK_d_13
  clear cb_d_0 cb_d_1 cb_d_2 cb_d_3 cb_d_4 cb_d_5 zb_d
  have zb_d : w.heap.size < w14.heap.size := HK_d_14.out.lt
  have cb_d_0 : w14.cell? ⟨w.heap.size, 0, none⟩ = some (.int .i64 t) := HK_d_14.out.cell 0
  have cb_d_1 : w14.cell? ⟨w.heap.size, 1, none⟩ = some (.int .i64 i) := HK_d_14.out.cell 1
  have cb_d_2 : w14.cell? ⟨w.heap.size, 2, none⟩ = some (.int .i64 s) := HK_d_14.out.cell 2
  have cb_d_3 : w14.cell? ⟨w.heap.size, 3, none⟩ = some (.bool dr) := HK_d_14.out.cell 3
  have cb_d_4 : w14.cell? ⟨w.heap.size, 4, none⟩ = some (.int .i64 c) := HK_d_14.out.cell 4
  have cb_d_5 : w14.cell? ⟨w.heap.size, 5, none⟩ = some (.int .i64 n) := HK_d_14.out.cell 5
  have HO_u_14 := Lib.hid (HO_u_13.out.old hb14)
  clear HO_u_13
  have HO_v_14 := Lib.hid (HO_v_13.out.old hb14)
  clear HO_v_13
  have HO_x_14 := Lib.hid (HO_x_13.out.old hb14)
  clear HO_x_13
  have HO_g_14 := Lib.hid (HO_g_13.out.old hb14)
  clear HO_g_13
  have HO_y_14 := Lib.hid (HO_y_13.out.old hb14)
  clear HO_y_13
  have HB_14 := Lib.hid (bt HB_13.out hb14)
  clear hb14
  go_wp2_with fail
  refine (toIntS_any A _ cap a _ HL.out (HR_a.out.below HB_14.out) (by omega)).mono ?_
  rintro e w15 ⟨A_z, n_z, cap_z, rfl, ho_z, hb15⟩
  have HN_z := Lib.hid ho_z.len
  have HO_z_15 := Lib.hid ho_z
  clear ho_z
  have z15 := hb15.size
  (try simp at z15)
  have HK_d_15 : Hid (Bk w15 (w.heap.size) 23 #[.int .i64 t, .int .i64 i, .int .i64 s, .bool dr, .int .i64 c, .int .i64 n]) := Lib.hid (HK_d_14.out.old hb15)
  clear HK_d_14
  clear cb_d_0 cb_d_1 cb_d_2 cb_d_3 cb_d_4 cb_d_5 zb_d
  have zb_d : w.heap.size < w15.heap.size := HK_d_15.out.lt
  have cb_d_0 : w15.cell? ⟨w.heap.size, 0, none⟩ = some (.int .i64 t) := HK_d_15.out.cell 0
  have cb_d_1 : w15.cell? ⟨w.heap.size, 1, none⟩ = some (.int .i64 i) := HK_d_15.out.cell 1
  have cb_d_2 : w15.cell? ⟨w.heap.size, 2, none⟩ = some (.int .i64 s) := HK_d_15.out.cell 2
  have cb_d_3 : w15.cell? ⟨w.heap.size, 3, none⟩ = some (.bool dr) := HK_d_15.out.cell 3
  have cb_d_4 : w15.cell? ⟨w.heap.size, 4, none⟩ = some (.int .i64 c) := HK_d_15.out.cell 4
  have cb_d_5 : w15.cell? ⟨w.heap.size, 5, none⟩ = some (.int .i64 n) := HK_d_15.out.cell 5
  have HO_u_15 := Lib.hid (HO_u_14.out.old hb15)
  clear HO_u_14
  have HO_v_15 := Lib.hid (HO_v_14.out.old hb15)
  clear HO_v_14
  have HO_x_15 := Lib.hid (HO_x_14.out.old hb15)
  clear HO_x_14
  have HO_g_15 := Lib.hid (HO_g_14.out.old hb15)
  clear HO_g_14
  have HO_y_15 := Lib.hid (HO_y_14.out.old hb15)
  clear HO_y_14
  have HB_15 := Lib.hid (bt HB_14.out hb15)
  clear hb15
  obtain rfl : n_z = n_y := by have := HN_z.out; have := HL.out; omega
  go_wp2_with fail
  refine (HIM.out _ _ _ HO_z_15.out.row).mono ?_
  rintro e w16 ⟨A_h, n_h, cap_h, rfl, ho_h, hb16⟩
  have HN_h := Lib.hid ho_h.len
  have HO_h_16 := Lib.hid ho_h
  clear ho_h
  have z16 := hb16.size
  (try simp at z16)
  have HK_d_16 : Hid (Bk w16 (w.heap.size) 23 #[.int .i64 t, .int .i64 i, .int .i64 s, .bool dr, .int .i64 c, .int .i64 n]) := Lib.hid (HK_d_15.out.old hb16)
  clear HK_d_15
  clear cb_d_0 cb_d_1 cb_d_2 cb_d_3 cb_d_4 cb_d_5 zb_d
  have zb_d : w.heap.size < w16.heap.size := HK_d_16.out.lt
  have cb_d_0 : w16.cell? ⟨w.heap.size, 0, none⟩ = some (.int .i64 t) := HK_d_16.out.cell 0
  have cb_d_1 : w16.cell? ⟨w.heap.size, 1, none⟩ = some (.int .i64 i) := HK_d_16.out.cell 1
  have cb_d_2 : w16.cell? ⟨w.heap.size, 2, none⟩ = some (.int .i64 s) := HK_d_16.out.cell 2
  have cb_d_3 : w16.cell? ⟨w.heap.size, 3, none⟩ = some (.bool dr) := HK_d_16.out.cell 3
  have cb_d_4 : w16.cell? ⟨w.heap.size, 4, none⟩ = some (.int .i64 c) := HK_d_16.out.cell 4
  have cb_d_5 : w16.cell? ⟨w.heap.size, 5, none⟩ = some (.int .i64 n) := HK_d_16.out.cell 5
  have HO_u_16 := Lib.hid (HO_u_15.out.old hb16)
  clear HO_u_15
  have HO_v_16 := Lib.hid (HO_v_15.out.old hb16)
  clear HO_v_15
  have HO_x_16 := Lib.hid (HO_x_15.out.old hb16)
  clear HO_x_15
  have HO_g_16 := Lib.hid (HO_g_15.out.old hb16)
  clear HO_g_15
  have HO_y_16 := Lib.hid (HO_y_15.out.old hb16)
  clear HO_y_15
  have HO_z_16 := Lib.hid (HO_z_15.out.old hb16)
  clear HO_z_15
  have HB_16 := Lib.hid (bt HB_15.out hb16)
  clear hb16
  obtain rfl : n_h = n_g := by have := HN_h.out; have := HG.out; omega
  go_wp2_with fail
  refine (eqIntS_any _ _ _ _ _ l _ HG.out (by omega) HO_h_16.out.row HO_v_16.out.row).mono ?_
  rintro e w17 ⟨rfl, hb17⟩
  have z17 := hb17.size
  (try simp at z17)
  have HK_d_17 : Hid (Bk w17 (w.heap.size) 23 #[.int .i64 t, .int .i64 i, .int .i64 s, .bool dr, .int .i64 c, .int .i64 n]) := Lib.hid (HK_d_16.out.old hb17)
  clear HK_d_16
  clear cb_d_0 cb_d_1 cb_d_2 cb_d_3 cb_d_4 cb_d_5 zb_d
  have zb_d : w.heap.size < w17.heap.size := HK_d_17.out.lt
  have cb_d_0 : w17.cell? ⟨w.heap.size, 0, none⟩ = some (.int .i64 t) := HK_d_17.out.cell 0
  have cb_d_1 : w17.cell? ⟨w.heap.size, 1, none⟩ = some (.int .i64 i) := HK_d_17.out.cell 1
  have cb_d_2 : w17.cell? ⟨w.heap.size, 2, none⟩ = some (.int .i64 s) := HK_d_17.out.cell 2
  have cb_d_3 : w17.cell? ⟨w.heap.size, 3, none⟩ = some (.bool dr) := HK_d_17.out.cell 3
  have cb_d_4 : w17.cell? ⟨w.heap.size, 4, none⟩ = some (.int .i64 c) := HK_d_17.out.cell 4
  have cb_d_5 : w17.cell? ⟨w.heap.size, 5, none⟩ = some (.int .i64 n) := HK_d_17.out.cell 5
  have HO_u_17 := Lib.hid (HO_u_16.out.old hb17)
  clear HO_u_16
  have HO_v_17 := Lib.hid (HO_v_16.out.old hb17)
  clear HO_v_16
  have HO_x_17 := Lib.hid (HO_x_16.out.old hb17)
  clear HO_x_16
  have HO_g_17 := Lib.hid (HO_g_16.out.old hb17)
  clear HO_g_16
  have HO_y_17 := Lib.hid (HO_y_16.out.old hb17)
  clear HO_y_16
  have HO_z_17 := Lib.hid (HO_z_16.out.old hb17)
  clear HO_z_16
  have HO_h_17 := Lib.hid (HO_h_16.out.old hb17)
  clear HO_h_16
  have HB_17 := Lib.hid (bt HB_16.out hb17)
  clear hb17
  go_wp2_with fail
  refine (heldIntS_any _ _ _ 1 _ HO_g_17.out.row (by omega) (by omega) (by omega)).mono ?_
  rintro e w18 ⟨rfl, hb18⟩
  have z18 := hb18.size
  (try simp at z18)
  have HK_d_18 : Hid (Bk w18 (w.heap.size) 23 #[.int .i64 t, .int .i64 i, .int .i64 s, .bool dr, .int .i64 c, .int .i64 n]) := Lib.hid (HK_d_17.out.old hb18)
  clear HK_d_17
  clear cb_d_0 cb_d_1 cb_d_2 cb_d_3 cb_d_4 cb_d_5 zb_d
  have zb_d : w.heap.size < w18.heap.size := HK_d_18.out.lt
  have cb_d_0 : w18.cell? ⟨w.heap.size, 0, none⟩ = some (.int .i64 t) := HK_d_18.out.cell 0
  have cb_d_1 : w18.cell? ⟨w.heap.size, 1, none⟩ = some (.int .i64 i) := HK_d_18.out.cell 1
  have cb_d_2 : w18.cell? ⟨w.heap.size, 2, none⟩ = some (.int .i64 s) := HK_d_18.out.cell 2
  have cb_d_3 : w18.cell? ⟨w.heap.size, 3, none⟩ = some (.bool dr) := HK_d_18.out.cell 3
  have cb_d_4 : w18.cell? ⟨w.heap.size, 4, none⟩ = some (.int .i64 c) := HK_d_18.out.cell 4
  have cb_d_5 : w18.cell? ⟨w.heap.size, 5, none⟩ = some (.int .i64 n) := HK_d_18.out.cell 5
  have HO_u_18 := Lib.hid (HO_u_17.out.old hb18)
  clear HO_u_17
  have HO_v_18 := Lib.hid (HO_v_17.out.old hb18)
  clear HO_v_17
  have HO_x_18 := Lib.hid (HO_x_17.out.old hb18)
  clear HO_x_17
  have HO_g_18 := Lib.hid (HO_g_17.out.old hb18)
  clear HO_g_17
  have HO_y_18 := Lib.hid (HO_y_17.out.old hb18)
  clear HO_y_17
  have HO_z_18 := Lib.hid (HO_z_17.out.old hb18)
  clear HO_z_17
  have HO_h_18 := Lib.hid (HO_h_17.out.old hb18)
  clear HO_h_17
  have HB_18 := Lib.hid (bt HB_17.out hb18)
  clear hb18
  go_wp2_with fail
  go_ret
  exact ⟨rfl, HB_18.out⟩
theorem own : ownKnob Try.prog.godebug = none := by kernel_rfl
theorem laidOut : laidOutB Try.prog = true := by kernel_rfl
set_option maxRecDepth 100000 in
theorem lifted (os : Os) (started : os.Started) (H : Type) (enc : TypeId × Value → H) :
    ReturnsInHanded {} Try.checked os 3 .any (Rows.fnExactRunDelaySpec.pre6 enc Try.prog Try.f3 Rows.fnExactRunDelayRow.domain false) (Rows.fnExactRunDelaySpec.post enc Try.prog Try.f3 false true false false) := by
  refine returnsInHanded_of_change (C := Try.checked) own started (by kernel_rfl) Try.func3
    (ChangeSpec.witness6 (enc := enc) (C := Try.checked) false ⟨#[], #[.agg #[.int .i64 0, .int .i64 0, .int .i64 0, .bool false, .int .i64 0, .int .i64 0], .slice none 0 0, .int .i64 0], []⟩ 8 (by kernel_rfl) (by kernel_rfl) (by kernel_rfl) (by kernel_rfl)) ?_
  intro W base args ds gs before hval0 hW hcnd _
  have hval : ∀ (j : Nat) t v, Try.f3.params[j]? = some t → args[j]? = some v → Value.okWide Try.prog W .any base t v := hval0
  have hW' := hW
  obtain ⟨p, q, hA0, hV, rfl, hfz, hnd⟩ := hW
  have hA : DataW.TrodAll enc Try.prog W 0 (fun _ => true) true Try.f3.params.toList args.toList ds p := hA0
  rw [Try.params3] at hA hval
  obtain ⟨v0, vs0, d0, ds0, p0, q0, hargs, rfl, rfl, h0, r0⟩ := trodAll_cons hA
  obtain ⟨v1, vs1, d1, ds1, p1, q1, rfl, rfl, rfl, h1, r1⟩ := trodAll_cons r0
  obtain ⟨v2, vs2, d2, ds2, p2, q2, rfl, rfl, rfl, h2, r2⟩ := trodAll_cons r1
  obtain ⟨rfl, rfl, rfl⟩ := trodAll_nil r2
  obtain rfl : args = #[v0, v1, v2] := by cases args; simp_all
  obtain ⟨rfl, rfl⟩ := trodVars_none hV
  have k0 := h0
  have lt0 : ∀ x ∈ p0, x.block < W.heap.size := by obtain ⟨m, hm⟩ := k0; exact DataW.trod_lt m _ _ _ hm
  have k1 := h1
  have lt1 : ∀ x ∈ p1, x.block < W.heap.size := by obtain ⟨m, hm⟩ := k1; exact DataW.trod_lt m _ _ _ hm
  have k2 := h2
  have lt2 : ∀ x ∈ p2, x.block < W.heap.size := by obtain ⟨m, hm⟩ := k2; exact DataW.trod_lt m _ _ _ hm
  obtain ⟨cs0, rfl, hsz0⟩ := okWide_struct Try.underlying23 (hval 0 23 v0 rfl rfl)
  obtain ⟨c0_0, c0_1, c0_2, c0_3, c0_4, c0_5, rfl⟩ := arr6 (hsz0.trans (by kernel_rfl))
  have hf0 := h0
  obtain ⟨fu0, hf0⟩ := hf0
  simp only [Value.cells] at hf0
  obtain ⟨a0_0, ea0_0⟩ := leaf_int Try.underlying23 hf0 0 _ rfl Try.underlying3 (by kernel_rfl) rfl
  obtain ⟨ea0_0, wa0_0⟩ := ea0_0
  subst ea0_0
  obtain ⟨a0_1, ea0_1⟩ := leaf_int Try.underlying23 hf0 1 _ rfl Try.underlying3 (by kernel_rfl) rfl
  obtain ⟨ea0_1, wa0_1⟩ := ea0_1
  subst ea0_1
  obtain ⟨a0_2, ea0_2⟩ := leaf_int Try.underlying23 hf0 2 _ rfl Try.underlying3 (by kernel_rfl) rfl
  obtain ⟨ea0_2, wa0_2⟩ := ea0_2
  subst ea0_2
  obtain ⟨a0_3, ea0_3⟩ := leaf_bool Try.underlying23 hf0 3 _ rfl Try.underlying4 (by kernel_rfl) rfl
  have wa0_3 := trivial
  subst ea0_3
  obtain ⟨a0_4, ea0_4⟩ := leaf_int Try.underlying23 hf0 4 _ rfl Try.underlying3 (by kernel_rfl) rfl
  obtain ⟨ea0_4, wa0_4⟩ := ea0_4
  subst ea0_4
  obtain ⟨a0_5, ea0_5⟩ := leaf_int Try.underlying23 hf0 5 _ rfl Try.underlying3 (by kernel_rfl) rfl
  obtain ⟨ea0_5, wa0_5⟩ := ea0_5
  subst ea0_5
  obtain ⟨A1, len1, cap1, rfl⟩ := okWide_slice Try.underlying24 (hval 1 24 v1 rfl rfl)
  obtain ⟨l1, hr1⟩ := ints_row Try.underlying24 Try.underlying3 (by kernel_rfl) h1
  obtain ⟨a2, rfl, rfl, rfl, wf2⟩ := open_int Try.underlying3 (hval 2 3 v2 rfl rfl) h2
  clear hA0 hval0
  refine (walk W a0_0 (ibounds wa0_0) a0_1 (ibounds wa0_1) a0_2 (ibounds wa0_2) a0_3 a0_4 (ibounds wa0_4) a0_5 (ibounds wa0_5) A1 len1 cap1 l1 hr1 a2 (ibounds wf2)).mono fun e W' ⟨he, bel⟩ => ?_
  subst he
  exact ⟨_, rfl, _, _, _, [], _, [], hW', trodAll_mk1 (shut_bool Try.underlying4 _), (trodAll_cons_mk (Below.trod laidOut (by kernel_rfl) (of_decide_eq_true (by kernel_rfl)) k0 bel lt0) (trodAll_cons_mk (Below.trod laidOut (by kernel_rfl) (of_decide_eq_true (by kernel_rfl)) k1 bel lt1) (trodAll_cons_mk (Below.trod laidOut (by kernel_rfl) (of_decide_eq_true (by kernel_rfl)) k2 bel lt2) trodAll_mk0))), rfl, bel.frame _, fun h => by cases h⟩
theorem over : Rows.fnExactRunDelayRow.holds Try.pinned (OpenSpec.ofChange Rows.fnExactRunDelaySpec) :=
  OpenClaim.holds_of_wide 3 Try.f3 rfl rfl rfl rfl rfl rfl rfl ⟨rfl, rfl, rfl, rfl, rfl⟩ rfl rfl rfl rfl rfl (by kernel_rfl) Try.func3 (by kernel_rfl)
    (of_decide_eq_true (by kernel_rfl)) (by unfold Func.isWrapper; first | (rw [if_pos (by decide +kernel)]; kernel_rfl) | (rw [if_neg (by decide +kernel)]; exact ⟨rfl, rfl⟩))
    (fun os started H enc _ => lifted os started H enc)
/-- The given statement. -/
theorem proved : Rows.FnExactRunDelaySaid := over
#print axioms proved
end Go.Proofs.Ythpcangfbpoglaa.lawRunDelay
