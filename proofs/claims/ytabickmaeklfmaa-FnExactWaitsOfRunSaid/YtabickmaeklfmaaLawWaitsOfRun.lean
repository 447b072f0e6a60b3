/- The statement FnExactWaitsOfRunSaid: for every input the law FnExactWaitsOfRun returns true, and its arguments read as before. No condition. -/
import Derived.Test.YtabickmaeklfmaaWaits
namespace Go.Proofs.Ytabickmaeklfmaa.lawWaitsOfRun
open Go.ChangeShapes Go.WideShapes Go.ChangeAt Go.RowKit
set_option linter.unusedVariables false
theorem woR_len (a l : List Int) : (woR a l).1.length ≤ l.length := by
  unfold woR
  split
  · simp [waits]
  · simp
theorem walk (w : World) (A : Option Addr) (n cap : Nat) (a : List Int) (h : IRow w A a ∧ a.length = n ∧ n ≤ 9223372036854775807 ∧ IBs a) (B : Option Addr) (m cap' : Nat) (l : List Int) (h' : IRow w B l ∧ l.length = m ∧ m ≤ 9223372036854775807 ∧ IBs l) :
    Calls Try.prog 9 #[.slice A n cap, .slice B m cap'] w fun e w' => e = .returned (.bool true) ∧ Below w.heap.size w w' := by
  obtain ⟨hr, hl, hn, _⟩ := h
  obtain ⟨hr', hl', hm, hib⟩ := h'
  have HA := Lib.hid hl
  have HL := Lib.hid hl'
  have HR_a := Lib.hid hr
  have HR_b := Lib.hid hr'
  have HI := Lib.hid hib
  have hlen := woR_len a l
  clear hl hr hl' hr' hib
  by_cases hbig : n ≤ 1048576
  rotate_left
  · go_enter Try.func9, Try.ntmps9
    go_wp2_with fail
    go_ret
    exact ⟨rfl, (by repeat (first | (with_reducible exact b0 _) | (with_reducible refine ba ?_ _) | (with_reducible refine bd ?_ _) | (with_reducible refine Below.drew ?_) | (with_reducible refine bs ?_ (by first | exact Nat.le_refl _ | exact Nat.le_add_right _ _ | omega) _) | (with_reducible refine bt ?_ (by assumption))))⟩
  by_cases hbig' : m ≤ 1048576
  rotate_left
  · go_enter Try.func9, Try.ntmps9
    go_wp2_with fail
    go_ret
    exact ⟨rfl, (by repeat (first | (with_reducible exact b0 _) | (with_reducible refine ba ?_ _) | (with_reducible refine bd ?_ _) | (with_reducible refine Below.drew ?_) | (with_reducible refine bs ?_ (by first | exact Nat.le_refl _ | exact Nat.le_add_right _ _ | omega) _) | (with_reducible refine bt ?_ (by assumption))))⟩
  go_enter Try.func9, Try.ntmps9
  go_wp2_with fail
  refine (toIntS_any A n cap a _ HA.out (HR_a.out.below (b0 w)) (by omega)).mono ?_
  rintro e w1 ⟨A_s, n_s, cap_s, rfl, ho1, hb1⟩
  have HN_s := Lib.hid ho1.len
  have HO_s_1 := Lib.hid ho1
  clear ho1
  have z1 := hb1.size
  (try simp at z1)
  have HB_1 := Lib.hid (bt (b0 w) hb1)
  obtain rfl : n_s = n := by have := HN_s.out; have := HA.out; omega
  go_wp2_with fail
  refine (toIntS_any B m cap' l _ HL.out (HR_b.out.below HB_1.out) (by omega)).mono ?_
  rintro e w2 ⟨A_t, n_t, cap_t, rfl, ho2, hb2⟩
  have HN_t := Lib.hid ho2.len
  have HO_t_2 := Lib.hid ho2
  clear ho2
  have z2 := hb2.size
  (try simp at z2)
  have HO_s_2 := Lib.hid (HO_s_1.out.below hb2 (by omega))
  clear HO_s_1
  have HB_2 := Lib.hid (bt HB_1.out hb2)
  obtain rfl : n_t = m := by have := HN_t.out; have := HL.out; omega
  go_wp2_with fail
  refine (specWaitsOfRun_any _ _ _ _ _ _ a l _ HA.out HL.out HO_s_2.out.row HO_t_2.out.row (by omega) (by omega) HI.out).mono ?_
  rintro e w3 ⟨A_v, n_v, cap_v, rfl, ho3, hb3⟩
  have HN_v := Lib.hid ho3.len
  have HO_v_3 := Lib.hid ho3
  clear ho3
  have z3 := hb3.size
  (try simp at z3)
  have HO_s_3 := Lib.hid (HO_s_2.out.below hb3 (by omega))
  clear HO_s_2
  have HO_t_3 := Lib.hid (HO_t_2.out.below hb3 (by omega))
  clear HO_t_2
  have HB_3 := Lib.hid (bt HB_2.out hb3)
  go_wp2_with fail
  refine (toIntS_any A _ cap a _ HA.out (HR_a.out.below HB_3.out) (by omega)).mono ?_
  rintro e w4 ⟨A_x, n_x, cap_x, rfl, ho4, hb4⟩
  have HN_x := Lib.hid ho4.len
  have HO_x_4 := Lib.hid ho4
  clear ho4
  have z4 := hb4.size
  (try simp at z4)
  have HO_s_4 := Lib.hid (HO_s_3.out.below hb4 (by omega))
  clear HO_s_3
  have HO_t_4 := Lib.hid (HO_t_3.out.below hb4 (by omega))
  clear HO_t_3
  have HO_v_4 := Lib.hid (HO_v_3.out.below hb4 (by omega))
  clear HO_v_3
  have HB_4 := Lib.hid (bt HB_3.out hb4)
  obtain rfl : n_x = n_s := by have := HN_x.out; have := HA.out; omega
  go_wp2_with fail
  refine (toIntS_any B _ cap' l _ HL.out (HR_b.out.below HB_4.out) (by omega)).mono ?_
  rintro e w5 ⟨A_y, n_y, cap_y, rfl, ho5, hb5⟩
  have HN_y := Lib.hid ho5.len
  have HO_y_5 := Lib.hid ho5
  clear ho5
  have z5 := hb5.size
  (try simp at z5)
  have HO_s_5 := Lib.hid (HO_s_4.out.below hb5 (by omega))
  clear HO_s_4
  have HO_t_5 := Lib.hid (HO_t_4.out.below hb5 (by omega))
  clear HO_t_4
  have HO_v_5 := Lib.hid (HO_v_4.out.below hb5 (by omega))
  clear HO_v_4
  have HO_x_5 := Lib.hid (HO_x_4.out.below hb5 (by omega))
  clear HO_x_4
  have HB_5 := Lib.hid (bt HB_4.out hb5)
  obtain rfl : n_y = n_t := by have := HN_y.out; have := HL.out; omega
  go_wp2_with fail
  refine (implWaitsOfRun_any _ _ _ _ _ _ a l _ HA.out HL.out HO_x_5.out.row HO_y_5.out.row (by omega) (by omega) HI.out).mono ?_
  rintro e w6 ⟨A_g, n_g, cap_g, rfl, ho6, hb6⟩
  have HN_g := Lib.hid ho6.len
  have HO_g_6 := Lib.hid ho6
  clear ho6
  have z6 := hb6.size
  (try simp at z6)
  have HO_s_6 := Lib.hid (HO_s_5.out.below hb6 (by omega))
  clear HO_s_5
  have HO_t_6 := Lib.hid (HO_t_5.out.below hb6 (by omega))
  clear HO_t_5
  have HO_v_6 := Lib.hid (HO_v_5.out.below hb6 (by omega))
  clear HO_v_5
  have HO_x_6 := Lib.hid (HO_x_5.out.below hb6 (by omega))
  clear HO_x_5
  have HO_y_6 := Lib.hid (HO_y_5.out.below hb6 (by omega))
  clear HO_y_5
  have HB_6 := Lib.hid (bt HB_5.out hb6)
  obtain rfl : n_g = n_v := by have := HN_g.out; have := HN_v.out; omega
  have HG := Lib.hid (show (woR a l).1.length = n_g by have := HN_v.out; omega)
  have hnv : n_g ≤ 1099511627776 := by have h1 := HG.out; have h2 := HL.out; omega
  go_wp2_with fail
  refine (eqIntS_any _ _ _ _ _ (woR a l).1 _ HG.out (by omega) HO_g_6.out.row HO_v_6.out.row).mono ?_
  rintro e w7 ⟨rfl, hb7⟩
  have z7 := hb7.size
  (try simp at z7)
  have HO_s_7 := Lib.hid (HO_s_6.out.below hb7 (by omega))
  clear HO_s_6
  have HO_t_7 := Lib.hid (HO_t_6.out.below hb7 (by omega))
  clear HO_t_6
  have HO_v_7 := Lib.hid (HO_v_6.out.below hb7 (by omega))
  clear HO_v_6
  have HO_x_7 := Lib.hid (HO_x_6.out.below hb7 (by omega))
  clear HO_x_6
  have HO_y_7 := Lib.hid (HO_y_6.out.below hb7 (by omega))
  clear HO_y_6
  have HO_g_7 := Lib.hid (HO_g_6.out.below hb7 (by omega))
  clear HO_g_6
  have HB_7 := Lib.hid (bt HB_6.out hb7)
  go_wp2_with fail
  refine (toIntS_any A _ cap a _ HA.out (HR_a.out.below HB_7.out) (by omega)).mono ?_
  rintro e w8 ⟨A_p, n_p, cap_p, rfl, ho8, hb8⟩
  have HN_p := Lib.hid ho8.len
  have HO_p_8 := Lib.hid ho8
  clear ho8
  have z8 := hb8.size
  (try simp at z8)
  have HO_s_8 := Lib.hid (HO_s_7.out.below hb8 (by omega))
  clear HO_s_7
  have HO_t_8 := Lib.hid (HO_t_7.out.below hb8 (by omega))
  clear HO_t_7
  have HO_v_8 := Lib.hid (HO_v_7.out.below hb8 (by omega))
  clear HO_v_7
  have HO_x_8 := Lib.hid (HO_x_7.out.below hb8 (by omega))
  clear HO_x_7
  have HO_y_8 := Lib.hid (HO_y_7.out.below hb8 (by omega))
  clear HO_y_7
  have HO_g_8 := Lib.hid (HO_g_7.out.below hb8 (by omega))
  clear HO_g_7
  have HB_8 := Lib.hid (bt HB_7.out hb8)
  obtain rfl : n_p = n_x := by have := HN_p.out; have := HA.out; omega
  go_wp2_with fail
  refine (eqIntS_any _ _ _ _ _ a _ HA.out (by omega) HO_x_8.out.row HO_p_8.out.row).mono ?_
  rintro e w9 ⟨rfl, hb9⟩
  have z9 := hb9.size
  (try simp at z9)
  have HO_s_9 := Lib.hid (HO_s_8.out.below hb9 (by omega))
  clear HO_s_8
  have HO_t_9 := Lib.hid (HO_t_8.out.below hb9 (by omega))
  clear HO_t_8
  have HO_v_9 := Lib.hid (HO_v_8.out.below hb9 (by omega))
  clear HO_v_8
  have HO_x_9 := Lib.hid (HO_x_8.out.below hb9 (by omega))
  clear HO_x_8
  have HO_y_9 := Lib.hid (HO_y_8.out.below hb9 (by omega))
  clear HO_y_8
  have HO_g_9 := Lib.hid (HO_g_8.out.below hb9 (by omega))
  clear HO_g_8
  have HO_p_9 := Lib.hid (HO_p_8.out.below hb9 (by omega))
  clear HO_p_8
  have HB_9 := Lib.hid (bt HB_8.out hb9)
  go_wp2_with fail
  refine (toIntS_any B _ cap' l _ HL.out (HR_b.out.below HB_9.out) (by omega)).mono ?_
  rintro e w10 ⟨A_q, n_q, cap_q, rfl, ho10, hb10⟩
  have HN_q := Lib.hid ho10.len
  have HO_q_10 := Lib.hid ho10
  clear ho10
  have z10 := hb10.size
  (try simp at z10)
  have HO_s_10 := Lib.hid (HO_s_9.out.below hb10 (by omega))
  clear HO_s_9
  have HO_t_10 := Lib.hid (HO_t_9.out.below hb10 (by omega))
  clear HO_t_9
  have HO_v_10 := Lib.hid (HO_v_9.out.below hb10 (by omega))
  clear HO_v_9
  have HO_x_10 := Lib.hid (HO_x_9.out.below hb10 (by omega))
  clear HO_x_9
  have HO_y_10 := Lib.hid (HO_y_9.out.below hb10 (by omega))
  clear HO_y_9
  have HO_g_10 := Lib.hid (HO_g_9.out.below hb10 (by omega))
  clear HO_g_9
  have HO_p_10 := Lib.hid (HO_p_9.out.below hb10 (by omega))
  clear HO_p_9
  have HB_10 := Lib.hid (bt HB_9.out hb10)
  obtain rfl : n_q = n_y := by have := HN_q.out; have := HL.out; omega
  go_wp2_with fail
  refine (eqIntS_any _ _ _ _ _ l _ HL.out (by omega) HO_y_10.out.row HO_q_10.out.row).mono ?_
  rintro e w11 ⟨rfl, hb11⟩
  have z11 := hb11.size
  (try simp at z11)
  have HO_s_11 := Lib.hid (HO_s_10.out.below hb11 (by omega))
  clear HO_s_10
  have HO_t_11 := Lib.hid (HO_t_10.out.below hb11 (by omega))
  clear HO_t_10
  have HO_v_11 := Lib.hid (HO_v_10.out.below hb11 (by omega))
  clear HO_v_10
  have HO_x_11 := Lib.hid (HO_x_10.out.below hb11 (by omega))
  clear HO_x_10
  have HO_y_11 := Lib.hid (HO_y_10.out.below hb11 (by omega))
  clear HO_y_10
  have HO_g_11 := Lib.hid (HO_g_10.out.below hb11 (by omega))
  clear HO_g_10
  have HO_p_11 := Lib.hid (HO_p_10.out.below hb11 (by omega))
  clear HO_p_10
  have HO_q_11 := Lib.hid (HO_q_10.out.below hb11 (by omega))
  clear HO_q_10
  have HB_11 := Lib.hid (bt HB_10.out hb11)
  go_wp2_with fail
  refine (markIntS_any _ _ _ a 1 _ _ _ HO_x_11.out (by omega) (by omega) (by omega)).mono ?_
  rintro e w12 ⟨rfl, ho12, hb12⟩
  have HO_x_12 := Lib.hid ho12
  clear ho12 HO_x_11
  have z12 := hb12.size
  (try simp at z12)
  have HO_s_12 := Lib.hid (HO_s_11.out.chg hb12 (by omega))
  clear HO_s_11
  have HO_t_12 := Lib.hid (HO_t_11.out.chg hb12 (by omega))
  clear HO_t_11
  have HO_v_12 := Lib.hid (HO_v_11.out.chg hb12 (by omega))
  clear HO_v_11
  have HO_y_12 := Lib.hid (HO_y_11.out.chg hb12 (by omega))
  clear HO_y_11
  have HO_g_12 := Lib.hid (HO_g_11.out.chg hb12 (by omega))
  clear HO_g_11
  have HO_p_12 := Lib.hid (HO_p_11.out.chg hb12 (by omega))
  clear HO_p_11
  have HO_q_12 := Lib.hid (HO_q_11.out.chg hb12 (by omega))
  clear HO_q_11
  have HB_12 := Lib.hid (Chg.below HB_11.out hb12 (by omega))
  go_wp2_with fail
  refine (markIntS_any _ _ _ l _ _ _ _ HO_y_12.out (by omega) (by omega) (by omega)).mono ?_
  rintro e w13 ⟨rfl, ho13, hb13⟩
  have HO_y_13 := Lib.hid ho13
  clear ho13 HO_y_12
  have z13 := hb13.size
  (try simp at z13)
  have HO_s_13 := Lib.hid (HO_s_12.out.chg hb13 (by omega))
  clear HO_s_12
  have HO_t_13 := Lib.hid (HO_t_12.out.chg hb13 (by omega))
  clear HO_t_12
  have HO_v_13 := Lib.hid (HO_v_12.out.chg hb13 (by omega))
  clear HO_v_12
  have HO_x_13 := Lib.hid (HO_x_12.out.chg hb13 (by omega))
  clear HO_x_12
  have HO_g_13 := Lib.hid (HO_g_12.out.chg hb13 (by omega))
  clear HO_g_12
  have HO_p_13 := Lib.hid (HO_p_12.out.chg hb13 (by omega))
  clear HO_p_12
  have HO_q_13 := Lib.hid (HO_q_12.out.chg hb13 (by omega))
  clear HO_q_12
  have HB_13 := Lib.hid (Chg.below HB_12.out hb13 (by omega))
  go_wp2_with fail
  refine (eqIntS_any _ _ _ _ _ (woR a l).1 _ HG.out (by omega) HO_g_13.out.row HO_v_13.out.row).mono ?_
  rintro e w14 ⟨rfl, hb14⟩
  have z14 := hb14.size
  (try simp at z14)
  have HO_s_14 := Lib.hid (HO_s_13.out.below hb14 (by omega))
  clear HO_s_13
  have HO_t_14 := Lib.hid (HO_t_13.out.below hb14 (by omega))
  clear HO_t_13
  have HO_v_14 := Lib.hid (HO_v_13.out.below hb14 (by omega))
  clear HO_v_13
  have HO_x_14 := Lib.hid (HO_x_13.out.below hb14 (by omega))
  clear HO_x_13
  have HO_y_14 := Lib.hid (HO_y_13.out.below hb14 (by omega))
  clear HO_y_13
  have HO_g_14 := Lib.hid (HO_g_13.out.below hb14 (by omega))
  clear HO_g_13
  have HO_p_14 := Lib.hid (HO_p_13.out.below hb14 (by omega))
  clear HO_p_13
  have HO_q_14 := Lib.hid (HO_q_13.out.below hb14 (by omega))
  clear HO_q_13
  have HB_14 := Lib.hid (bt HB_13.out hb14)
  go_wp2_with fail
  refine (markIntS_any _ _ _ (woR a l).1 1 _ _ _ HO_g_14.out (by omega) (by omega) (by omega)).mono ?_
  rintro e w15 ⟨rfl, ho15, hb15⟩
  have HO_g_15 := Lib.hid ho15
  clear ho15 HO_g_14
  have z15 := hb15.size
  (try simp at z15)
  have HO_s_15 := Lib.hid (HO_s_14.out.chg hb15 (by omega))
  clear HO_s_14
  have HO_t_15 := Lib.hid (HO_t_14.out.chg hb15 (by omega))
  clear HO_t_14
  have HO_v_15 := Lib.hid (HO_v_14.out.chg hb15 (by omega))
  clear HO_v_14
  have HO_x_15 := Lib.hid (HO_x_14.out.chg hb15 (by omega))
  clear HO_x_14
  have HO_y_15 := Lib.hid (HO_y_14.out.chg hb15 (by omega))
  clear HO_y_14
  have HO_p_15 := Lib.hid (HO_p_14.out.chg hb15 (by omega))
  clear HO_p_14
  have HO_q_15 := Lib.hid (HO_q_14.out.chg hb15 (by omega))
  clear HO_q_14
  have HB_15 := Lib.hid (Chg.below HB_14.out hb15 (by omega))
  go_wp2_with fail
  refine (heldIntS_any _ _ _ 1 _ HO_g_15.out.row (by omega) (by omega) (by omega)).mono ?_
  rintro e w16 ⟨rfl, hb16⟩
  have z16 := hb16.size
  (try simp at z16)
  have HO_s_16 := Lib.hid (HO_s_15.out.below hb16 (by omega))
  clear HO_s_15
  have HO_t_16 := Lib.hid (HO_t_15.out.below hb16 (by omega))
  clear HO_t_15
  have HO_v_16 := Lib.hid (HO_v_15.out.below hb16 (by omega))
  clear HO_v_15
  have HO_x_16 := Lib.hid (HO_x_15.out.below hb16 (by omega))
  clear HO_x_15
  have HO_y_16 := Lib.hid (HO_y_15.out.below hb16 (by omega))
  clear HO_y_15
  have HO_g_16 := Lib.hid (HO_g_15.out.below hb16 (by omega))
  clear HO_g_15
  have HO_p_16 := Lib.hid (HO_p_15.out.below hb16 (by omega))
  clear HO_p_15
  have HO_q_16 := Lib.hid (HO_q_15.out.below hb16 (by omega))
  clear HO_q_15
  have HB_16 := Lib.hid (bt HB_15.out hb16)
  go_wp2_with fail
  refine (toIntS_any A _ cap a _ HA.out (HR_a.out.below HB_16.out) (by omega)).mono ?_
  rintro e w17 ⟨A_u, n_u, cap_u, rfl, ho17, hb17⟩
  have HN_u := Lib.hid ho17.len
  have HO_u_17 := Lib.hid ho17
  clear ho17
  have z17 := hb17.size
  (try simp at z17)
  have HO_s_17 := Lib.hid (HO_s_16.out.below hb17 (by omega))
  clear HO_s_16
  have HO_t_17 := Lib.hid (HO_t_16.out.below hb17 (by omega))
  clear HO_t_16
  have HO_v_17 := Lib.hid (HO_v_16.out.below hb17 (by omega))
  clear HO_v_16
  have HO_x_17 := Lib.hid (HO_x_16.out.below hb17 (by omega))
  clear HO_x_16
  have HO_y_17 := Lib.hid (HO_y_16.out.below hb17 (by omega))
  clear HO_y_16
  have HO_g_17 := Lib.hid (HO_g_16.out.below hb17 (by omega))
  clear HO_g_16
  have HO_p_17 := Lib.hid (HO_p_16.out.below hb17 (by omega))
  clear HO_p_16
  have HO_q_17 := Lib.hid (HO_q_16.out.below hb17 (by omega))
  clear HO_q_16
  have HB_17 := Lib.hid (bt HB_16.out hb17)
  obtain rfl : n_u = n_p := by have := HN_u.out; have := HA.out; omega
  go_wp2_with fail
  refine (toIntS_any B _ cap' l _ HL.out (HR_b.out.below HB_17.out) (by omega)).mono ?_
  rintro e w18 ⟨A_o, n_o, cap_o, rfl, ho18, hb18⟩
  have HN_o := Lib.hid ho18.len
  have HO_o_18 := Lib.hid ho18
  clear ho18
  have z18 := hb18.size
  (try simp at z18)
  have HO_s_18 := Lib.hid (HO_s_17.out.below hb18 (by omega))
  clear HO_s_17
  have HO_t_18 := Lib.hid (HO_t_17.out.below hb18 (by omega))
  clear HO_t_17
  have HO_v_18 := Lib.hid (HO_v_17.out.below hb18 (by omega))
  clear HO_v_17
  have HO_x_18 := Lib.hid (HO_x_17.out.below hb18 (by omega))
  clear HO_x_17
  have HO_y_18 := Lib.hid (HO_y_17.out.below hb18 (by omega))
  clear HO_y_17
  have HO_g_18 := Lib.hid (HO_g_17.out.below hb18 (by omega))
  clear HO_g_17
  have HO_p_18 := Lib.hid (HO_p_17.out.below hb18 (by omega))
  clear HO_p_17
  have HO_q_18 := Lib.hid (HO_q_17.out.below hb18 (by omega))
  clear HO_q_17
  have HO_u_18 := Lib.hid (HO_u_17.out.below hb18 (by omega))
  clear HO_u_17
  have HB_18 := Lib.hid (bt HB_17.out hb18)
  obtain rfl : n_o = n_q := by have := HN_o.out; have := HL.out; omega
  go_wp2_with fail
  refine (implWaitsOfRun_any _ _ _ _ _ _ a l _ HA.out HL.out HO_u_18.out.row HO_o_18.out.row (by omega) (by omega) HI.out).mono ?_
  rintro e w19 ⟨A_h, n_h, cap_h, rfl, ho19, hb19⟩
  have HN_h := Lib.hid ho19.len
  have HO_h_19 := Lib.hid ho19
  clear ho19
  have z19 := hb19.size
  (try simp at z19)
  have HO_s_19 := Lib.hid (HO_s_18.out.below hb19 (by omega))
  clear HO_s_18
  have HO_t_19 := Lib.hid (HO_t_18.out.below hb19 (by omega))
  clear HO_t_18
  have HO_v_19 := Lib.hid (HO_v_18.out.below hb19 (by omega))
  clear HO_v_18
  have HO_x_19 := Lib.hid (HO_x_18.out.below hb19 (by omega))
  clear HO_x_18
  have HO_y_19 := Lib.hid (HO_y_18.out.below hb19 (by omega))
  clear HO_y_18
  have HO_g_19 := Lib.hid (HO_g_18.out.below hb19 (by omega))
  clear HO_g_18
  have HO_p_19 := Lib.hid (HO_p_18.out.below hb19 (by omega))
  clear HO_p_18
  have HO_q_19 := Lib.hid (HO_q_18.out.below hb19 (by omega))
  clear HO_q_18
  have HO_u_19 := Lib.hid (HO_u_18.out.below hb19 (by omega))
  clear HO_u_18
  have HO_o_19 := Lib.hid (HO_o_18.out.below hb19 (by omega))
  clear HO_o_18
  have HB_19 := Lib.hid (bt HB_18.out hb19)
  obtain rfl : n_h = n_g := by have := HN_h.out; have := HG.out; omega
  go_wp2_with fail
  refine (eqIntS_any _ _ _ _ _ (woR a l).1 _ HG.out (by omega) HO_h_19.out.row HO_v_19.out.row).mono ?_
  rintro e w20 ⟨rfl, hb20⟩
  have z20 := hb20.size
  (try simp at z20)
  have HO_s_20 := Lib.hid (HO_s_19.out.below hb20 (by omega))
  clear HO_s_19
  have HO_t_20 := Lib.hid (HO_t_19.out.below hb20 (by omega))
  clear HO_t_19
  have HO_v_20 := Lib.hid (HO_v_19.out.below hb20 (by omega))
  clear HO_v_19
  have HO_x_20 := Lib.hid (HO_x_19.out.below hb20 (by omega))
  clear HO_x_19
  have HO_y_20 := Lib.hid (HO_y_19.out.below hb20 (by omega))
  clear HO_y_19
  have HO_g_20 := Lib.hid (HO_g_19.out.below hb20 (by omega))
  clear HO_g_19
  have HO_p_20 := Lib.hid (HO_p_19.out.below hb20 (by omega))
  clear HO_p_19
  have HO_q_20 := Lib.hid (HO_q_19.out.below hb20 (by omega))
  clear HO_q_19
  have HO_u_20 := Lib.hid (HO_u_19.out.below hb20 (by omega))
  clear HO_u_19
  have HO_o_20 := Lib.hid (HO_o_19.out.below hb20 (by omega))
  clear HO_o_19
  have HO_h_20 := Lib.hid (HO_h_19.out.below hb20 (by omega))
  clear HO_h_19
  have HB_20 := Lib.hid (bt HB_19.out hb20)
  go_wp2_with fail
  refine (heldIntS_any _ _ _ 1 _ HO_g_20.out.row (by omega) (by omega) (by omega)).mono ?_
  rintro e w21 ⟨rfl, hb21⟩
  have z21 := hb21.size
  (try simp at z21)
  have HO_s_21 := Lib.hid (HO_s_20.out.below hb21 (by omega))
  clear HO_s_20
  have HO_t_21 := Lib.hid (HO_t_20.out.below hb21 (by omega))
  clear HO_t_20
  have HO_v_21 := Lib.hid (HO_v_20.out.below hb21 (by omega))
  clear HO_v_20
  have HO_x_21 := Lib.hid (HO_x_20.out.below hb21 (by omega))
  clear HO_x_20
  have HO_y_21 := Lib.hid (HO_y_20.out.below hb21 (by omega))
  clear HO_y_20
  have HO_g_21 := Lib.hid (HO_g_20.out.below hb21 (by omega))
  clear HO_g_20
  have HO_p_21 := Lib.hid (HO_p_20.out.below hb21 (by omega))
  clear HO_p_20
  have HO_q_21 := Lib.hid (HO_q_20.out.below hb21 (by omega))
  clear HO_q_20
  have HO_u_21 := Lib.hid (HO_u_20.out.below hb21 (by omega))
  clear HO_u_20
  have HO_o_21 := Lib.hid (HO_o_20.out.below hb21 (by omega))
  clear HO_o_20
  have HO_h_21 := Lib.hid (HO_h_20.out.below hb21 (by omega))
  clear HO_h_20
  have HB_21 := Lib.hid (bt HB_20.out hb21)
  go_wp2_with fail
  go_ret
  exact ⟨rfl, HB_21.out⟩
theorem own : ownKnob Try.prog.godebug = none := by kernel_rfl
theorem laidOut : laidOutB Try.prog = true := by kernel_rfl
set_option maxRecDepth 100000 in
theorem lifted (os : Os) (started : os.Started) (H : Type) (enc : TypeId × Value → H) :
    ReturnsInHanded {} Try.checked os 9 .any (Rows.fnExactWaitsOfRunSpec.pre6 enc Try.prog Try.f9 Rows.fnExactWaitsOfRunRow.domain false) (Rows.fnExactWaitsOfRunSpec.post enc Try.prog Try.f9 false true false false) := by
  refine returnsInHanded_of_change (C := Try.checked) own started (by kernel_rfl) Try.func9
    (ChangeSpec.witness6 (enc := enc) (C := Try.checked) false ⟨#[], #[.slice none 0 0, .slice none 0 0], []⟩ 8 (by kernel_rfl) (by kernel_rfl) (by kernel_rfl) (by kernel_rfl)) ?_
  intro W base args ds gs before hval0 hW hcnd _
  have hval : ∀ (j : Nat) t v, Try.f9.params[j]? = some t → args[j]? = some v → Value.okWide Try.prog W .any base t v := hval0
  have hW' := hW
  obtain ⟨p, q, hA0, hV, rfl, hfz, hnd⟩ := hW
  have hA : DataW.TrodAll enc Try.prog W 0 (fun _ => true) true Try.f9.params.toList args.toList ds p := hA0
  rw [Try.params9] at hA hval
  obtain ⟨v0, vs0, d0, ds0, p0, q0, hargs, rfl, rfl, h0, r0⟩ := trodAll_cons hA
  obtain ⟨v1, vs1, d1, ds1, p1, q1, rfl, rfl, rfl, h1, r1⟩ := trodAll_cons r0
  obtain ⟨rfl, rfl, rfl⟩ := trodAll_nil r1
  obtain rfl : args = #[v0, v1] := by cases args; simp_all
  obtain ⟨rfl, rfl⟩ := trodVars_none hV
  have k0 := h0
  have lt0 : ∀ x ∈ p0, x.block < W.heap.size := by obtain ⟨m, hm⟩ := k0; exact DataW.trod_lt m _ _ _ hm
  have k1 := h1
  have lt1 : ∀ x ∈ p1, x.block < W.heap.size := by obtain ⟨m, hm⟩ := k1; exact DataW.trod_lt m _ _ _ hm
  obtain ⟨A0, len0, cap0, rfl⟩ := okWide_slice Try.underlying31 (hval 0 31 v0 rfl rfl)
  obtain ⟨l0, hr0⟩ := ints_row Try.underlying31 Try.underlying3 (by kernel_rfl) h0
  obtain ⟨A1, len1, cap1, rfl⟩ := okWide_slice Try.underlying31 (hval 1 31 v1 rfl rfl)
  obtain ⟨l1, hr1⟩ := ints_row Try.underlying31 Try.underlying3 (by kernel_rfl) h1
  clear hA0 hval0
  refine (walk W A0 len0 cap0 l0 hr0 A1 len1 cap1 l1 hr1).mono fun e W' ⟨he, bel⟩ => ?_
  subst he
  exact ⟨_, rfl, _, _, _, [], _, [], hW', trodAll_mk1 (shut_bool Try.underlying4 _), (trodAll_cons_mk (Below.trod laidOut (by kernel_rfl) (of_decide_eq_true (by kernel_rfl)) k0 bel lt0) (trodAll_cons_mk (Below.trod laidOut (by kernel_rfl) (of_decide_eq_true (by kernel_rfl)) k1 bel lt1) trodAll_mk0)), rfl, bel.frame _, fun h => by cases h⟩
theorem over : Rows.fnExactWaitsOfRunRow.holds Try.pinned (OpenSpec.ofChange Rows.fnExactWaitsOfRunSpec) :=
  OpenClaim.holds_of_wide 9 Try.f9 rfl rfl rfl rfl rfl rfl rfl ⟨rfl, rfl, rfl, rfl, rfl⟩ rfl rfl rfl rfl rfl (by kernel_rfl) Try.func9 (by kernel_rfl)
    (of_decide_eq_true (by kernel_rfl)) (by unfold Func.isWrapper; first | (rw [if_pos (by decide +kernel)]; kernel_rfl) | (rw [if_neg (by decide +kernel)]; exact ⟨rfl, rfl⟩))
    (fun os started H enc _ => lifted os started H enc)
/-- The given statement. -/
theorem proved : Rows.FnExactWaitsOfRunSaid := over
#print axioms proved
end Go.Proofs.Ytabickmaeklfmaa.lawWaitsOfRun
