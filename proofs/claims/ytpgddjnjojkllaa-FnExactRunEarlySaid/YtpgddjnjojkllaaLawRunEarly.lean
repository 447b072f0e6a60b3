/- The statement FnExactRunEarlySaid: for every input the law FnExactRunEarly returns true, and its arguments read as before. No condition. -/
import Derived.Test.YtpgddjnjojkllaaRunEarly
namespace Go.Proofs.Ytpgddjnjojkllaa.lawRunEarly
open Go.ChangeShapes Go.WideShapes Go.ChangeAt Go.RowKit
set_option linter.unusedVariables false
theorem reL_len (lo hi we mo av key : Int) (l : List Int) : (reL lo hi we mo av key l).length ≤ l.length := by
  unfold reL
  split <;> simp [decs]
theorem walk (w : World) (lo : Int) (_ : IB lo) (hi : Int) (_ : IB hi) (we : Int) (_ : IB we) (mo : Int) (_ : IB mo) (av : Int) (_ : IB av) (A : Option Addr) (n cap : Nat) (l : List Int) (h : IRow w A l ∧ l.length = n ∧ n ≤ 9223372036854775807 ∧ IBs l) (key : Int) (_ : IB key) :
    Calls Try.prog 13 #[.agg #[.int .i64 lo, .int .i64 hi, .int .i64 we, .int .i64 mo], .int .i64 av, .slice A n cap, .int .i64 key] w fun e w' => e = .returned (.bool true) ∧ Below w.heap.size w w' := by
  obtain ⟨hr, hl, hn, _⟩ := h
  have HL := Lib.hid hl
  have HR_a := Lib.hid hr
  clear hl hr
  by_cases hbig : n ≤ 1048576
  rotate_left
  · go_enter Try.func13, Try.ntmps13
    go_wp2_with fail
    go_ret
    exact ⟨rfl, (by repeat (first | (with_reducible exact b0 _) | (with_reducible refine ba ?_ _) | (with_reducible refine bd ?_ _) | (with_reducible refine Below.drew ?_) | (with_reducible refine bs ?_ (by first | exact Nat.le_refl _ | exact Nat.le_add_right _ _ | omega) _) | (with_reducible refine bt ?_ (by assumption))))⟩
  go_enter Try.func13, Try.ntmps13
  go_wp2_with fail
  refine (toEarly_any _ _ _ _ _).mono ?_
  rintro e w1 ⟨rfl, hb1⟩
  have z1 := hb1.size
  (try simp at z1)
  have c1_0 := fun o => bkeep hb1 (w.heap.size) o (by first | omega | (simp; done) | (simp; omega))
  have q1_0 : w.heap.size < w1.heap.size := by omega
  have HB_1 := Lib.hid (bt (ba (b0 w) _) hb1)
  go_wp2_with fail
  refine (toIntS_any A n cap l _ HL.out (HR_a.out.below HB_1.out) (by omega)).mono ?_
  rintro e w2 ⟨A_s, n_s, cap_s, rfl, ho2, hb2⟩
  have HN_s := Lib.hid ho2.len
  have HO_s_2 := Lib.hid ho2
  clear ho2
  have z2 := hb2.size
  (try simp at z2)
  have c2_0 := fun o => bkeep hb2 (w.heap.size) o (by first | omega | (simp; done) | (simp; omega))
  have q2_0 : w.heap.size < w2.heap.size := by omega
  have HB_2 := Lib.hid (bt HB_1.out hb2)
  obtain rfl : n_s = n := by have := HN_s.out; have := HL.out; omega
  go_wp2_with fail
  refine (specRunEarly_any _ _ _ _ _ _ _ _ _ l _ HL.out HO_s_2.out.row (by omega)).mono ?_
  rintro e w3 ⟨A_v, n_v, cap_v, rfl, ho3, hb3⟩
  have HN_v := Lib.hid ho3.len
  have HO_v_3 := Lib.hid ho3
  clear ho3
  have z3 := hb3.size
  (try simp at z3)
  have c3_0 := fun o => bkeep hb3 (w.heap.size) o (by first | omega | (simp; done) | (simp; omega))
  have q3_0 : w.heap.size < w3.heap.size := by omega
  have HO_s_3 := Lib.hid (HO_s_2.out.below hb3 (by omega))
  clear HO_s_2
  have HB_3 := Lib.hid (bt HB_2.out hb3)
  go_wp2_with fail
  refine (toIntS_any A _ cap l _ HL.out (HR_a.out.below HB_3.out) (by omega)).mono ?_
  rintro e w4 ⟨A_x, n_x, cap_x, rfl, ho4, hb4⟩
  have HN_x := Lib.hid ho4.len
  have HO_x_4 := Lib.hid ho4
  clear ho4
  have z4 := hb4.size
  (try simp at z4)
  have c4_0 := fun o => bkeep hb4 (w.heap.size) o (by first | omega | (simp; done) | (simp; omega))
  have q4_0 : w.heap.size < w4.heap.size := by omega
  have HO_s_4 := Lib.hid (HO_s_3.out.below hb4 (by omega))
  clear HO_s_3
  have HO_v_4 := Lib.hid (HO_v_3.out.below hb4 (by omega))
  clear HO_v_3
  have HB_4 := Lib.hid (bt HB_3.out hb4)
  obtain rfl : n_x = n_s := by have := HN_x.out; have := HL.out; omega
  go_wp2_with fail
  refine (toEarly_any _ _ _ _ _).mono ?_
  rintro e w5 ⟨rfl, hb5⟩
  have z5 := hb5.size
  (try simp at z5)
  have c5_0 := fun o => bkeep hb5 (w.heap.size) o (by first | omega | (simp; done) | (simp; omega))
  have q5_0 : w.heap.size < w5.heap.size := by omega
  have HO_s_5 := Lib.hid (HO_s_4.out.below hb5 (by omega))
  clear HO_s_4
  have HO_v_5 := Lib.hid (HO_v_4.out.below hb5 (by omega))
  clear HO_v_4
  have HO_x_5 := Lib.hid (HO_x_4.out.below hb5 (by omega))
  clear HO_x_4
  have HB_5 := Lib.hid (bt HB_4.out hb5)
  go_wp2_with fail
  refine (implRunEarly_any _ _ _ _ _ _ _ _ _ l _ HL.out HO_x_5.out.row (by omega)).mono ?_
  rintro e w6 ⟨A_g, n_g, cap_g, rfl, ho6, hb6⟩
  have HN_g := Lib.hid ho6.len
  have HO_g_6 := Lib.hid ho6
  clear ho6
  have z6 := hb6.size
  (try simp at z6)
  have c6_0 := fun o => bkeep hb6 (w.heap.size) o (by first | omega | (simp; done) | (simp; omega))
  have q6_0 : w.heap.size < w6.heap.size := by omega
  have HO_s_6 := Lib.hid (HO_s_5.out.below hb6 (by omega))
  clear HO_s_5
  have HO_v_6 := Lib.hid (HO_v_5.out.below hb6 (by omega))
  clear HO_v_5
  have HO_x_6 := Lib.hid (HO_x_5.out.below hb6 (by omega))
  clear HO_x_5
  have HB_6 := Lib.hid (bt HB_5.out hb6)
  obtain ⟨hng, HG⟩ : n_g = n_v ∧ Hid ((reL lo hi we mo av key l).length = n_v) := ⟨by have := HN_g.out; have := HN_v.out; omega, by have := HN_v.out; unfold Hid; omega⟩
  subst hng
  have hnv : n_g ≤ 1099511627776 := by have h1 := HG.out; have h2 := reL_len lo hi we mo av key l; have h3 := HL.out; omega
  go_wp2_with fail
  refine (eqIntS_any _ _ _ _ _ (reL lo hi we mo av key l) _ HG.out (by omega) HO_g_6.out.row HO_v_6.out.row).mono ?_
  rintro e w7 ⟨rfl, hb7⟩
  have z7 := hb7.size
  (try simp at z7)
  have c7_0 := fun o => bkeep hb7 (w.heap.size) o (by first | omega | (simp; done) | (simp; omega))
  have q7_0 : w.heap.size < w7.heap.size := by omega
  have HO_s_7 := Lib.hid (HO_s_6.out.below hb7 (by omega))
  clear HO_s_6
  have HO_v_7 := Lib.hid (HO_v_6.out.below hb7 (by omega))
  clear HO_v_6
  have HO_x_7 := Lib.hid (HO_x_6.out.below hb7 (by omega))
  clear HO_x_6
  have HO_g_7 := Lib.hid (HO_g_6.out.below hb7 (by omega))
  clear HO_g_6
  have HB_7 := Lib.hid (bt HB_6.out hb7)
  go_wp2_with fail
  refine (toIntS_any A _ cap l _ HL.out (HR_a.out.below HB_7.out) (by omega)).mono ?_
  rintro e w8 ⟨A_y, n_y, cap_y, rfl, ho8, hb8⟩
  have HN_y := Lib.hid ho8.len
  have HO_y_8 := Lib.hid ho8
  clear ho8
  have z8 := hb8.size
  (try simp at z8)
  have c8_0 := fun o => bkeep hb8 (w.heap.size) o (by first | omega | (simp; done) | (simp; omega))
  have q8_0 : w.heap.size < w8.heap.size := by omega
  have HO_s_8 := Lib.hid (HO_s_7.out.below hb8 (by omega))
  clear HO_s_7
  have HO_v_8 := Lib.hid (HO_v_7.out.below hb8 (by omega))
  clear HO_v_7
  have HO_x_8 := Lib.hid (HO_x_7.out.below hb8 (by omega))
  clear HO_x_7
  have HO_g_8 := Lib.hid (HO_g_7.out.below hb8 (by omega))
  clear HO_g_7
  have HB_8 := Lib.hid (bt HB_7.out hb8)
  obtain rfl : n_y = n_x := by have := HN_y.out; have := HL.out; omega
  go_wp2_with fail
  refine (eqIntS_any _ _ _ _ _ l _ HL.out (by omega) HO_x_8.out.row HO_y_8.out.row).mono ?_
  rintro e w9 ⟨rfl, hb9⟩
  have z9 := hb9.size
  (try simp at z9)
  have c9_0 := fun o => bkeep hb9 (w.heap.size) o (by first | omega | (simp; done) | (simp; omega))
  have q9_0 : w.heap.size < w9.heap.size := by omega
  have HO_s_9 := Lib.hid (HO_s_8.out.below hb9 (by omega))
  clear HO_s_8
  have HO_v_9 := Lib.hid (HO_v_8.out.below hb9 (by omega))
  clear HO_v_8
  have HO_x_9 := Lib.hid (HO_x_8.out.below hb9 (by omega))
  clear HO_x_8
  have HO_g_9 := Lib.hid (HO_g_8.out.below hb9 (by omega))
  clear HO_g_8
  have HO_y_9 := Lib.hid (HO_y_8.out.below hb9 (by omega))
  clear HO_y_8
  have HB_9 := Lib.hid (bt HB_8.out hb9)
  go_wp2_with fail
  refine (markIntS_any _ _ _ l 1 _ _ _ HO_x_9.out (by omega) (by omega) (by omega)).mono ?_
  rintro e w10 ⟨rfl, ho10, hb10⟩
  have HO_x_10 := Lib.hid ho10
  clear ho10 HO_x_9
  have z10 := hb10.size
  (try simp at z10)
  have c10_0 := fun o => chkeep hb10 (w.heap.size) o (by first | omega | (simp; done) | (simp; omega)) (by first | (left; omega) | (right; omega))
  have q10_0 : w.heap.size < w10.heap.size := by omega
  have HO_s_10 := Lib.hid (HO_s_9.out.chg hb10 (by omega))
  clear HO_s_9
  have HO_v_10 := Lib.hid (HO_v_9.out.chg hb10 (by omega))
  clear HO_v_9
  have HO_g_10 := Lib.hid (HO_g_9.out.chg hb10 (by omega))
  clear HO_g_9
  have HO_y_10 := Lib.hid (HO_y_9.out.chg hb10 (by omega))
  clear HO_y_9
  have HB_10 := Lib.hid (Chg.below HB_9.out hb10 (by omega))
  go_wp2_with fail
  refine (eqIntS_any _ _ _ _ _ (reL lo hi we mo av key l) _ HG.out (by omega) HO_g_10.out.row HO_v_10.out.row).mono ?_
  rintro e w11 ⟨rfl, hb11⟩
  have z11 := hb11.size
  (try simp at z11)
  have c11_0 := fun o => bkeep hb11 (w.heap.size) o (by first | omega | (simp; done) | (simp; omega))
  have q11_0 : w.heap.size < w11.heap.size := by omega
  have HO_s_11 := Lib.hid (HO_s_10.out.below hb11 (by omega))
  clear HO_s_10
  have HO_v_11 := Lib.hid (HO_v_10.out.below hb11 (by omega))
  clear HO_v_10
  have HO_x_11 := Lib.hid (HO_x_10.out.below hb11 (by omega))
  clear HO_x_10
  have HO_g_11 := Lib.hid (HO_g_10.out.below hb11 (by omega))
  clear HO_g_10
  have HO_y_11 := Lib.hid (HO_y_10.out.below hb11 (by omega))
  clear HO_y_10
  have HB_11 := Lib.hid (bt HB_10.out hb11)
  go_wp2_with fail
  refine (markIntS_any _ _ _ (reL lo hi we mo av key l) 1 _ _ _ HO_g_11.out (by omega) (by omega) (by omega)).mono ?_
  rintro e w12 ⟨rfl, ho12, hb12⟩
  have HO_g_12 := Lib.hid ho12
  clear ho12 HO_g_11
  have z12 := hb12.size
  (try simp at z12)
  have c12_0 := fun o => chkeep hb12 (w.heap.size) o (by first | omega | (simp; done) | (simp; omega)) (by first | (left; omega) | (right; omega))
  have q12_0 : w.heap.size < w12.heap.size := by omega
  have HO_s_12 := Lib.hid (HO_s_11.out.chg hb12 (by omega))
  clear HO_s_11
  have HO_v_12 := Lib.hid (HO_v_11.out.chg hb12 (by omega))
  clear HO_v_11
  have HO_x_12 := Lib.hid (HO_x_11.out.chg hb12 (by omega))
  clear HO_x_11
  have HO_y_12 := Lib.hid (HO_y_11.out.chg hb12 (by omega))
  clear HO_y_11
  have HB_12 := Lib.hid (Chg.below HB_11.out hb12 (by omega))
  go_wp2_with fail
  refine (heldIntS_any _ _ _ 1 _ HO_g_12.out.row (by omega) (by omega) (by omega)).mono ?_
  rintro e w13 ⟨rfl, hb13⟩
  have z13 := hb13.size
  (try simp at z13)
  have c13_0 := fun o => bkeep hb13 (w.heap.size) o (by first | omega | (simp; done) | (simp; omega))
  have q13_0 : w.heap.size < w13.heap.size := by omega
  have HO_s_13 := Lib.hid (HO_s_12.out.below hb13 (by omega))
  clear HO_s_12
  have HO_v_13 := Lib.hid (HO_v_12.out.below hb13 (by omega))
  clear HO_v_12
  have HO_x_13 := Lib.hid (HO_x_12.out.below hb13 (by omega))
  clear HO_x_12
  have HO_g_13 := Lib.hid (HO_g_12.out.below hb13 (by omega))
  clear HO_g_12
  have HO_y_13 := Lib.hid (HO_y_12.out.below hb13 (by omega))
  clear HO_y_12
  have HB_13 := Lib.hid (bt HB_12.out hb13)
  go_wp2_with fail
  refine (toEarly_any _ _ _ _ _).mono ?_
  rintro e w14 ⟨rfl, hb14⟩
  have z14 := hb14.size
  (try simp at z14)
  have c14_0 := fun o => bkeep hb14 (w.heap.size) o (by first | omega | (simp; done) | (simp; omega))
  have q14_0 : w.heap.size < w14.heap.size := by omega
  have HO_s_14 := Lib.hid (HO_s_13.out.below hb14 (by omega))
  clear HO_s_13
  have HO_v_14 := Lib.hid (HO_v_13.out.below hb14 (by omega))
  clear HO_v_13
  have HO_x_14 := Lib.hid (HO_x_13.out.below hb14 (by omega))
  clear HO_x_13
  have HO_g_14 := Lib.hid (HO_g_13.out.below hb14 (by omega))
  clear HO_g_13
  have HO_y_14 := Lib.hid (HO_y_13.out.below hb14 (by omega))
  clear HO_y_13
  have HB_14 := Lib.hid (bt HB_13.out hb14)
  go_wp2_with fail
  refine (toIntS_any A _ cap l _ HL.out (HR_a.out.below HB_14.out) (by omega)).mono ?_
  rintro e w15 ⟨A_u, n_u, cap_u, rfl, ho15, hb15⟩
  have HN_u := Lib.hid ho15.len
  have HO_u_15 := Lib.hid ho15
  clear ho15
  have z15 := hb15.size
  (try simp at z15)
  have c15_0 := fun o => bkeep hb15 (w.heap.size) o (by first | omega | (simp; done) | (simp; omega))
  have q15_0 : w.heap.size < w15.heap.size := by omega
  have HO_s_15 := Lib.hid (HO_s_14.out.below hb15 (by omega))
  clear HO_s_14
  have HO_v_15 := Lib.hid (HO_v_14.out.below hb15 (by omega))
  clear HO_v_14
  have HO_x_15 := Lib.hid (HO_x_14.out.below hb15 (by omega))
  clear HO_x_14
  have HO_g_15 := Lib.hid (HO_g_14.out.below hb15 (by omega))
  clear HO_g_14
  have HO_y_15 := Lib.hid (HO_y_14.out.below hb15 (by omega))
  clear HO_y_14
  have HB_15 := Lib.hid (bt HB_14.out hb15)
  obtain rfl : n_u = n_y := by have := HN_u.out; have := HL.out; omega
  go_wp2_with fail
  refine (implRunEarly_any _ _ _ _ _ _ _ _ _ l _ HL.out HO_u_15.out.row (by omega)).mono ?_
  rintro e w16 ⟨A_h, n_h, cap_h, rfl, ho16, hb16⟩
  have HN_h := Lib.hid ho16.len
  have HO_h_16 := Lib.hid ho16
  clear ho16
  have z16 := hb16.size
  (try simp at z16)
  have c16_0 := fun o => bkeep hb16 (w.heap.size) o (by first | omega | (simp; done) | (simp; omega))
  have q16_0 : w.heap.size < w16.heap.size := by omega
  have HO_s_16 := Lib.hid (HO_s_15.out.below hb16 (by omega))
  clear HO_s_15
  have HO_v_16 := Lib.hid (HO_v_15.out.below hb16 (by omega))
  clear HO_v_15
  have HO_x_16 := Lib.hid (HO_x_15.out.below hb16 (by omega))
  clear HO_x_15
  have HO_g_16 := Lib.hid (HO_g_15.out.below hb16 (by omega))
  clear HO_g_15
  have HO_y_16 := Lib.hid (HO_y_15.out.below hb16 (by omega))
  clear HO_y_15
  have HO_u_16 := Lib.hid (HO_u_15.out.below hb16 (by omega))
  clear HO_u_15
  have HB_16 := Lib.hid (bt HB_15.out hb16)
  obtain rfl : n_h = n_g := by have := HN_h.out; have := HG.out; omega
  go_wp2_with fail
  refine (eqIntS_any _ _ _ _ _ (reL lo hi we mo av key l) _ HG.out (by omega) HO_h_16.out.row HO_v_16.out.row).mono ?_
  rintro e w17 ⟨rfl, hb17⟩
  have z17 := hb17.size
  (try simp at z17)
  have c17_0 := fun o => bkeep hb17 (w.heap.size) o (by first | omega | (simp; done) | (simp; omega))
  have q17_0 : w.heap.size < w17.heap.size := by omega
  have HO_s_17 := Lib.hid (HO_s_16.out.below hb17 (by omega))
  clear HO_s_16
  have HO_v_17 := Lib.hid (HO_v_16.out.below hb17 (by omega))
  clear HO_v_16
  have HO_x_17 := Lib.hid (HO_x_16.out.below hb17 (by omega))
  clear HO_x_16
  have HO_g_17 := Lib.hid (HO_g_16.out.below hb17 (by omega))
  clear HO_g_16
  have HO_y_17 := Lib.hid (HO_y_16.out.below hb17 (by omega))
  clear HO_y_16
  have HO_u_17 := Lib.hid (HO_u_16.out.below hb17 (by omega))
  clear HO_u_16
  have HO_h_17 := Lib.hid (HO_h_16.out.below hb17 (by omega))
  clear HO_h_16
  have HB_17 := Lib.hid (bt HB_16.out hb17)
  go_wp2_with fail
  refine (heldIntS_any _ _ _ 1 _ HO_g_17.out.row (by omega) (by omega) (by omega)).mono ?_
  rintro e w18 ⟨rfl, hb18⟩
  have z18 := hb18.size
  (try simp at z18)
  have c18_0 := fun o => bkeep hb18 (w.heap.size) o (by first | omega | (simp; done) | (simp; omega))
  have q18_0 : w.heap.size < w18.heap.size := by omega
  have HO_s_18 := Lib.hid (HO_s_17.out.below hb18 (by omega))
  clear HO_s_17
  have HO_v_18 := Lib.hid (HO_v_17.out.below hb18 (by omega))
  clear HO_v_17
  have HO_x_18 := Lib.hid (HO_x_17.out.below hb18 (by omega))
  clear HO_x_17
  have HO_g_18 := Lib.hid (HO_g_17.out.below hb18 (by omega))
  clear HO_g_17
  have HO_y_18 := Lib.hid (HO_y_17.out.below hb18 (by omega))
  clear HO_y_17
  have HO_u_18 := Lib.hid (HO_u_17.out.below hb18 (by omega))
  clear HO_u_17
  have HO_h_18 := Lib.hid (HO_h_17.out.below hb18 (by omega))
  clear HO_h_17
  have HB_18 := Lib.hid (bt HB_17.out hb18)
  go_wp2_with fail
  go_ret
  exact ⟨rfl, HB_18.out⟩
theorem own : ownKnob Try.prog.godebug = none := by kernel_rfl
theorem laidOut : laidOutB Try.prog = true := by kernel_rfl
set_option maxRecDepth 100000 in
theorem lifted (os : Os) (started : os.Started) (H : Type) (enc : TypeId × Value → H) :
    ReturnsInHanded {} Try.checked os 13 .any (Rows.fnExactRunEarlySpec.pre6 enc Try.prog Try.f13 Rows.fnExactRunEarlyRow.domain false) (Rows.fnExactRunEarlySpec.post enc Try.prog Try.f13 false true false false) := by
  refine returnsInHanded_of_change (C := Try.checked) own started (by kernel_rfl) Try.func13
    (ChangeSpec.witness6 (enc := enc) (C := Try.checked) false ⟨#[], #[.agg #[.int .i64 0, .int .i64 0, .int .i64 0, .int .i64 0], .int .i64 0, .slice none 0 0, .int .i64 0], []⟩ 8 (by kernel_rfl) (by kernel_rfl) (by kernel_rfl) (by kernel_rfl)) ?_
  intro W base args ds gs before hval0 hW hcnd _
  have hval : ∀ (j : Nat) t v, Try.f13.params[j]? = some t → args[j]? = some v → Value.okWide Try.prog W .any base t v := hval0
  have hW' := hW
  obtain ⟨p, q, hA0, hV, rfl, hfz, hnd⟩ := hW
  have hA : DataW.TrodAll enc Try.prog W 0 (fun _ => true) true Try.f13.params.toList args.toList ds p := hA0
  rw [Try.params13] at hA hval
  obtain ⟨v0, vs0, d0, ds0, p0, q0, hargs, rfl, rfl, h0, r0⟩ := trodAll_cons hA
  obtain ⟨v1, vs1, d1, ds1, p1, q1, rfl, rfl, rfl, h1, r1⟩ := trodAll_cons r0
  obtain ⟨v2, vs2, d2, ds2, p2, q2, rfl, rfl, rfl, h2, r2⟩ := trodAll_cons r1
  obtain ⟨v3, vs3, d3, ds3, p3, q3, rfl, rfl, rfl, h3, r3⟩ := trodAll_cons r2
  obtain ⟨rfl, rfl, rfl⟩ := trodAll_nil r3
  obtain rfl : args = #[v0, v1, v2, v3] := by cases args; simp_all
  obtain ⟨rfl, rfl⟩ := trodVars_none hV
  have k0 := h0
  have lt0 : ∀ x ∈ p0, x.block < W.heap.size := by obtain ⟨m, hm⟩ := k0; exact DataW.trod_lt m _ _ _ hm
  have k1 := h1
  have lt1 : ∀ x ∈ p1, x.block < W.heap.size := by obtain ⟨m, hm⟩ := k1; exact DataW.trod_lt m _ _ _ hm
  have k2 := h2
  have lt2 : ∀ x ∈ p2, x.block < W.heap.size := by obtain ⟨m, hm⟩ := k2; exact DataW.trod_lt m _ _ _ hm
  have k3 := h3
  have lt3 : ∀ x ∈ p3, x.block < W.heap.size := by obtain ⟨m, hm⟩ := k3; exact DataW.trod_lt m _ _ _ hm
  obtain ⟨cs0, rfl, hsz0⟩ := okWide_struct Try.underlying23 (hval 0 23 v0 rfl rfl)
  obtain ⟨c0_0, c0_1, c0_2, c0_3, rfl⟩ := arr4 (hsz0.trans (by kernel_rfl))
  have hf0 := h0
  obtain ⟨fu0, hf0⟩ := hf0
  simp only [Value.cells] at hf0
  obtain ⟨a0_0, ea0_0⟩ := leaf_int Try.underlying23 hf0 0 _ rfl Try.underlying3 (by kernel_rfl) rfl
  obtain ⟨ea0_0, wa0_0⟩ := ea0_0
  subst ea0_0
  obtain ⟨a0_1, ea0_1⟩ := leaf_int Try.underlying23 hf0 1 _ rfl Try.underlying3 (by kernel_rfl) rfl
  obtain ⟨ea0_1, wa0_1⟩ := ea0_1
  subst ea0_1
  obtain ⟨a0_2, ea0_2⟩ := leaf_int Try.underlying23 hf0 2 _ rfl Try.underlying3 (by kernel_rfl) rfl
  obtain ⟨ea0_2, wa0_2⟩ := ea0_2
  subst ea0_2
  obtain ⟨a0_3, ea0_3⟩ := leaf_int Try.underlying23 hf0 3 _ rfl Try.underlying3 (by kernel_rfl) rfl
  obtain ⟨ea0_3, wa0_3⟩ := ea0_3
  subst ea0_3
  obtain ⟨a1, rfl, rfl, rfl, wf1⟩ := open_int Try.underlying3 (hval 1 3 v1 rfl rfl) h1
  obtain ⟨A2, len2, cap2, rfl⟩ := okWide_slice Try.underlying33 (hval 2 33 v2 rfl rfl)
  obtain ⟨l2, hr2⟩ := ints_row Try.underlying33 Try.underlying3 (by kernel_rfl) h2
  obtain ⟨a3, rfl, rfl, rfl, wf3⟩ := open_int Try.underlying3 (hval 3 3 v3 rfl rfl) h3
  clear hA0 hval0
  refine (walk W a0_0 (ibounds wa0_0) a0_1 (ibounds wa0_1) a0_2 (ibounds wa0_2) a0_3 (ibounds wa0_3) a1 (ibounds wf1) A2 len2 cap2 l2 hr2 a3 (ibounds wf3)).mono fun e W' ⟨he, bel⟩ => ?_
  subst he
  exact ⟨_, rfl, _, _, _, [], _, [], hW', trodAll_mk1 (shut_bool Try.underlying4 _), (trodAll_cons_mk (Below.trod laidOut (by kernel_rfl) (of_decide_eq_true (by kernel_rfl)) k0 bel lt0) (trodAll_cons_mk (Below.trod laidOut (by kernel_rfl) (of_decide_eq_true (by kernel_rfl)) k1 bel lt1) (trodAll_cons_mk (Below.trod laidOut (by kernel_rfl) (of_decide_eq_true (by kernel_rfl)) k2 bel lt2) (trodAll_cons_mk (Below.trod laidOut (by kernel_rfl) (of_decide_eq_true (by kernel_rfl)) k3 bel lt3) trodAll_mk0)))), rfl, bel.frame _, fun h => by cases h⟩
theorem over : Rows.fnExactRunEarlyRow.holds Try.pinned (OpenSpec.ofChange Rows.fnExactRunEarlySpec) :=
  OpenClaim.holds_of_wide 13 Try.f13 rfl rfl rfl rfl rfl rfl rfl ⟨rfl, rfl, rfl, rfl, rfl⟩ rfl rfl rfl rfl rfl (by kernel_rfl) Try.func13 (by kernel_rfl)
    (of_decide_eq_true (by kernel_rfl)) (by unfold Func.isWrapper; first | (rw [if_pos (by decide +kernel)]; kernel_rfl) | (rw [if_neg (by decide +kernel)]; exact ⟨rfl, rfl⟩))
    (fun os started H enc _ => lifted os started H enc)
/-- The given statement. -/
theorem proved : Rows.FnExactRunEarlySaid := over
#print axioms proved
end Go.Proofs.Ytpgddjnjojkllaa.lawRunEarly
