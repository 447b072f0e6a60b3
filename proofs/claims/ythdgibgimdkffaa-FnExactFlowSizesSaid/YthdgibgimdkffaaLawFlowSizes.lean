/- The statement FnExactFlowSizesSaid: for every input the law FnExactFlowSizes returns true, and its arguments read as before. No condition. -/
import Derived.Test.YthdgibgimdkffaaFlows
namespace Go.Proofs.Ythdgibgimdkffaa.lawFlowSizes
open Go.ChangeShapes Go.WideShapes Go.ChangeAt Go.RowKit
set_option linter.unusedVariables false
theorem fsR_len (L : List Pk) (f : Int) : (fsR L f).length ≤ 64 := by
  unfold fsR
  split
  · rename_i h
    simp only [fsok, Bool.and_eq_true] at h
    have := flok_iff.1 h.2
    rw [fsz_len]
    omega
  · simp
theorem szC (A : Option Addr) (n cap : Nat) (w : World) (hn : n ≤ 9223372036854775807) :
    Calls Try.prog 10 #[.slice A n cap, .int .i64 1048576] w fun e w' => e = .returned (.int .i64 (if n ≤ 1048576 then 1048576 - (n : Int) else -1)) ∧ w = w' := by
  by_cases h : n ≤ 1048576
  · have h' : ¬ (1048576 : Int) < n := by omega
    have hR := Lib.hid (show (if n ≤ 1048576 then 1048576 - (n : Int) else -1) = 1048576 - (n : Int) by simp [h])
    go_enter Try.func10, Try.ntmps10
    go_wp2_with fail
    go_ret
    exact ⟨rfl, rfl⟩
  · have h' : (1048576 : Int) < n := by omega
    have hR := Lib.hid (show (if n ≤ 1048576 then 1048576 - (n : Int) else -1) = -1 by simp [h])
    go_enter Try.func10, Try.ntmps10
    go_wp2_with fail
    go_ret
    exact ⟨rfl, rfl⟩
set_option maxHeartbeats 2000000 in
theorem walk (w : World) (A : Option Addr) (n cap : Nat) (l : List Int) (h : IRow w A l ∧ l.length = n * 6 ∧ n ≤ 9223372036854775807 ∧ IBs l) (f : Int) (_ : IB f) :
    Calls Try.prog 6 #[.slice A n cap, .int .i64 f] w fun e w' => e = .returned (.bool true) ∧ Below w.heap.size w w' := by
  obtain ⟨hr, hl, hn, _⟩ := h
  obtain ⟨L, hL, rfl⟩ := unfl n l hl
  have HL := Lib.hid hl
  have HLL := Lib.hid hL
  have HR_a := Lib.hid hr
  clear hl hr hL
  have HF := Lib.hid (fsR_len L f)
  by_cases hbig : n ≤ 1048576
  rotate_left
  · go_enter Try.func6, Try.ntmps6
    go_wp2_with fail
    refine (szC _ _ _ _ hn).mono ?_
    rw [if_neg hbig]
    rintro e w' ⟨rfl, rfl⟩
    go_wp2_with fail
    go_ret
    exact ⟨rfl, (by repeat (first | (with_reducible exact b0 _) | (with_reducible refine ba ?_ _) | (with_reducible refine bd ?_ _) | (with_reducible refine Below.drew ?_) | (with_reducible refine bs ?_ (by first | exact Nat.le_refl _ | exact Nat.le_add_right _ _ | omega) _) | (with_reducible refine bt ?_ (by assumption))))⟩
  go_enter Try.func6, Try.ntmps6
  go_wp2_with fail
  refine (szC _ _ _ _ hn).mono ?_
  rw [if_pos hbig]
  rintro e w' ⟨rfl, rfl⟩
  go_wp2_with fail
  refine (toPacketS_any A n cap (fl L) _ HL.out (HR_a.out.below (b0 w)) (by omega)).mono ?_
  rintro e w1 ⟨A_s, n_s, cap_s, rfl, ho_s, hb1⟩
  have HN_s := Lib.hid ho_s.len
  have HO_s_1 := Lib.hid ho_s
  clear ho_s
  have z1 := hb1.size
  (try simp at z1)
  have HB_1 := Lib.hid (bt (b0 w) hb1)
  clear hb1
  obtain rfl : n_s = n := by have := HN_s.out; have := HL.out; omega
  go_wp2_with fail
  refine (specFlowSizes_any _ _ _ L _ _ HLL.out HO_s_1.out.row (by omega)).mono ?_
  rintro e w2 ⟨A_v, n_v, cap_v, rfl, ho_v, hb2⟩
  have HN_v := Lib.hid ho_v.len
  have HO_v_2 := Lib.hid ho_v
  clear ho_v
  have z2 := hb2.size
  (try simp at z2)
  have HO_s_2 := Lib.hid (HO_s_1.out.old hb2)
  clear HO_s_1
  have HB_2 := Lib.hid (bt HB_1.out hb2)
  clear hb2
  go_wp2_with fail
  refine (toPacketS_any A _ cap (fl L) _ HL.out (HR_a.out.below HB_2.out) (by omega)).mono ?_
  rintro e w3 ⟨A_x, n_x, cap_x, rfl, ho_x, hb3⟩
  have HN_x := Lib.hid ho_x.len
  have HO_x_3 := Lib.hid ho_x
  clear ho_x
  have z3 := hb3.size
  (try simp at z3)
  have HO_s_3 := Lib.hid (HO_s_2.out.old hb3)
  clear HO_s_2
  have HO_v_3 := Lib.hid (HO_v_2.out.old hb3)
  clear HO_v_2
  have HB_3 := Lib.hid (bt HB_2.out hb3)
  clear hb3
  obtain rfl : n_x = n_s := by have := HN_x.out; have := HL.out; omega
  go_wp2_with fail
  refine (implFlowSizes_any _ _ _ L _ _ HLL.out HO_x_3.out.row (by omega)).mono ?_
  rintro e w4 ⟨A_g, n_g, cap_g, rfl, ho_g, hb4⟩
  have HN_g := Lib.hid ho_g.len
  have HO_g_4 := Lib.hid ho_g
  clear ho_g
  have z4 := hb4.size
  (try simp at z4)
  have HO_s_4 := Lib.hid (HO_s_3.out.old hb4)
  clear HO_s_3
  have HO_v_4 := Lib.hid (HO_v_3.out.old hb4)
  clear HO_v_3
  have HO_x_4 := Lib.hid (HO_x_3.out.old hb4)
  clear HO_x_3
  have HB_4 := Lib.hid (bt HB_3.out hb4)
  clear hb4
  obtain ⟨hng, HG⟩ : n_g = n_v ∧ Hid ((fsR L f).length = n_v) := ⟨by have := HN_g.out; have := HN_v.out; omega, by have := HN_v.out; unfold Hid; omega⟩
  subst hng
  have hnv : n_g ≤ 64 := by have h1 := HG.out; have h2 := HF.out; omega
  go_wp2_with fail
  refine (eqIntS_any _ _ _ _ _ (fsR L f) _ HG.out (by omega) HO_g_4.out.row HO_v_4.out.row).mono ?_
  rintro e w5 ⟨rfl, hb5⟩
  have z5 := hb5.size
  (try simp at z5)
  have HO_s_5 := Lib.hid (HO_s_4.out.old hb5)
  clear HO_s_4
  have HO_v_5 := Lib.hid (HO_v_4.out.old hb5)
  clear HO_v_4
  have HO_x_5 := Lib.hid (HO_x_4.out.old hb5)
  clear HO_x_4
  have HO_g_5 := Lib.hid (HO_g_4.out.old hb5)
  clear HO_g_4
  have HB_5 := Lib.hid (bt HB_4.out hb5)
  clear hb5
  go_wp2_with fail
  refine (toPacketS_any A _ cap (fl L) _ HL.out (HR_a.out.below HB_5.out) (by omega)).mono ?_
  rintro e w6 ⟨A_y, n_y, cap_y, rfl, ho_y, hb6⟩
  have HN_y := Lib.hid ho_y.len
  have HO_y_6 := Lib.hid ho_y
  clear ho_y
  have z6 := hb6.size
  (try simp at z6)
  have HO_s_6 := Lib.hid (HO_s_5.out.old hb6)
  clear HO_s_5
  have HO_v_6 := Lib.hid (HO_v_5.out.old hb6)
  clear HO_v_5
  have HO_x_6 := Lib.hid (HO_x_5.out.old hb6)
  clear HO_x_5
  have HO_g_6 := Lib.hid (HO_g_5.out.old hb6)
  clear HO_g_5
  have HB_6 := Lib.hid (bt HB_5.out hb6)
  clear hb6
  obtain rfl : n_y = n_x := by have := HN_y.out; have := HL.out; omega
  go_wp2_with fail
  refine (eqPacketS_any _ _ _ _ _ (fl L) _ HL.out (by omega) HO_x_6.out.row HO_y_6.out.row).mono ?_
  rintro e w7 ⟨rfl, hb7⟩
  have z7 := hb7.size
  (try simp at z7)
  have HO_s_7 := Lib.hid (HO_s_6.out.old hb7)
  clear HO_s_6
  have HO_v_7 := Lib.hid (HO_v_6.out.old hb7)
  clear HO_v_6
  have HO_x_7 := Lib.hid (HO_x_6.out.old hb7)
  clear HO_x_6
  have HO_g_7 := Lib.hid (HO_g_6.out.old hb7)
  clear HO_g_6
  have HO_y_7 := Lib.hid (HO_y_6.out.old hb7)
  clear HO_y_6
  have HB_7 := Lib.hid (bt HB_6.out hb7)
  clear hb7
  go_wp2_with fail
  refine (markPacketS_any _ _ _ (fl L) 1 _ _ _ HO_x_7.out (by omega) (by omega) (by omega)).mono ?_
  rintro e w8 ⟨rfl, ho8, hb8⟩
  have HO_x_8 := Lib.hid ho8
  clear ho8
  have z8 := hb8.size
  (try simp at z8)
  have HO_s_8 := Lib.hid (HO_s_7.out.chg hb8 (by first | omega | (simp; done) | (simp; omega)))
  clear HO_s_7
  have HO_v_8 := Lib.hid (HO_v_7.out.chg hb8 (by first | omega | (simp; done) | (simp; omega)))
  clear HO_v_7
  have HO_g_8 := Lib.hid (HO_g_7.out.chg hb8 (by first | omega | (simp; done) | (simp; omega)))
  clear HO_g_7
  have HO_y_8 := Lib.hid (HO_y_7.out.chg hb8 (by first | omega | (simp; done) | (simp; omega)))
  clear HO_y_7
  have HB_8 := Lib.hid (Chg.below HB_7.out hb8 (by first | omega | (simp; done) | (simp; omega)))
  clear hb8
  clear HO_x_7
  go_wp2_with fail
  refine (eqIntS_any _ _ _ _ _ (fsR L f) _ HG.out (by omega) HO_g_8.out.row HO_v_8.out.row).mono ?_
  rintro e w9 ⟨rfl, hb9⟩
  have z9 := hb9.size
  (try simp at z9)
  have HO_s_9 := Lib.hid (HO_s_8.out.old hb9)
  clear HO_s_8
  have HO_v_9 := Lib.hid (HO_v_8.out.old hb9)
  clear HO_v_8
  have HO_x_9 := Lib.hid (HO_x_8.out.old hb9)
  clear HO_x_8
  have HO_g_9 := Lib.hid (HO_g_8.out.old hb9)
  clear HO_g_8
  have HO_y_9 := Lib.hid (HO_y_8.out.old hb9)
  clear HO_y_8
  have HB_9 := Lib.hid (bt HB_8.out hb9)
  clear hb9
  go_wp2_with fail
  refine (markIntS_any _ _ _ (fsR L f) 1 _ _ _ HO_g_9.out (by omega) (by omega) (by omega)).mono ?_
  rintro e w10 ⟨rfl, ho10, hb10⟩
  have HO_g_10 := Lib.hid ho10
  clear ho10
  have z10 := hb10.size
  (try simp at z10)
  have HO_s_10 := Lib.hid (HO_s_9.out.chg hb10 (by first | omega | (simp; done) | (simp; omega)))
  clear HO_s_9
  have HO_v_10 := Lib.hid (HO_v_9.out.chg hb10 (by first | omega | (simp; done) | (simp; omega)))
  clear HO_v_9
  have HO_x_10 := Lib.hid (HO_x_9.out.chg hb10 (by first | omega | (simp; done) | (simp; omega)))
  clear HO_x_9
  have HO_y_10 := Lib.hid (HO_y_9.out.chg hb10 (by first | omega | (simp; done) | (simp; omega)))
  clear HO_y_9
  have HB_10 := Lib.hid (Chg.below HB_9.out hb10 (by first | omega | (simp; done) | (simp; omega)))
  clear hb10
  clear HO_g_9
  go_wp2_with fail
  refine (heldIntS_any _ _ _ 1 _ HO_g_10.out.row (by omega) (by omega) (by omega)).mono ?_
  rintro e w11 ⟨rfl, hb11⟩
  have z11 := hb11.size
  (try simp at z11)
  have HO_s_11 := Lib.hid (HO_s_10.out.old hb11)
  clear HO_s_10
  have HO_v_11 := Lib.hid (HO_v_10.out.old hb11)
  clear HO_v_10
  have HO_x_11 := Lib.hid (HO_x_10.out.old hb11)
  clear HO_x_10
  have HO_g_11 := Lib.hid (HO_g_10.out.old hb11)
  clear HO_g_10
  have HO_y_11 := Lib.hid (HO_y_10.out.old hb11)
  clear HO_y_10
  have HB_11 := Lib.hid (bt HB_10.out hb11)
  clear hb11
  go_wp2_with fail
  refine (toPacketS_any A _ cap (fl L) _ HL.out (HR_a.out.below HB_11.out) (by omega)).mono ?_
  rintro e w12 ⟨A_u, n_u, cap_u, rfl, ho_u, hb12⟩
  have HN_u := Lib.hid ho_u.len
  have HO_u_12 := Lib.hid ho_u
  clear ho_u
  have z12 := hb12.size
  (try simp at z12)
  have HO_s_12 := Lib.hid (HO_s_11.out.old hb12)
  clear HO_s_11
  have HO_v_12 := Lib.hid (HO_v_11.out.old hb12)
  clear HO_v_11
  have HO_x_12 := Lib.hid (HO_x_11.out.old hb12)
  clear HO_x_11
  have HO_g_12 := Lib.hid (HO_g_11.out.old hb12)
  clear HO_g_11
  have HO_y_12 := Lib.hid (HO_y_11.out.old hb12)
  clear HO_y_11
  have HB_12 := Lib.hid (bt HB_11.out hb12)
  clear hb12
  obtain rfl : n_u = n_y := by have := HN_u.out; have := HL.out; omega
  go_wp2_with fail
  refine (implFlowSizes_any _ _ _ L _ _ HLL.out HO_u_12.out.row (by omega)).mono ?_
  rintro e w13 ⟨A_h, n_h, cap_h, rfl, ho_h, hb13⟩
  have HN_h := Lib.hid ho_h.len
  have HO_h_13 := Lib.hid ho_h
  clear ho_h
  have z13 := hb13.size
  (try simp at z13)
  have HO_s_13 := Lib.hid (HO_s_12.out.old hb13)
  clear HO_s_12
  have HO_v_13 := Lib.hid (HO_v_12.out.old hb13)
  clear HO_v_12
  have HO_x_13 := Lib.hid (HO_x_12.out.old hb13)
  clear HO_x_12
  have HO_g_13 := Lib.hid (HO_g_12.out.old hb13)
  clear HO_g_12
  have HO_y_13 := Lib.hid (HO_y_12.out.old hb13)
  clear HO_y_12
  have HO_u_13 := Lib.hid (HO_u_12.out.old hb13)
  clear HO_u_12
  have HB_13 := Lib.hid (bt HB_12.out hb13)
  clear hb13
  obtain rfl : n_h = n_g := by have := HN_h.out; have := HG.out; omega
  go_wp2_with fail
  refine (eqIntS_any _ _ _ _ _ (fsR L f) _ HG.out (by omega) HO_h_13.out.row HO_v_13.out.row).mono ?_
  rintro e w14 ⟨rfl, hb14⟩
  have z14 := hb14.size
  (try simp at z14)
  have HO_s_14 := Lib.hid (HO_s_13.out.old hb14)
  clear HO_s_13
  have HO_v_14 := Lib.hid (HO_v_13.out.old hb14)
  clear HO_v_13
  have HO_x_14 := Lib.hid (HO_x_13.out.old hb14)
  clear HO_x_13
  have HO_g_14 := Lib.hid (HO_g_13.out.old hb14)
  clear HO_g_13
  have HO_y_14 := Lib.hid (HO_y_13.out.old hb14)
  clear HO_y_13
  have HO_u_14 := Lib.hid (HO_u_13.out.old hb14)
  clear HO_u_13
  have HO_h_14 := Lib.hid (HO_h_13.out.old hb14)
  clear HO_h_13
  have HB_14 := Lib.hid (bt HB_13.out hb14)
  clear hb14
  go_wp2_with fail
  refine (heldIntS_any _ _ _ 1 _ HO_g_14.out.row (by omega) (by omega) (by omega)).mono ?_
  rintro e w15 ⟨rfl, hb15⟩
  have z15 := hb15.size
  (try simp at z15)
  have HO_s_15 := Lib.hid (HO_s_14.out.old hb15)
  clear HO_s_14
  have HO_v_15 := Lib.hid (HO_v_14.out.old hb15)
  clear HO_v_14
  have HO_x_15 := Lib.hid (HO_x_14.out.old hb15)
  clear HO_x_14
  have HO_g_15 := Lib.hid (HO_g_14.out.old hb15)
  clear HO_g_14
  have HO_y_15 := Lib.hid (HO_y_14.out.old hb15)
  clear HO_y_14
  have HO_u_15 := Lib.hid (HO_u_14.out.old hb15)
  clear HO_u_14
  have HO_h_15 := Lib.hid (HO_h_14.out.old hb15)
  clear HO_h_14
  have HB_15 := Lib.hid (bt HB_14.out hb15)
  clear hb15
  go_wp2_with fail
  go_ret
  exact ⟨rfl, HB_15.out⟩
theorem own : ownKnob Try.prog.godebug = none := by kernel_rfl
theorem laidOut : laidOutB Try.prog = true := by kernel_rfl
set_option maxRecDepth 100000 in
theorem lifted (os : Os) (started : os.Started) (H : Type) (enc : TypeId × Value → H) :
    ReturnsInHanded {} Try.checked os 6 .any (Rows.fnExactFlowSizesSpec.pre6 enc Try.prog Try.f6 Rows.fnExactFlowSizesRow.domain false) (Rows.fnExactFlowSizesSpec.post enc Try.prog Try.f6 false true false false) := by
  refine returnsInHanded_of_change (C := Try.checked) own started (by kernel_rfl) Try.func6
    (ChangeSpec.witness6 (enc := enc) (C := Try.checked) false ⟨#[], #[.slice none 0 0, .int .i64 0], []⟩ 8 (by kernel_rfl) (by kernel_rfl) (by kernel_rfl) (by kernel_rfl)) ?_
  intro W base args ds gs before hval0 hW hcnd _
  have hval : ∀ (j : Nat) t v, Try.f6.params[j]? = some t → args[j]? = some v → Value.okWide Try.prog W .any base t v := hval0
  have hW' := hW
  obtain ⟨p, q, hA0, hV, rfl, hfz, hnd⟩ := hW
  have hA : DataW.TrodAll enc Try.prog W 0 (fun _ => true) true Try.f6.params.toList args.toList ds p := hA0
  rw [Try.params6] at hA hval
  obtain ⟨v0, vs0, d0, ds0, p0, q0, hargs, rfl, rfl, h0, r0⟩ := trodAll_cons hA
  obtain ⟨v1, vs1, d1, ds1, p1, q1, rfl, rfl, rfl, h1, r1⟩ := trodAll_cons r0
  obtain ⟨rfl, rfl, rfl⟩ := trodAll_nil r1
  obtain rfl : args = #[v0, v1] := by cases args; simp_all
  obtain ⟨rfl, rfl⟩ := trodVars_none hV
  have k0 := h0
  have lt0 : ∀ x ∈ p0, x.block < W.heap.size := by obtain ⟨m, hm⟩ := k0; exact DataW.trod_lt m _ _ _ hm
  have k1 := h1
  have lt1 : ∀ x ∈ p1, x.block < W.heap.size := by obtain ⟨m, hm⟩ := k1; exact DataW.trod_lt m _ _ _ hm
  obtain ⟨A0, len0, cap0, rfl⟩ := okWide_slice Try.underlying28 (hval 0 28 v0 rfl rfl)
  obtain ⟨l0, hr0⟩ := rows_row (s := 6) Try.underlying28 (by kernel_rfl) (by decide) (flatPacket enc W) h0
  obtain ⟨a1, rfl, rfl, rfl, wf1⟩ := open_int Try.underlying3 (hval 1 3 v1 rfl rfl) h1
  clear hA0 hval0
  refine (walk W A0 len0 cap0 l0 hr0 a1 (ibounds wf1)).mono fun e W' ⟨he, bel⟩ => ?_
  subst he
  exact ⟨_, rfl, _, _, _, [], _, [], hW', trodAll_mk1 (shut_bool Try.underlying4 _), (trodAll_cons_mk (Below.trod laidOut (by kernel_rfl) (of_decide_eq_true (by kernel_rfl)) k0 bel lt0) (trodAll_cons_mk (Below.trod laidOut (by kernel_rfl) (of_decide_eq_true (by kernel_rfl)) k1 bel lt1) trodAll_mk0)), rfl, bel.frame _, fun h => by cases h⟩
theorem over : Rows.fnExactFlowSizesRow.holds Try.pinned (OpenSpec.ofChange Rows.fnExactFlowSizesSpec) :=
  OpenClaim.holds_of_wide 6 Try.f6 rfl rfl rfl rfl rfl rfl rfl ⟨rfl, rfl, rfl, rfl, rfl⟩ rfl rfl rfl rfl rfl (by kernel_rfl) Try.func6 (by kernel_rfl)
    (of_decide_eq_true (by kernel_rfl)) (by unfold Func.isWrapper; first | (rw [if_pos (by decide +kernel)]; kernel_rfl) | (rw [if_neg (by decide +kernel)]; exact ⟨rfl, rfl⟩))
    (fun os started H enc _ => lifted os started H enc)
/-- The given statement. -/
theorem proved : Rows.FnExactFlowSizesSaid := over
#print axioms proved
end Go.Proofs.Ythdgibgimdkffaa.lawFlowSizes
