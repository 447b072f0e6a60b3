/- The statement FnExactDropTimesSaid: for every input the law FnExactDropTimes returns true, and its arguments read as before. No condition. -/
import Derived.Test.YtabickmaeklfmaaWaits
namespace Go.Proofs.Ytabickmaeklfmaa.lawDropTimes
open Go.ChangeShapes Go.WideShapes Go.ChangeAt Go.RowKit
set_option linter.unusedVariables false
theorem dtR_len (i n : Int) : (dtR i n).1.length ≤ 40 := by
  unfold dtR
  split
  · simp [times]; omega
  · simp
theorem walk (i : Int) (_ : IB i) (n : Int) (_ : IB n) (w : World) :
    Calls Try.prog 8 #[.int .i64 i, .int .i64 n] w fun e w' => e = .returned (.bool true) ∧ Below w.heap.size w w' := by
  have hlen := dtR_len i n
  go_enter Try.func8, Try.ntmps8
  go_wp2_with fail
  refine (specDropTimes_any _ _ _).mono ?_
  rintro e w1 ⟨A_v, n_v, cap_v, rfl, ho1, hb1⟩
  have HN_v := Lib.hid ho1.len
  have HO_v_1 := Lib.hid ho1
  clear ho1
  have z1 := hb1.size
  (try simp at z1)
  have HB_1 := Lib.hid (bt (b0 w) hb1)
  go_wp2_with fail
  refine (implDropTimes_any _ _ _).mono ?_
  rintro e w2 ⟨A_g, n_g, cap_g, rfl, ho2, hb2⟩
  have HN_g := Lib.hid ho2.len
  have HO_g_2 := Lib.hid ho2
  clear ho2
  have z2 := hb2.size
  (try simp at z2)
  have HO_v_2 := Lib.hid (HO_v_1.out.below hb2 (by omega))
  clear HO_v_1
  have HB_2 := Lib.hid (bt HB_1.out hb2)
  obtain rfl : n_g = n_v := by have := HN_g.out; have := HN_v.out; omega
  have HG := Lib.hid (show (dtR i n).1.length = n_g by have := HN_v.out; omega)
  have hnv : n_g ≤ 40 := by have := HG.out; omega
  go_wp2_with fail
  refine (eqIntS_any _ _ _ _ _ (dtR i n).1 _ HG.out (by omega) HO_g_2.out.row HO_v_2.out.row).mono ?_
  rintro e w3 ⟨rfl, hb3⟩
  have z3 := hb3.size
  (try simp at z3)
  have HO_v_3 := Lib.hid (HO_v_2.out.below hb3 (by omega))
  clear HO_v_2
  have HO_g_3 := Lib.hid (HO_g_2.out.below hb3 (by omega))
  clear HO_g_2
  have HB_3 := Lib.hid (bt HB_2.out hb3)
  go_wp2_with fail
  refine (markIntS_any _ _ _ (dtR i n).1 1 _ _ _ HO_g_3.out (by omega) (by omega) (by omega)).mono ?_
  rintro e w4 ⟨rfl, ho4, hb4⟩
  have HO_g_4 := Lib.hid ho4
  clear ho4 HO_g_3
  have z4 := hb4.size
  (try simp at z4)
  have HO_v_4 := Lib.hid (HO_v_3.out.chg hb4 (by omega))
  clear HO_v_3
  have HB_4 := Lib.hid (Chg.below HB_3.out hb4 (by omega))
  go_wp2_with fail
  refine (heldIntS_any _ _ _ 1 _ HO_g_4.out.row (by omega) (by omega) (by omega)).mono ?_
  rintro e w5 ⟨rfl, hb5⟩
  have z5 := hb5.size
  (try simp at z5)
  have HO_v_5 := Lib.hid (HO_v_4.out.below hb5 (by omega))
  clear HO_v_4
  have HO_g_5 := Lib.hid (HO_g_4.out.below hb5 (by omega))
  clear HO_g_4
  have HB_5 := Lib.hid (bt HB_4.out hb5)
  go_wp2_with fail
  refine (implDropTimes_any _ _ _).mono ?_
  rintro e w6 ⟨A_h, n_h, cap_h, rfl, ho6, hb6⟩
  have HN_h := Lib.hid ho6.len
  have HO_h_6 := Lib.hid ho6
  clear ho6
  have z6 := hb6.size
  (try simp at z6)
  have HO_v_6 := Lib.hid (HO_v_5.out.below hb6 (by omega))
  clear HO_v_5
  have HO_g_6 := Lib.hid (HO_g_5.out.below hb6 (by omega))
  clear HO_g_5
  have HB_6 := Lib.hid (bt HB_5.out hb6)
  obtain rfl : n_h = n_g := by have := HN_h.out; have := HG.out; omega
  go_wp2_with fail
  refine (eqIntS_any _ _ _ _ _ (dtR i n).1 _ HG.out (by omega) HO_h_6.out.row HO_v_6.out.row).mono ?_
  rintro e w7 ⟨rfl, hb7⟩
  have z7 := hb7.size
  (try simp at z7)
  have HO_v_7 := Lib.hid (HO_v_6.out.below hb7 (by omega))
  clear HO_v_6
  have HO_g_7 := Lib.hid (HO_g_6.out.below hb7 (by omega))
  clear HO_g_6
  have HO_h_7 := Lib.hid (HO_h_6.out.below hb7 (by omega))
  clear HO_h_6
  have HB_7 := Lib.hid (bt HB_6.out hb7)
  go_wp2_with fail
  refine (heldIntS_any _ _ _ 1 _ HO_g_7.out.row (by omega) (by omega) (by omega)).mono ?_
  rintro e w8 ⟨rfl, hb8⟩
  have z8 := hb8.size
  (try simp at z8)
  have HO_v_8 := Lib.hid (HO_v_7.out.below hb8 (by omega))
  clear HO_v_7
  have HO_g_8 := Lib.hid (HO_g_7.out.below hb8 (by omega))
  clear HO_g_7
  have HO_h_8 := Lib.hid (HO_h_7.out.below hb8 (by omega))
  clear HO_h_7
  have HB_8 := Lib.hid (bt HB_7.out hb8)
  go_wp2_with fail
  go_ret
  exact ⟨rfl, HB_8.out⟩
theorem own : ownKnob Try.prog.godebug = none := by kernel_rfl
theorem laidOut : laidOutB Try.prog = true := by kernel_rfl
set_option maxRecDepth 100000 in
theorem lifted (os : Os) (started : os.Started) (H : Type) (enc : TypeId × Value → H) :
    ReturnsInHanded {} Try.checked os 8 .any (Rows.fnExactDropTimesSpec.pre6 enc Try.prog Try.f8 Rows.fnExactDropTimesRow.domain false) (Rows.fnExactDropTimesSpec.post enc Try.prog Try.f8 false true false false) := by
  refine returnsInHanded_of_change (C := Try.checked) own started (by kernel_rfl) Try.func8
    (ChangeSpec.witness6 (enc := enc) (C := Try.checked) false ⟨#[], #[.int .i64 0, .int .i64 0], []⟩ 8 (by kernel_rfl) (by kernel_rfl) (by kernel_rfl) (by kernel_rfl)) ?_
  intro W base args ds gs before hval0 hW hcnd _
  have hval : ∀ (j : Nat) t v, Try.f8.params[j]? = some t → args[j]? = some v → Value.okWide Try.prog W .any base t v := hval0
  have hW' := hW
  obtain ⟨p, q, hA0, hV, rfl, hfz, hnd⟩ := hW
  have hA : DataW.TrodAll enc Try.prog W 0 (fun _ => true) true Try.f8.params.toList args.toList ds p := hA0
  rw [Try.params8] at hA hval
  obtain ⟨v0, vs0, d0, ds0, p0, q0, hargs, rfl, rfl, h0, r0⟩ := trodAll_cons hA
  obtain ⟨v1, vs1, d1, ds1, p1, q1, rfl, rfl, rfl, h1, r1⟩ := trodAll_cons r0
  obtain ⟨rfl, rfl, rfl⟩ := trodAll_nil r1
  obtain rfl : args = #[v0, v1] := by cases args; simp_all
  obtain ⟨rfl, rfl⟩ := trodVars_none hV
  have k0 := h0
  have lt0 : ∀ x ∈ p0, x.block < W.heap.size := by obtain ⟨m, hm⟩ := k0; exact DataW.trod_lt m _ _ _ hm
  have k1 := h1
  have lt1 : ∀ x ∈ p1, x.block < W.heap.size := by obtain ⟨m, hm⟩ := k1; exact DataW.trod_lt m _ _ _ hm
  obtain ⟨a0, rfl, rfl, rfl, wf0⟩ := open_int Try.underlying3 (hval 0 3 v0 rfl rfl) h0
  obtain ⟨a1, rfl, rfl, rfl, wf1⟩ := open_int Try.underlying3 (hval 1 3 v1 rfl rfl) h1
  clear hA0 hval0
  refine (walk a0 (ibounds wf0) a1 (ibounds wf1) W).mono fun e W' ⟨he, bel⟩ => ?_
  subst he
  exact ⟨_, rfl, _, _, _, [], _, [], hW', trodAll_mk1 (shut_bool Try.underlying4 _), (trodAll_cons_mk (Below.trod laidOut (by kernel_rfl) (of_decide_eq_true (by kernel_rfl)) k0 bel lt0) (trodAll_cons_mk (Below.trod laidOut (by kernel_rfl) (of_decide_eq_true (by kernel_rfl)) k1 bel lt1) trodAll_mk0)), rfl, bel.frame _, fun h => by cases h⟩
theorem over : Rows.fnExactDropTimesRow.holds Try.pinned (OpenSpec.ofChange Rows.fnExactDropTimesSpec) :=
  OpenClaim.holds_of_wide 8 Try.f8 rfl rfl rfl rfl rfl rfl rfl ⟨rfl, rfl, rfl, rfl, rfl⟩ rfl rfl rfl rfl rfl (by kernel_rfl) Try.func8 (by kernel_rfl)
    (of_decide_eq_true (by kernel_rfl)) (by unfold Func.isWrapper; first | (rw [if_pos (by decide +kernel)]; kernel_rfl) | (rw [if_neg (by decide +kernel)]; exact ⟨rfl, rfl⟩))
    (fun os started H enc _ => lifted os started H enc)
/-- The given statement. -/
theorem proved : Rows.FnExactDropTimesSaid := over
#print axioms proved
end Go.Proofs.Ytabickmaeklfmaa.lawDropTimes
