/- The statement FnExactAreOpsSaid: for every input the law FnExactAreOps returns true, and its arguments read as before. No condition. -/
import Derived.Test.YtgcbpooflecbpaaOps3
namespace Go.Proofs.Ytgcbpooflecbpaa.lawAreOps
open Go.ChangeShapes Go.WideShapes Go.ChangeAt Go.RowKit
set_option linter.unusedVariables false
theorem szC (A : Option Addr) (n cap : Nat) (w : World) (hn : n ≤ 9223372036854775807) :
    Calls Try.prog 13 #[.slice A n cap, .int .i64 1048576] w fun e w' => e = .returned (.int .i64 (if n ≤ 1048576 then 1048576 - (n : Int) else -1)) ∧ w = w' := by
  by_cases h : n ≤ 1048576
  · have h' : ¬ (1048576 : Int) < n := by omega
    have hR := Lib.hid (show (if n ≤ 1048576 then 1048576 - (n : Int) else -1) = 1048576 - (n : Int) by simp [h])
    go_enter Try.func13, Try.ntmps13
    go_wp2_with fail
    go_ret
    exact ⟨rfl, rfl⟩
  · have h' : (1048576 : Int) < n := by omega
    have hR := Lib.hid (show (if n ≤ 1048576 then 1048576 - (n : Int) else -1) = -1 by simp [h])
    go_enter Try.func13, Try.ntmps13
    go_wp2_with fail
    go_ret
    exact ⟨rfl, rfl⟩
theorem walk (w : World) (A : Option Addr) (n cap : Nat) (l : List Int) (h : IRow w A l ∧ l.length = n * 8 ∧ n ≤ 9223372036854775807 ∧ IBs l) :
    Calls Try.prog 3 #[.slice A n cap] w fun e w' => e = .returned (.bool true) ∧ Below w.heap.size w w' := by
  obtain ⟨hr, hl, hn, _⟩ := h
  obtain ⟨L, hL, rfl⟩ := unflo n l hl
  have HL := Lib.hid hl
  have HLL := Lib.hid hL
  have HR_a := Lib.hid hr
  clear hl hr hL
  by_cases hbig : n ≤ 1048576
  rotate_left
  · go_enter Try.func3, Try.ntmps3
    go_wp2_with fail
    refine (szC _ _ _ _ hn).mono ?_
    rw [if_neg hbig]
    rintro e w' ⟨rfl, rfl⟩
    go_wp2_with fail
    go_ret
    exact ⟨rfl, (by repeat (first | (with_reducible exact b0 _) | (with_reducible refine ba ?_ _) | (with_reducible refine bd ?_ _) | (with_reducible refine Below.drew ?_) | (with_reducible refine bs ?_ (by first | exact Nat.le_refl _ | exact Nat.le_add_right _ _ | omega) _) | (with_reducible refine bt ?_ (by assumption))))⟩
  go_enter Try.func3, Try.ntmps3
  go_wp2_with fail
  refine (szC _ _ _ _ hn).mono ?_
  rw [if_pos hbig]
  rintro e w' ⟨rfl, rfl⟩
  go_wp2_with fail
  refine (toOpS_any A n cap (flo L) _ HL.out (HR_a.out.below (b0 w)) (by omega)).mono ?_
  rintro e w1 ⟨A_s, n_s, cap_s, rfl, ho1, hb1⟩
  have HN_s := Lib.hid ho1.len
  have HO_s_1 := Lib.hid ho1
  clear ho1
  have z1 := hb1.size
  (try simp at z1)
  have HB_1 := Lib.hid (bt (b0 w) hb1)
  obtain rfl : n_s = n := by have := HN_s.out; have := HL.out; omega
  go_wp2_with fail
  refine (specAreOps_any _ _ _ L _ HLL.out HO_s_1.out.row (by omega)).mono ?_
  rintro e w2 ⟨rfl, hb2⟩
  have z2 := hb2.size
  (try simp at z2)
  have HO_s_2 := Lib.hid (HO_s_1.out.below hb2 (by omega))
  clear HO_s_1
  have HB_2 := Lib.hid (bt HB_1.out hb2)
  go_wp2_with fail
  refine (toOpS_any A _ cap (flo L) _ HL.out (HR_a.out.below HB_2.out) (by omega)).mono ?_
  rintro e w3 ⟨A_x, n_x, cap_x, rfl, ho3, hb3⟩
  have HN_x := Lib.hid ho3.len
  have HO_x_3 := Lib.hid ho3
  clear ho3
  have z3 := hb3.size
  (try simp at z3)
  have HO_s_3 := Lib.hid (HO_s_2.out.below hb3 (by omega))
  clear HO_s_2
  have HB_3 := Lib.hid (bt HB_2.out hb3)
  obtain rfl : n_x = n_s := by have := HN_x.out; have := HL.out; omega
  have hcx := HO_x_3.out.cap
  go_wp2_with fail
  refine (implAreOps_any _ _ _ L _ HLL.out HO_x_3.out.row (by omega) hcx).mono ?_
  rintro e w4 ⟨rfl, hb4⟩
  have z4 := hb4.size
  (try simp at z4)
  have HO_s_4 := Lib.hid (HO_s_3.out.below hb4 (by omega))
  clear HO_s_3
  have HO_x_4 := Lib.hid (HO_x_3.out.below hb4 (by omega))
  clear HO_x_3
  have HB_4 := Lib.hid (bt HB_3.out hb4)
  go_wp2_with fail
  refine (toOpS_any A _ cap (flo L) _ HL.out (HR_a.out.below HB_4.out) (by omega)).mono ?_
  rintro e w5 ⟨A_y, n_y, cap_y, rfl, ho5, hb5⟩
  have HN_y := Lib.hid ho5.len
  have HO_y_5 := Lib.hid ho5
  clear ho5
  have z5 := hb5.size
  (try simp at z5)
  have HO_s_5 := Lib.hid (HO_s_4.out.below hb5 (by omega))
  clear HO_s_4
  have HO_x_5 := Lib.hid (HO_x_4.out.below hb5 (by omega))
  clear HO_x_4
  have HB_5 := Lib.hid (bt HB_4.out hb5)
  obtain rfl : n_y = n_x := by have := HN_y.out; have := HL.out; omega
  go_wp2_with fail
  refine (eqOpS_any _ _ _ _ _ (flo L) _ HL.out (by omega) HO_x_5.out.row HO_y_5.out.row).mono ?_
  rintro e w6 ⟨rfl, hb6⟩
  have z6 := hb6.size
  (try simp at z6)
  have HO_s_6 := Lib.hid (HO_s_5.out.below hb6 (by omega))
  clear HO_s_5
  have HO_x_6 := Lib.hid (HO_x_5.out.below hb6 (by omega))
  clear HO_x_5
  have HO_y_6 := Lib.hid (HO_y_5.out.below hb6 (by omega))
  clear HO_y_5
  have HB_6 := Lib.hid (bt HB_5.out hb6)
  go_wp2_with fail
  go_ret
  exact ⟨rfl, HB_6.out⟩
theorem own : ownKnob Try.prog.godebug = none := by kernel_rfl
theorem laidOut : laidOutB Try.prog = true := by kernel_rfl
set_option maxRecDepth 100000 in
theorem lifted (os : Os) (started : os.Started) (H : Type) (enc : TypeId × Value → H) :
    ReturnsInHanded {} Try.checked os 3 .any (Rows.fnExactAreOpsSpec.pre6 enc Try.prog Try.f3 Rows.fnExactAreOpsRow.domain false) (Rows.fnExactAreOpsSpec.post enc Try.prog Try.f3 false true false false) := by
  refine returnsInHanded_of_change (C := Try.checked) own started (by kernel_rfl) Try.func3
    (ChangeSpec.witness6 (enc := enc) (C := Try.checked) false ⟨#[], #[.slice none 0 0], []⟩ 8 (by kernel_rfl) (by kernel_rfl) (by kernel_rfl) (by kernel_rfl)) ?_
  intro W base args ds gs before hval0 hW hcnd _
  have hval : ∀ (j : Nat) t v, Try.f3.params[j]? = some t → args[j]? = some v → Value.okWide Try.prog W .any base t v := hval0
  have hW' := hW
  obtain ⟨p, q, hA0, hV, rfl, hfz, hnd⟩ := hW
  have hA : DataW.TrodAll enc Try.prog W 0 (fun _ => true) true Try.f3.params.toList args.toList ds p := hA0
  rw [Try.params3] at hA hval
  obtain ⟨v0, vs0, d0, ds0, p0, q0, hargs, rfl, rfl, h0, r0⟩ := trodAll_cons hA
  obtain ⟨rfl, rfl, rfl⟩ := trodAll_nil r0
  obtain rfl : args = #[v0] := by cases args; simp_all
  obtain ⟨rfl, rfl⟩ := trodVars_none hV
  have k0 := h0
  have lt0 : ∀ x ∈ p0, x.block < W.heap.size := by obtain ⟨m, hm⟩ := k0; exact DataW.trod_lt m _ _ _ hm
  obtain ⟨A0, len0, cap0, rfl⟩ := okWide_slice Try.underlying22 (hval 0 22 v0 rfl rfl)
  obtain ⟨l0, hr0⟩ := rows_row (s := 8) Try.underlying22 (by kernel_rfl) (by decide) (flatOp enc W) h0
  clear hA0 hval0
  refine (walk W A0 len0 cap0 l0 hr0).mono fun e W' ⟨he, bel⟩ => ?_
  subst he
  exact ⟨_, rfl, _, _, _, [], _, [], hW', trodAll_mk1 (shut_bool Try.underlying4 _), (trodAll_cons_mk (Below.trod laidOut (by kernel_rfl) (of_decide_eq_true (by kernel_rfl)) k0 bel lt0) trodAll_mk0), rfl, bel.frame _, fun h => by cases h⟩
theorem over : Rows.fnExactAreOpsRow.holds Try.pinned (OpenSpec.ofChange Rows.fnExactAreOpsSpec) :=
  OpenClaim.holds_of_wide 3 Try.f3 rfl rfl rfl rfl rfl rfl rfl ⟨rfl, rfl, rfl, rfl, rfl⟩ rfl rfl rfl rfl rfl (by kernel_rfl) Try.func3 (by kernel_rfl)
    (of_decide_eq_true (by kernel_rfl)) (by unfold Func.isWrapper; first | (rw [if_pos (by decide +kernel)]; kernel_rfl) | (rw [if_neg (by decide +kernel)]; exact ⟨rfl, rfl⟩))
    (fun os started H enc _ => lifted os started H enc)
/-- The given statement. -/
theorem proved : Rows.FnExactAreOpsSaid := over
#print axioms proved
end Go.Proofs.Ytgcbpooflecbpaa.lawAreOps
