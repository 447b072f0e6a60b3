/- The statement FnExactConformsSaid: for every input the law FnExactConforms returns true, and its arguments read as before. No condition. -/
import Derived.Test.YtleknfigikpacaaConf
namespace Go.Proofs.Ytleknfigikpacaa.lawConforms
open Go.ChangeShapes Go.WideShapes Go.ChangeAt Go.RowKit
set_option linter.unusedVariables false
theorem szC (A : Option Addr) (n cap : Nat) (w : World) (hn : n ≤ 9223372036854775807) :
    Calls Try.prog 30 #[.slice A n cap, .int .i64 1048576] w fun e w' => e = .returned (.int .i64 (if n ≤ 1048576 then 1048576 - (n : Int) else -1)) ∧ w = w' := by
  by_cases h : n ≤ 1048576
  · have h' : ¬ (1048576 : Int) < n := by omega
    have hR := Lib.hid (show (if n ≤ 1048576 then 1048576 - (n : Int) else -1) = 1048576 - (n : Int) by simp [h])
    go_enter Try.func30, Try.ntmps30
    go_wp2_with fail
    go_ret
    exact ⟨rfl, rfl⟩
  · have h' : (1048576 : Int) < n := by omega
    have hR := Lib.hid (show (if n ≤ 1048576 then 1048576 - (n : Int) else -1) = -1 by simp [h])
    go_enter Try.func30, Try.ntmps30
    go_wp2_with fail
    go_ret
    exact ⟨rfl, rfl⟩
theorem walk (w : World) (r : Int) (_ : IB r) (c : Int) (_ : IB c) (t : Int) (_ : IB t) (A : Option Addr) (n cap : Nat) (l : List Int) (h : IRow w A l ∧ l.length = n * 2 ∧ n ≤ 9223372036854775807 ∧ IBs l) :
    Calls Try.prog 12 #[.agg #[.int .i64 r, .int .i64 c, .int .i64 t], .slice A n cap] w fun e w' => e = .returned (.bool true) ∧ Below w.heap.size w w' := by
  obtain ⟨hr, hl, hn, _⟩ := h
  have HL := Lib.hid hl
  have HR_a := Lib.hid hr
  clear hl hr
  by_cases hbig : n ≤ 1048576
  rotate_left
  · go_enter Try.func12, Try.ntmps12
    go_wp2_with fail
    refine (szC _ _ _ _ hn).mono ?_
    rw [if_neg hbig]
    rintro e w' ⟨rfl, rfl⟩
    go_wp2_with fail
    go_ret
    exact ⟨rfl, (by repeat (first | (with_reducible exact b0 _) | (with_reducible refine ba ?_ _) | (with_reducible refine bd ?_ _) | (with_reducible refine Below.drew ?_) | (with_reducible refine bs ?_ (by first | exact Nat.le_refl _ | exact Nat.le_add_right _ _ | omega) _) | (with_reducible refine bt ?_ (by assumption))))⟩
  go_enter Try.func12, Try.ntmps12
  go_wp2_with fail
  refine (szC _ _ _ _ hn).mono ?_
  rw [if_pos hbig]
  rintro e w' ⟨rfl, rfl⟩
  go_wp2_with fail
  refine (toBucket_any _ _ _ _).mono ?_
  rintro e w1 ⟨rfl, hb1⟩
  have z1 := hb1.size
  (try simp at z1)
  have c1_0 := fun o => bkeep hb1 (w.heap.size) o (by first | omega | (simp; done) | (simp; omega))
  have q1_0 : w.heap.size < w1.heap.size := by omega
  have HB_1 := Lib.hid (bt (ba (b0 w) _) hb1)
  go_wp2_with fail
  refine (toSendS_any A n cap l _ HL.out (HR_a.out.below HB_1.out) (by omega)).mono ?_
  rintro e w2 ⟨A_s, n_s, cap_s, rfl, ho2, hb2⟩
  have HN_s := Lib.hid ho2.len
  have HO_s_2 := Lib.hid ho2
  clear ho2
  have z2 := hb2.size
  (try simp at z2)
  have c2_0 := fun o => bkeep hb2 (w.heap.size) o (by first | omega | (simp; done) | (simp; omega))
  have q2_0 : w.heap.size < w2.heap.size := by omega
  have HB_2 := Lib.hid (bt HB_1.out hb2)
  obtain rfl : n_s = n := by have := HN_s.out; have := HL.out; omega
  go_wp2_with fail
  refine (specConforms_any _ _ _ _ _ _ l _ HL.out HO_s_2.out.row (by omega)).mono ?_
  rintro e w3 ⟨rfl, hb3⟩
  have z3 := hb3.size
  (try simp at z3)
  have c3_0 := fun o => bkeep hb3 (w.heap.size) o (by first | omega | (simp; done) | (simp; omega))
  have q3_0 : w.heap.size < w3.heap.size := by omega
  have HO_s_3 := Lib.hid (HO_s_2.out.below hb3 (by omega))
  clear HO_s_2
  have HB_3 := Lib.hid (bt HB_2.out hb3)
  go_wp2_with fail
  refine (toSendS_any A _ cap l _ HL.out (HR_a.out.below HB_3.out) (by omega)).mono ?_
  rintro e w4 ⟨A_x, n_x, cap_x, rfl, ho4, hb4⟩
  have HN_x := Lib.hid ho4.len
  have HO_x_4 := Lib.hid ho4
  clear ho4
  have z4 := hb4.size
  (try simp at z4)
  have c4_0 := fun o => bkeep hb4 (w.heap.size) o (by first | omega | (simp; done) | (simp; omega))
  have q4_0 : w.heap.size < w4.heap.size := by omega
  have HO_s_4 := Lib.hid (HO_s_3.out.below hb4 (by omega))
  clear HO_s_3
  have HB_4 := Lib.hid (bt HB_3.out hb4)
  obtain rfl : n_x = n_s := by have := HN_x.out; have := HL.out; omega
  go_wp2_with fail
  refine (toBucket_any _ _ _ _).mono ?_
  rintro e w5 ⟨rfl, hb5⟩
  have z5 := hb5.size
  (try simp at z5)
  have c5_0 := fun o => bkeep hb5 (w.heap.size) o (by first | omega | (simp; done) | (simp; omega))
  have q5_0 : w.heap.size < w5.heap.size := by omega
  have HO_s_5 := Lib.hid (HO_s_4.out.below hb5 (by omega))
  clear HO_s_4
  have HO_x_5 := Lib.hid (HO_x_4.out.below hb5 (by omega))
  clear HO_x_4
  have HB_5 := Lib.hid (bt HB_4.out hb5)
  go_wp2_with fail
  refine (implConforms_any _ _ _ _ _ _ l _ HL.out HO_x_5.out.row (by omega)).mono ?_
  rintro e w6 ⟨rfl, hb6⟩
  have z6 := hb6.size
  (try simp at z6)
  have c6_0 := fun o => bkeep hb6 (w.heap.size) o (by first | omega | (simp; done) | (simp; omega))
  have q6_0 : w.heap.size < w6.heap.size := by omega
  have HO_s_6 := Lib.hid (HO_s_5.out.below hb6 (by omega))
  clear HO_s_5
  have HO_x_6 := Lib.hid (HO_x_5.out.below hb6 (by omega))
  clear HO_x_5
  have HB_6 := Lib.hid (bt HB_5.out hb6)
  go_wp2_with fail
  refine (toSendS_any A _ cap l _ HL.out (HR_a.out.below HB_6.out) (by omega)).mono ?_
  rintro e w7 ⟨A_y, n_y, cap_y, rfl, ho7, hb7⟩
  have HN_y := Lib.hid ho7.len
  have HO_y_7 := Lib.hid ho7
  clear ho7
  have z7 := hb7.size
  (try simp at z7)
  have c7_0 := fun o => bkeep hb7 (w.heap.size) o (by first | omega | (simp; done) | (simp; omega))
  have q7_0 : w.heap.size < w7.heap.size := by omega
  have HO_s_7 := Lib.hid (HO_s_6.out.below hb7 (by omega))
  clear HO_s_6
  have HO_x_7 := Lib.hid (HO_x_6.out.below hb7 (by omega))
  clear HO_x_6
  have HB_7 := Lib.hid (bt HB_6.out hb7)
  obtain rfl : n_y = n_x := by have := HN_y.out; have := HL.out; omega
  go_wp2_with fail
  refine (eqSendS_any _ _ _ _ _ l _ HL.out (by omega) HO_x_7.out.row HO_y_7.out.row).mono ?_
  rintro e w8 ⟨rfl, hb8⟩
  have z8 := hb8.size
  (try simp at z8)
  have c8_0 := fun o => bkeep hb8 (w.heap.size) o (by first | omega | (simp; done) | (simp; omega))
  have q8_0 : w.heap.size < w8.heap.size := by omega
  have HO_s_8 := Lib.hid (HO_s_7.out.below hb8 (by omega))
  clear HO_s_7
  have HO_x_8 := Lib.hid (HO_x_7.out.below hb8 (by omega))
  clear HO_x_7
  have HO_y_8 := Lib.hid (HO_y_7.out.below hb8 (by omega))
  clear HO_y_7
  have HB_8 := Lib.hid (bt HB_7.out hb8)
  go_wp2_with fail
  go_ret
  exact ⟨rfl, HB_8.out⟩
theorem own : ownKnob Try.prog.godebug = none := by kernel_rfl
theorem laidOut : laidOutB Try.prog = true := by kernel_rfl
set_option maxRecDepth 100000 in
theorem lifted (os : Os) (started : os.Started) (H : Type) (enc : TypeId × Value → H) :
    ReturnsInHanded {} Try.checked os 12 .any (Rows.fnExactConformsSpec.pre6 enc Try.prog Try.f12 Rows.fnExactConformsRow.domain false) (Rows.fnExactConformsSpec.post enc Try.prog Try.f12 false true false false) := by
  refine returnsInHanded_of_change (C := Try.checked) own started (by kernel_rfl) Try.func12
    (ChangeSpec.witness6 (enc := enc) (C := Try.checked) false ⟨#[], #[.agg #[.int .i64 0, .int .i64 0, .int .i64 0], .slice none 0 0], []⟩ 8 (by kernel_rfl) (by kernel_rfl) (by kernel_rfl) (by kernel_rfl)) ?_
  intro W base args ds gs before hval0 hW hcnd _
  have hval : ∀ (j : Nat) t v, Try.f12.params[j]? = some t → args[j]? = some v → Value.okWide Try.prog W .any base t v := hval0
  have hW' := hW
  obtain ⟨p, q, hA0, hV, rfl, hfz, hnd⟩ := hW
  have hA : DataW.TrodAll enc Try.prog W 0 (fun _ => true) true Try.f12.params.toList args.toList ds p := hA0
  rw [Try.params12] at hA hval
  obtain ⟨v0, vs0, d0, ds0, p0, q0, hargs, rfl, rfl, h0, r0⟩ := trodAll_cons hA
  obtain ⟨v1, vs1, d1, ds1, p1, q1, rfl, rfl, rfl, h1, r1⟩ := trodAll_cons r0
  obtain ⟨rfl, rfl, rfl⟩ := trodAll_nil r1
  obtain rfl : args = #[v0, v1] := by cases args; simp_all
  obtain ⟨rfl, rfl⟩ := trodVars_none hV
  have k0 := h0
  have lt0 : ∀ x ∈ p0, x.block < W.heap.size := by obtain ⟨m, hm⟩ := k0; exact DataW.trod_lt m _ _ _ hm
  have k1 := h1
  have lt1 : ∀ x ∈ p1, x.block < W.heap.size := by obtain ⟨m, hm⟩ := k1; exact DataW.trod_lt m _ _ _ hm
  obtain ⟨cs0, rfl, hsz0⟩ := okWide_struct Try.underlying23 (hval 0 23 v0 rfl rfl)
  obtain ⟨c0_0, c0_1, c0_2, rfl⟩ := arr3 (hsz0.trans (by kernel_rfl))
  have hf0 := h0
  obtain ⟨fu0, hf0⟩ := hf0
  simp only [Value.cells] at hf0
  obtain ⟨a0_0, ea0_0⟩ := leaf_int Try.underlying23 hf0 0 _ rfl Try.underlying3 (by kernel_rfl) rfl
  obtain ⟨ea0_0, wa0_0⟩ := ea0_0
  subst ea0_0
  obtain ⟨a0_1, ea0_1⟩ := leaf_int Try.underlying23 hf0 1 _ rfl Try.underlying3 (by kernel_rfl) rfl
  obtain ⟨ea0_1, wa0_1⟩ := ea0_1
  subst ea0_1
  obtain ⟨a0_2, ea0_2⟩ := leaf_int Try.underlying23 hf0 2 _ rfl Try.underlying3 (by kernel_rfl) rfl
  obtain ⟨ea0_2, wa0_2⟩ := ea0_2
  subst ea0_2
  obtain ⟨A1, len1, cap1, rfl⟩ := okWide_slice Try.underlying39 (hval 1 39 v1 rfl rfl)
  obtain ⟨l1, hr1⟩ := rows_row (s := 2) Try.underlying39 (by kernel_rfl) (by decide) (flatSend enc W) h1
  clear hA0 hval0
  refine (walk W a0_0 (ibounds wa0_0) a0_1 (ibounds wa0_1) a0_2 (ibounds wa0_2) A1 len1 cap1 l1 hr1).mono fun e W' ⟨he, bel⟩ => ?_
  subst he
  exact ⟨_, rfl, _, _, _, [], _, [], hW', trodAll_mk1 (shut_bool Try.underlying4 _), (trodAll_cons_mk (Below.trod laidOut (by kernel_rfl) (of_decide_eq_true (by kernel_rfl)) k0 bel lt0) (trodAll_cons_mk (Below.trod laidOut (by kernel_rfl) (of_decide_eq_true (by kernel_rfl)) k1 bel lt1) trodAll_mk0)), rfl, bel.frame _, fun h => by cases h⟩
theorem over : Rows.fnExactConformsRow.holds Try.pinned (OpenSpec.ofChange Rows.fnExactConformsSpec) :=
  OpenClaim.holds_of_wide 12 Try.f12 rfl rfl rfl rfl rfl rfl rfl ⟨rfl, rfl, rfl, rfl, rfl⟩ rfl rfl rfl rfl rfl (by kernel_rfl) Try.func12 (by kernel_rfl)
    (of_decide_eq_true (by kernel_rfl)) (by unfold Func.isWrapper; first | (rw [if_pos (by decide +kernel)]; kernel_rfl) | (rw [if_neg (by decide +kernel)]; exact ⟨rfl, rfl⟩))
    (fun os started H enc _ => lifted os started H enc)
/-- The given statement. -/
theorem proved : Rows.FnExactConformsSaid := over
#print axioms proved
end Go.Proofs.Ytleknfigikpacaa.lawConforms
