/- The statement FnExactDelayStepSaid: for every input the law FnExactDelayStep returns true, and its arguments read as before. No condition. -/
import Derived.Test.YtabickmaeklfmaaStep4
namespace Go.Proofs.Ytabickmaeklfmaa.lawDelayStep
open Go.ChangeShapes Go.WideShapes Go.ChangeAt Go.RowKit
set_option linter.unusedVariables false
theorem walk (x0_0 : Int) (_ : IB x0_0) (x0_1 : Int) (_ : IB x0_1) (x0_2 : Int) (_ : IB x0_2) (x0_3 : Bool) (x0_4 : Int) (_ : IB x0_4) (x0_5 : Int) (_ : IB x0_5) (x1 : Int) (_ : IB x1) (x2 : Int) (_ : IB x2) (x3 : Int) (_ : IB x3) (w : World) :
    Calls Try.prog 10 #[.agg #[.int .i64 x0_0, .int .i64 x0_1, .int .i64 x0_2, .bool x0_3, .int .i64 x0_4, .int .i64 x0_5], .int .i64 x1, .int .i64 x2, .int .i64 x3] w fun e w' => e = .returned (.bool true) ∧ Below w.heap.size w w' := by
  go_enter Try.func10, Try.ntmps10
  go_wp2_with fail
  refine (toDelay_any _ _ _ _ _ _ _).mono ?_
  rintro e w1 ⟨rfl, hb1⟩
  have z1 := hb1.size
  (try simp at z1)
  have c1_0 := fun o => bkeep hb1 (w.heap.size) o (by first | omega | (simp; done) | (simp; omega))
  have q1_0 : w.heap.size < w1.heap.size := by omega
  go_wp2_with fail
  refine (specDelayStep_any _ _ _ _ _ _ _ _ _ _).mono ?_
  rintro e w2 ⟨rfl, hb2⟩
  have z2 := hb2.size
  (try simp at z2)
  have c2_0 := fun o => bkeep hb2 (w.heap.size) o (by first | omega | (simp; done) | (simp; omega))
  have q2_0 : w.heap.size < w2.heap.size := by omega
  go_wp2_with fail
  refine (toDelay_any _ _ _ _ _ _ _).mono ?_
  rintro e w3 ⟨rfl, hb3⟩
  have z3 := hb3.size
  (try simp at z3)
  have c3_0 := fun o => bkeep hb3 (w.heap.size) o (by first | omega | (simp; done) | (simp; omega))
  have q3_0 : w.heap.size < w3.heap.size := by omega
  have c3_1 := fun o => bkeep hb3 (w2.heap.size) o (by first | omega | (simp; done) | (simp; omega))
  have q3_1 : w2.heap.size < w3.heap.size := by omega
  go_wp2_with fail
  refine (implDelayStep_any _ _ _ _ _ _ _ _ _ _).mono ?_
  rintro e w4 ⟨rfl, hb4⟩
  have z4 := hb4.size
  (try simp at z4)
  have c4_0 := fun o => bkeep hb4 (w.heap.size) o (by first | omega | (simp; done) | (simp; omega))
  have q4_0 : w.heap.size < w4.heap.size := by omega
  have c4_1 := fun o => bkeep hb4 (w2.heap.size) o (by first | omega | (simp; done) | (simp; omega))
  have q4_1 : w2.heap.size < w4.heap.size := by omega
  go_wp2_with fail
  refine (eqDelay_any _ _ _ _ _ _ _).mono ?_
  rintro e w5 ⟨rfl, hb5⟩
  have z5 := hb5.size
  (try simp at z5)
  have c5_0 := fun o => bkeep hb5 (w.heap.size) o (by first | omega | (simp; done) | (simp; omega))
  have q5_0 : w.heap.size < w5.heap.size := by omega
  have c5_1 := fun o => bkeep hb5 (w2.heap.size) o (by first | omega | (simp; done) | (simp; omega))
  have q5_1 : w2.heap.size < w5.heap.size := by omega
  have c5_2 := fun o => bkeep hb5 (w4.heap.size) o (by first | omega | (simp; done) | (simp; omega))
  have q5_2 : w4.heap.size < w5.heap.size := by omega
  go_wp2
  go_ret
  exact ⟨rfl, (by repeat (first | (with_reducible exact b0 _) | (with_reducible refine ba ?_ _) | (with_reducible refine bd ?_ _) | (with_reducible refine Below.drew ?_) | (with_reducible refine bs ?_ (by first | exact Nat.le_refl _ | exact Nat.le_add_right _ _ | omega) _) | (with_reducible refine bt ?_ (by assumption))))⟩
theorem own : ownKnob Try.prog.godebug = none := by kernel_rfl
theorem laidOut : laidOutB Try.prog = true := by kernel_rfl
set_option maxRecDepth 100000 in
theorem lifted (os : Os) (started : os.Started) (H : Type) (enc : TypeId × Value → H) :
    ReturnsInHanded {} Try.checked os 10 .any (Rows.fnExactDelayStepSpec.pre6 enc Try.prog Try.f10 Rows.fnExactDelayStepRow.domain false) (Rows.fnExactDelayStepSpec.post enc Try.prog Try.f10 false true false false) := by
  refine returnsInHanded_of_change (C := Try.checked) own started (by kernel_rfl) Try.func10
    (ChangeSpec.witness6 (enc := enc) (C := Try.checked) false ⟨#[], #[.agg #[.int .i64 0, .int .i64 0, .int .i64 0, .bool false, .int .i64 0, .int .i64 0], .int .i64 0, .int .i64 0, .int .i64 0], []⟩ 8 (by kernel_rfl) (by kernel_rfl) (by kernel_rfl) (by kernel_rfl)) ?_
  intro W base args ds gs before hval0 hW hcnd _
  have hval : ∀ (j : Nat) t v, Try.f10.params[j]? = some t → args[j]? = some v → Value.okWide Try.prog W .any base t v := hval0
  have hW' := hW
  obtain ⟨p, q, hA0, hV, rfl, hfz, hnd⟩ := hW
  have hA : DataW.TrodAll enc Try.prog W 0 (fun _ => true) true Try.f10.params.toList args.toList ds p := hA0
  rw [Try.params10] at hA hval
  obtain ⟨v0, vs0, d0, ds0, p0, q0, hargs, rfl, rfl, h0, r0⟩ := trodAll_cons hA
  obtain ⟨v1, vs1, d1, ds1, p1, q1, rfl, rfl, rfl, h1, r1⟩ := trodAll_cons r0
  obtain ⟨v2, vs2, d2, ds2, p2, q2, rfl, rfl, rfl, h2, r2⟩ := trodAll_cons r1
  obtain ⟨v3, vs3, d3, ds3, p3, q3, rfl, rfl, rfl, h3, r3⟩ := trodAll_cons r2
  obtain ⟨rfl, rfl, rfl⟩ := trodAll_nil r3
  obtain rfl : args = #[v0, v1, v2, v3] := by cases args; simp_all
  obtain ⟨rfl, rfl⟩ := trodVars_none hV
  have k0 := h0
  have lt0 : ∀ x ∈ p0, x.block < W.heap.size := by obtain ⟨m, hm⟩ := k0; exact DataW.trod_lt m _ _ _ hm
  have k1 := h1
  have lt1 : ∀ x ∈ p1, x.block < W.heap.size := by obtain ⟨m, hm⟩ := k1; exact DataW.trod_lt m _ _ _ hm
  have k2 := h2
  have lt2 : ∀ x ∈ p2, x.block < W.heap.size := by obtain ⟨m, hm⟩ := k2; exact DataW.trod_lt m _ _ _ hm
  have k3 := h3
  have lt3 : ∀ x ∈ p3, x.block < W.heap.size := by obtain ⟨m, hm⟩ := k3; exact DataW.trod_lt m _ _ _ hm
  obtain ⟨cs0, rfl, hsz0⟩ := okWide_struct Try.underlying23 (hval 0 23 v0 rfl rfl)
  obtain ⟨c0_0, c0_1, c0_2, c0_3, c0_4, c0_5, rfl⟩ := arr6 (hsz0.trans (by kernel_rfl))
  have hf0 := h0
  obtain ⟨fu0, hf0⟩ := hf0
  simp only [Value.cells] at hf0
  obtain ⟨a0_0, ea0_0⟩ := leaf_int Try.underlying23 hf0 0 _ rfl Try.underlying3 (by kernel_rfl) rfl
  obtain ⟨ea0_0, wa0_0⟩ := ea0_0
  subst ea0_0
  obtain ⟨a0_1, ea0_1⟩ := leaf_int Try.underlying23 hf0 1 _ rfl Try.underlying3 (by kernel_rfl) rfl
  obtain ⟨ea0_1, wa0_1⟩ := ea0_1
  subst ea0_1
  obtain ⟨a0_2, ea0_2⟩ := leaf_int Try.underlying23 hf0 2 _ rfl Try.underlying3 (by kernel_rfl) rfl
  obtain ⟨ea0_2, wa0_2⟩ := ea0_2
  subst ea0_2
  obtain ⟨a0_3, ea0_3⟩ := leaf_bool Try.underlying23 hf0 3 _ rfl Try.underlying4 (by kernel_rfl) rfl
  have wa0_3 := trivial
  subst ea0_3
  obtain ⟨a0_4, ea0_4⟩ := leaf_int Try.underlying23 hf0 4 _ rfl Try.underlying3 (by kernel_rfl) rfl
  obtain ⟨ea0_4, wa0_4⟩ := ea0_4
  subst ea0_4
  obtain ⟨a0_5, ea0_5⟩ := leaf_int Try.underlying23 hf0 5 _ rfl Try.underlying3 (by kernel_rfl) rfl
  obtain ⟨ea0_5, wa0_5⟩ := ea0_5
  subst ea0_5
  obtain ⟨a1, rfl, rfl, rfl, wf1⟩ := open_int Try.underlying3 (hval 1 3 v1 rfl rfl) h1
  obtain ⟨a2, rfl, rfl, rfl, wf2⟩ := open_int Try.underlying3 (hval 2 3 v2 rfl rfl) h2
  obtain ⟨a3, rfl, rfl, rfl, wf3⟩ := open_int Try.underlying3 (hval 3 3 v3 rfl rfl) h3
  clear hA0 hval0
  refine (walk a0_0 (ibounds wa0_0) a0_1 (ibounds wa0_1) a0_2 (ibounds wa0_2) a0_3 a0_4 (ibounds wa0_4) a0_5 (ibounds wa0_5) a1 (ibounds wf1) a2 (ibounds wf2) a3 (ibounds wf3) W).mono fun e W' ⟨he, bel⟩ => ?_
  subst he
  exact ⟨_, rfl, _, _, _, [], _, [], hW', trodAll_mk1 (shut_bool Try.underlying4 _), (trodAll_cons_mk (Below.trod laidOut (by kernel_rfl) (of_decide_eq_true (by kernel_rfl)) k0 bel lt0) (trodAll_cons_mk (Below.trod laidOut (by kernel_rfl) (of_decide_eq_true (by kernel_rfl)) k1 bel lt1) (trodAll_cons_mk (Below.trod laidOut (by kernel_rfl) (of_decide_eq_true (by kernel_rfl)) k2 bel lt2) (trodAll_cons_mk (Below.trod laidOut (by kernel_rfl) (of_decide_eq_true (by kernel_rfl)) k3 bel lt3) trodAll_mk0)))), rfl, bel.frame _, fun h => by cases h⟩
theorem over : Rows.fnExactDelayStepRow.holds Try.pinned (OpenSpec.ofChange Rows.fnExactDelayStepSpec) :=
  OpenClaim.holds_of_wide 10 Try.f10 rfl rfl rfl rfl rfl rfl rfl ⟨rfl, rfl, rfl, rfl, rfl⟩ rfl rfl rfl rfl rfl (by kernel_rfl) Try.func10 (by kernel_rfl)
    (of_decide_eq_true (by kernel_rfl)) (by unfold Func.isWrapper; first | (rw [if_pos (by decide +kernel)]; kernel_rfl) | (rw [if_neg (by decide +kernel)]; exact ⟨rfl, rfl⟩))
    (fun os started H enc _ => lifted os started H enc)
/-- The given statement. -/
theorem proved : Rows.FnExactDelayStepSaid := over
#print axioms proved
end Go.Proofs.Ytabickmaeklfmaa.lawDelayStep
