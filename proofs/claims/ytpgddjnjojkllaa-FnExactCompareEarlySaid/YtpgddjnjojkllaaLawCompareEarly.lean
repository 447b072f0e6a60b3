/- The statement FnExactCompareEarlySaid: for every input the law FnExactCompareEarly returns true, and its arguments read as before. No condition. -/
import Derived.Test.YtpgddjnjojkllaaDecide
import Derived.Deep.RegionHeld3
namespace Go.Proofs.Ytpgddjnjojkllaa.lawCompareEarly
open Go.ChangeShapes Go.WideShapes Go.ChangeAt Go.RowKit
set_option linter.unusedVariables false
set_option maxHeartbeats 1000000 in
theorem walk (a : Int) (_ : IB a) (b : Int) (_ : IB b) (c : Int) (_ : IB c) (d : Int) (_ : IB d) (a' : Int) (_ : IB a') (b' : Int) (_ : IB b') (c' : Int) (_ : IB c') (d' : Int) (_ : IB d') (av : Int) (_ : IB av) (w : World) :
    Calls Try.prog 10 #[.agg #[.int .i64 a, .int .i64 b, .int .i64 c, .int .i64 d], .agg #[.int .i64 a', .int .i64 b', .int .i64 c', .int .i64 d'], .int .i64 av] w fun e w' => e = .returned (.bool true) ∧ Below w.heap.size w w' := by
  go_enter Try.func10, Try.ntmps10
  go_wp2_with fail
  go_region_held3 (fun w' => w'.cell? ⟨w.heap.size, 0, none⟩ = some (.int .i64 a) ∧ w'.cell? ⟨w.heap.size, 1, none⟩ = some (.int .i64 b) ∧ w'.cell? ⟨w.heap.size, 2, none⟩ = some (.int .i64 c) ∧ w'.cell? ⟨w.heap.size, 3, none⟩ = some (.int .i64 d) ∧ w'.cell? ⟨w.heap.size + 1, 0, none⟩ = some (.int .i64 a') ∧ w'.cell? ⟨w.heap.size + 1, 1, none⟩ = some (.int .i64 b') ∧ w'.cell? ⟨w.heap.size + 1, 2, none⟩ = some (.int .i64 c') ∧ w'.cell? ⟨w.heap.size + 1, 3, none⟩ = some (.int .i64 d')) (go_keep)
    (first
      | (go_at_call 15; refine (toEarly_any _ _ _ _ _).mono ?_; rintro e w1 ⟨rfl, hb⟩; have zhb := hb.size; (try simp at zhb); have c0hb := fun o => bkeep hb (w.heap.size) o (by first | omega | (simp; done) | (simp; omega)); have f0hb := fun o => bfree hb (w.heap.size) o (by first | omega | (simp; done) | (simp; omega)); have c1hb := fun o => bkeep hb (w.heap.size + 1) o (by first | omega | (simp; done) | (simp; omega)); have f1hb := fun o => bfree hb (w.heap.size + 1) o (by first | omega | (simp; done) | (simp; omega)))
      | (go_at_call 31; refine (specCompareEarly_any _ _ _ _ _ _ _ _ _ _).mono ?_; rintro e w1 ⟨rfl, hb⟩; have zhb := hb.size; (try simp at zhb); have c0hb := fun o => bkeep hb (w.heap.size) o (by first | omega | (simp; done) | (simp; omega)); have f0hb := fun o => bfree hb (w.heap.size) o (by first | omega | (simp; done) | (simp; omega)); have c1hb := fun o => bkeep hb (w.heap.size + 1) o (by first | omega | (simp; done) | (simp; omega)); have f1hb := fun o => bfree hb (w.heap.size + 1) o (by first | omega | (simp; done) | (simp; omega))))
  go_wp2_with fail
  go_region_held3 (fun w' => w'.cell? ⟨w.heap.size, 0, none⟩ = some (.int .i64 a) ∧ w'.cell? ⟨w.heap.size, 1, none⟩ = some (.int .i64 b) ∧ w'.cell? ⟨w.heap.size, 2, none⟩ = some (.int .i64 c) ∧ w'.cell? ⟨w.heap.size, 3, none⟩ = some (.int .i64 d) ∧ w'.cell? ⟨w.heap.size + 1, 0, none⟩ = some (.int .i64 a') ∧ w'.cell? ⟨w.heap.size + 1, 1, none⟩ = some (.int .i64 b') ∧ w'.cell? ⟨w.heap.size + 1, 2, none⟩ = some (.int .i64 c') ∧ w'.cell? ⟨w.heap.size + 1, 3, none⟩ = some (.int .i64 d')) (go_keep)
    (first
      | (go_at_call 15; refine (toEarly_any _ _ _ _ _).mono ?_; rintro e w1 ⟨rfl, hb⟩; have zhb := hb.size; (try simp at zhb); have c0hb := fun o => bkeep hb (w.heap.size) o (by first | omega | (simp; done) | (simp; omega)); have f0hb := fun o => bfree hb (w.heap.size) o (by first | omega | (simp; done) | (simp; omega)); have c1hb := fun o => bkeep hb (w.heap.size + 1) o (by first | omega | (simp; done) | (simp; omega)); have f1hb := fun o => bfree hb (w.heap.size + 1) o (by first | omega | (simp; done) | (simp; omega)))
      | (go_at_call 32; refine (implCompareEarly_any _ _ _ _ _ _ _ _ _ _).mono ?_; rintro e w1 ⟨rfl, hb⟩; have zhb := hb.size; (try simp at zhb); have c0hb := fun o => bkeep hb (w.heap.size) o (by first | omega | (simp; done) | (simp; omega)); have f0hb := fun o => bfree hb (w.heap.size) o (by first | omega | (simp; done) | (simp; omega)); have c1hb := fun o => bkeep hb (w.heap.size + 1) o (by first | omega | (simp; done) | (simp; omega)); have f1hb := fun o => bfree hb (w.heap.size + 1) o (by first | omega | (simp; done) | (simp; omega))))
  go_wp2
  go_ret
  exact ⟨rfl, (by repeat (first | (with_reducible exact b0 _) | (with_reducible refine ba ?_ _) | (with_reducible refine bd ?_ _) | (with_reducible refine Below.drew ?_) | (with_reducible refine bs ?_ (by first | exact Nat.le_refl _ | exact Nat.le_add_right _ _ | omega) _) | (with_reducible refine bt ?_ (by assumption))))⟩
theorem own : ownKnob Try.prog.godebug = none := by kernel_rfl
theorem laidOut : laidOutB Try.prog = true := by kernel_rfl
set_option maxRecDepth 100000 in
theorem lifted (os : Os) (started : os.Started) (H : Type) (enc : TypeId × Value → H) :
    ReturnsInHanded {} Try.checked os 10 .any (Rows.fnExactCompareEarlySpec.pre6 enc Try.prog Try.f10 Rows.fnExactCompareEarlyRow.domain false) (Rows.fnExactCompareEarlySpec.post enc Try.prog Try.f10 false true false false) := by
  refine returnsInHanded_of_change (C := Try.checked) own started (by kernel_rfl) Try.func10
    (ChangeSpec.witness6 (enc := enc) (C := Try.checked) false ⟨#[], #[.agg #[.int .i64 0, .int .i64 0, .int .i64 0, .int .i64 0], .agg #[.int .i64 0, .int .i64 0, .int .i64 0, .int .i64 0], .int .i64 0], []⟩ 8 (by kernel_rfl) (by kernel_rfl) (by kernel_rfl) (by kernel_rfl)) ?_
  intro W base args ds gs before hval0 hW hcnd _
  have hval : ∀ (j : Nat) t v, Try.f10.params[j]? = some t → args[j]? = some v → Value.okWide Try.prog W .any base t v := hval0
  have hW' := hW
  obtain ⟨p, q, hA0, hV, rfl, hfz, hnd⟩ := hW
  have hA : DataW.TrodAll enc Try.prog W 0 (fun _ => true) true Try.f10.params.toList args.toList ds p := hA0
  rw [Try.params10] at hA hval
  obtain ⟨v0, vs0, d0, ds0, p0, q0, hargs, rfl, rfl, h0, r0⟩ := trodAll_cons hA
  obtain ⟨v1, vs1, d1, ds1, p1, q1, rfl, rfl, rfl, h1, r1⟩ := trodAll_cons r0
  obtain ⟨v2, vs2, d2, ds2, p2, q2, rfl, rfl, rfl, h2, r2⟩ := trodAll_cons r1
  obtain ⟨rfl, rfl, rfl⟩ := trodAll_nil r2
  obtain rfl : args = #[v0, v1, v2] := by cases args; simp_all
  obtain ⟨rfl, rfl⟩ := trodVars_none hV
  have k0 := h0
  have lt0 : ∀ x ∈ p0, x.block < W.heap.size := by obtain ⟨m, hm⟩ := k0; exact DataW.trod_lt m _ _ _ hm
  have k1 := h1
  have lt1 : ∀ x ∈ p1, x.block < W.heap.size := by obtain ⟨m, hm⟩ := k1; exact DataW.trod_lt m _ _ _ hm
  have k2 := h2
  have lt2 : ∀ x ∈ p2, x.block < W.heap.size := by obtain ⟨m, hm⟩ := k2; exact DataW.trod_lt m _ _ _ hm
  obtain ⟨cs0, rfl, hsz0⟩ := okWide_struct Try.underlying23 (hval 0 23 v0 rfl rfl)
  obtain ⟨c0_0, c0_1, c0_2, c0_3, rfl⟩ := arr4 (hsz0.trans (by kernel_rfl))
  have hf0 := h0
  obtain ⟨fu0, hf0⟩ := hf0
  simp only [Value.cells] at hf0
  obtain ⟨a0_0, ea0_0⟩ := leaf_int Try.underlying23 hf0 0 _ rfl Try.underlying3 (by kernel_rfl) rfl
  obtain ⟨ea0_0, wa0_0⟩ := ea0_0
  subst ea0_0
  obtain ⟨a0_1, ea0_1⟩ := leaf_int Try.underlying23 hf0 1 _ rfl Try.underlying3 (by kernel_rfl) rfl
  obtain ⟨ea0_1, wa0_1⟩ := ea0_1
  subst ea0_1
  obtain ⟨a0_2, ea0_2⟩ := leaf_int Try.underlying23 hf0 2 _ rfl Try.underlying3 (by kernel_rfl) rfl
  obtain ⟨ea0_2, wa0_2⟩ := ea0_2
  subst ea0_2
  obtain ⟨a0_3, ea0_3⟩ := leaf_int Try.underlying23 hf0 3 _ rfl Try.underlying3 (by kernel_rfl) rfl
  obtain ⟨ea0_3, wa0_3⟩ := ea0_3
  subst ea0_3
  obtain ⟨cs1, rfl, hsz1⟩ := okWide_struct Try.underlying23 (hval 1 23 v1 rfl rfl)
  obtain ⟨c1_0, c1_1, c1_2, c1_3, rfl⟩ := arr4 (hsz1.trans (by kernel_rfl))
  have hf1 := h1
  obtain ⟨fu1, hf1⟩ := hf1
  simp only [Value.cells] at hf1
  obtain ⟨a1_0, ea1_0⟩ := leaf_int Try.underlying23 hf1 0 _ rfl Try.underlying3 (by kernel_rfl) rfl
  obtain ⟨ea1_0, wa1_0⟩ := ea1_0
  subst ea1_0
  obtain ⟨a1_1, ea1_1⟩ := leaf_int Try.underlying23 hf1 1 _ rfl Try.underlying3 (by kernel_rfl) rfl
  obtain ⟨ea1_1, wa1_1⟩ := ea1_1
  subst ea1_1
  obtain ⟨a1_2, ea1_2⟩ := leaf_int Try.underlying23 hf1 2 _ rfl Try.underlying3 (by kernel_rfl) rfl
  obtain ⟨ea1_2, wa1_2⟩ := ea1_2
  subst ea1_2
  obtain ⟨a1_3, ea1_3⟩ := leaf_int Try.underlying23 hf1 3 _ rfl Try.underlying3 (by kernel_rfl) rfl
  obtain ⟨ea1_3, wa1_3⟩ := ea1_3
  subst ea1_3
  obtain ⟨a2, rfl, rfl, rfl, wf2⟩ := open_int Try.underlying3 (hval 2 3 v2 rfl rfl) h2
  clear hA0 hval0
  refine (walk a0_0 (ibounds wa0_0) a0_1 (ibounds wa0_1) a0_2 (ibounds wa0_2) a0_3 (ibounds wa0_3) a1_0 (ibounds wa1_0) a1_1 (ibounds wa1_1) a1_2 (ibounds wa1_2) a1_3 (ibounds wa1_3) a2 (ibounds wf2) W).mono fun e W' ⟨he, bel⟩ => ?_
  subst he
  exact ⟨_, rfl, _, _, _, [], _, [], hW', trodAll_mk1 (shut_bool Try.underlying4 _), (trodAll_cons_mk (Below.trod laidOut (by kernel_rfl) (of_decide_eq_true (by kernel_rfl)) k0 bel lt0) (trodAll_cons_mk (Below.trod laidOut (by kernel_rfl) (of_decide_eq_true (by kernel_rfl)) k1 bel lt1) (trodAll_cons_mk (Below.trod laidOut (by kernel_rfl) (of_decide_eq_true (by kernel_rfl)) k2 bel lt2) trodAll_mk0))), rfl, bel.frame _, fun h => by cases h⟩
theorem over : Rows.fnExactCompareEarlyRow.holds Try.pinned (OpenSpec.ofChange Rows.fnExactCompareEarlySpec) :=
  OpenClaim.holds_of_wide 10 Try.f10 rfl rfl rfl rfl rfl rfl rfl ⟨rfl, rfl, rfl, rfl, rfl⟩ rfl rfl rfl rfl rfl (by kernel_rfl) Try.func10 (by kernel_rfl)
    (of_decide_eq_true (by kernel_rfl)) (by unfold Func.isWrapper; first | (rw [if_pos (by decide +kernel)]; kernel_rfl) | (rw [if_neg (by decide +kernel)]; exact ⟨rfl, rfl⟩))
    (fun os started H enc _ => lifted os started H enc)
/-- The given statement. -/
theorem proved : Rows.FnExactCompareEarlySaid := over
#print axioms proved
end Go.Proofs.Ytpgddjnjojkllaa.lawCompareEarly
