/- The statement FnExactDropsOfSaid: for every input the law FnExactDropsOf returns true, and its argument reads as before. No condition. -/
import Derived.Test.YtpgddjnjojkllaaLists
namespace Go.Proofs.Ytpgddjnjojkllaa.lawDropsOf
open Go.ChangeShapes Go.WideShapes Go.ChangeAt Go.RowKit
set_option linter.unusedVariables false
theorem walk (w : World) (A : Option Addr) (n cap : Nat) (l : List Int) (h : IRow w A l ∧ l.length = n ∧ n ≤ 9223372036854775807 ∧ IBs l) :
    Calls Try.prog 6 #[.slice A n cap] w fun e w' => e = .returned (.bool true) ∧ Below w.heap.size w w' := by
  obtain ⟨hr, hl, hn, _⟩ := h
  have HL := Lib.hid hl
  have HR := Lib.hid hr
  clear hl hr
  by_cases hbig : n ≤ 1048576
  rotate_left
  · go_enter Try.func6, Try.ntmps6
    go_wp2_with fail
    go_ret
    exact ⟨rfl, (by repeat (first | (with_reducible exact b0 _) | (with_reducible refine ba ?_ _) | (with_reducible refine bd ?_ _) | (with_reducible refine Below.drew ?_) | (with_reducible refine bs ?_ (by first | exact Nat.le_refl _ | exact Nat.le_add_right _ _ | omega) _) | (with_reducible refine bt ?_ (by assumption))))⟩
  go_enter Try.func6, Try.ntmps6
  go_wp2_with fail
  refine (toIntS_any A n cap l _ HL.out HR.out (by omega)).mono ?_
  rintro e w1 ⟨A1, n1, cap1, rfl, ho1, hb1⟩
  obtain rfl : n1 = n := by have := ho1.len; have := HL.out; omega
  have HO1 := Lib.hid ho1
  clear ho1
  go_wp2_with fail
  refine (specDropsOf_any _ _ _ l _ HL.out HO1.out.row (by omega)).mono ?_
  rintro e w2 ⟨rfl, hb2⟩
  go_wp2_with fail
  refine (toIntS_any A _ cap l _ HL.out ((HR.out.below hb1).below hb2) (by omega)).mono ?_
  rintro e w3 ⟨A3, n3, cap3, rfl, ho3, hb3⟩
  obtain rfl : n3 = n1 := by have := ho3.len; have := HL.out; omega
  have HO3 := Lib.hid ho3
  clear ho3
  go_wp2_with fail
  refine (implDropsOf_any _ _ _ l _ HL.out HO3.out.row (by omega)).mono ?_
  rintro e w4 ⟨rfl, hb4⟩
  go_wp2_with fail
  refine (toIntS_any A _ cap l _ HL.out ((((HR.out.below hb1).below hb2).below hb3).below hb4) (by omega)).mono ?_
  rintro e w5 ⟨A5, n5, cap5, rfl, ho5, hb5⟩
  obtain rfl : n5 = n3 := by have := ho5.len; have := HL.out; omega
  have HO5 := Lib.hid ho5
  clear ho5
  go_wp2_with fail
  refine (eqIntS_any _ _ _ _ _ l _ HL.out (by omega) ((HO3.out.row.below hb4).below hb5) HO5.out.row).mono ?_
  rintro e w6 ⟨rfl, hb6⟩
  go_wp2_with fail
  go_ret
  exact ⟨rfl, (by repeat (first | (with_reducible exact b0 _) | (with_reducible refine ba ?_ _) | (with_reducible refine bd ?_ _) | (with_reducible refine Below.drew ?_) | (with_reducible refine bs ?_ (by first | exact Nat.le_refl _ | exact Nat.le_add_right _ _ | omega) _) | (with_reducible refine bt ?_ (by assumption))))⟩
theorem own : ownKnob Try.prog.godebug = none := by kernel_rfl
theorem laidOut : laidOutB Try.prog = true := by kernel_rfl
set_option maxRecDepth 100000 in
theorem lifted (os : Os) (started : os.Started) (H : Type) (enc : TypeId × Value → H) :
    ReturnsInHanded {} Try.checked os 6 .any (Rows.fnExactDropsOfSpec.pre6 enc Try.prog Try.f6 Rows.fnExactDropsOfRow.domain false) (Rows.fnExactDropsOfSpec.post enc Try.prog Try.f6 false true false false) := by
  refine returnsInHanded_of_change (C := Try.checked) own started (by kernel_rfl) Try.func6
    (ChangeSpec.witness6 (enc := enc) (C := Try.checked) false ⟨#[], #[.slice none 0 0], []⟩ 8 (by kernel_rfl) (by kernel_rfl) (by kernel_rfl) (by kernel_rfl)) ?_
  intro W base args ds gs before hval0 hW hcnd _
  have hval : ∀ (j : Nat) t v, Try.f6.params[j]? = some t → args[j]? = some v → Value.okWide Try.prog W .any base t v := hval0
  have hW' := hW
  obtain ⟨p, q, hA0, hV, rfl, hfz, hnd⟩ := hW
  have hA : DataW.TrodAll enc Try.prog W 0 (fun _ => true) true Try.f6.params.toList args.toList ds p := hA0
  rw [Try.params6] at hA hval
  obtain ⟨v0, vs0, d0, ds0, p0, q0, hargs, rfl, rfl, h0, r0⟩ := trodAll_cons hA
  obtain ⟨rfl, rfl, rfl⟩ := trodAll_nil r0
  obtain rfl : args = #[v0] := by cases args; simp_all
  obtain ⟨rfl, rfl⟩ := trodVars_none hV
  have k0 := h0
  have lt0 : ∀ x ∈ p0, x.block < W.heap.size := by obtain ⟨m, hm⟩ := k0; exact DataW.trod_lt m _ _ _ hm
  obtain ⟨A0, len0, cap0, rfl⟩ := okWide_slice Try.underlying33 (hval 0 33 v0 rfl rfl)
  obtain ⟨l0, hr0⟩ := ints_row Try.underlying33 Try.underlying3 (by kernel_rfl) h0
  clear hA0 hval0
  refine (walk W A0 len0 cap0 l0 hr0).mono fun e W' ⟨he, bel⟩ => ?_
  subst he
  exact ⟨_, rfl, _, _, _, [], _, [], hW', trodAll_mk1 (shut_bool Try.underlying4 _), (trodAll_cons_mk (Below.trod laidOut (by kernel_rfl) (of_decide_eq_true (by kernel_rfl)) k0 bel lt0) trodAll_mk0), rfl, bel.frame _, fun h => by cases h⟩
theorem over : Rows.fnExactDropsOfRow.holds Try.pinned (OpenSpec.ofChange Rows.fnExactDropsOfSpec) :=
  OpenClaim.holds_of_wide 6 Try.f6 rfl rfl rfl rfl rfl rfl rfl ⟨rfl, rfl, rfl, rfl, rfl⟩ rfl rfl rfl rfl rfl (by kernel_rfl) Try.func6 (by kernel_rfl)
    (of_decide_eq_true (by kernel_rfl)) (by unfold Func.isWrapper; first | (rw [if_pos (by decide +kernel)]; kernel_rfl) | (rw [if_neg (by decide +kernel)]; exact ⟨rfl, rfl⟩))
    (fun os started H enc _ => lifted os started H enc)
/-- The given statement. -/
theorem proved : Rows.FnExactDropsOfSaid := over
#print axioms proved
end Go.Proofs.Ytpgddjnjojkllaa.lawDropsOf
