/- The contracts of DelayStep: what the call returns; old memory is left as it was. -/
import Derived.Test.YthpcangfbpoglaaDelayLists
import Derived.StillTailTactics
import Derived.Deep.RegionHeld3
namespace Go.Proofs.Ythpcangfbpoglaa
open Go.ChangeShapes Go.WideShapes Go.ChangeAt Go.RowKit
set_option linter.unusedVariables false
theorem flipC {P : Program} {f : FuncId} {args : Array Value} {w : World} {v : Value} (h : Calls P f args w fun e w' => e = .returned v ∧ w = w') : Calls P f args w fun e w' => e = .returned v ∧ w' = w := h.mono fun _ _ ⟨a, b⟩ => ⟨a, b.symm⟩
/-- A region that draws its order, quiet but for its tail: the world behind the draw under a name of its own. -/
theorem still_tail {P : Program} {id : Nat} {Q : Exit → Act → World → Prop} {a : Act} {w : World} {l : List Oper} (n : Nat) (hm : P.follows .mixedOrders = true) (hB : Region.lexTailB .any l.toArray n = true)
    (h : ∀ W, W = w.drew → wpStill P l.toArray W (fun a' => wpList P l.toArray Q (l.drop n) a' W) (l.take n) a) : (Code.region id l.toArray true).wp P Q a w := wp_region_still_tail n hm hB (h _ rfl)
def least (a b : Int) : Int := if a < b then a else b
theorem l1Least_any (a b : Int) (w : World) : Calls Try.prog 25 #[.int .i64 a, .int .i64 b] w fun e w' => e = .returned (.int .i64 (least a b)) ∧ w = w' := by
  by_cases h : a < b
  · have hR := Lib.hid (show least a b = a by simp [least, h])
    go_enter Try.func25, Try.ntmps25
    go_wp2
    go_ret
    exact ⟨by rw [hR.out]; rfl, rfl⟩
  · have hR := Lib.hid (show least a b = b by simp [least, h])
    go_enter Try.func25, Try.ntmps25
    go_wp2
    go_ret
    exact ⟨by rw [hR.out]; rfl, rfl⟩
/-- One step: since, dropping, count, next; whether the packet is dropped. -/
noncomputable def stepD (t i s : Int) (dr : Bool) (c n now wait back : Int) : Int × Bool × Int × Int × Bool :=
  if ¬ (t ≤ wait ∧ 1 ≤ back) then (-1, false, c, n, false)
  else if s < 0 then (now + i, false, c, n, false)
  else if now < s then (s, false, c, n, false)
  else if dr = true ∧ now < n then (s, true, c, n, false)
  else if dr = true then (s, true, least 1000 (c + 1), n + gap i (least 1000 (c + 1)), true)
  else if c - 2 < 1 ∨ n + 8 * i ≤ now then (s, true, 1, now + gap i 1, true)
  else (s, true, c - 2, now + gap i (c - 2), true)
set_option maxHeartbeats 1000000 in
theorem cdStep_any (t i s : Int) (dr : Bool) (c n now wait back : Int) (w : World) (d1 : 1 ≤ t) (d2 : t ≤ 10000) (d3 : 1 ≤ i) (d4 : i ≤ 10000) (d5 : -1 ≤ s) (d6 : s ≤ 110000) (d7 : 0 ≤ c) (d8 : c ≤ 1000) (d9 : 0 ≤ n) (d10 : n ≤ 200000) (e1 : 0 ≤ now) (e2 : now ≤ 100000) (e3 : 0 ≤ wait) (e4 : wait ≤ 100000) (e5 : 0 ≤ back) (e6 : back ≤ 100000) :
    Calls Try.prog 21 #[.agg #[.int .i64 t, .int .i64 i, .int .i64 s, .bool dr, .int .i64 c, .int .i64 n], .int .i64 now, .int .i64 wait, .int .i64 back] w fun e w' => e = .returned (.tuple #[.agg #[.int .i64 t, .int .i64 i, .int .i64 (stepD t i s dr c n now wait back).1, .bool (stepD t i s dr c n now wait back).2.1, .int .i64 (stepD t i s dr c n now wait back).2.2.1, .int .i64 (stepD t i s dr c n now wait back).2.2.2.1], .bool (stepD t i s dr c n now wait back).2.2.2.2]) ∧ Below w.heap.size w w' := by
  by_cases h1 : t ≤ wait
  rotate_left
  · have hR := Lib.hid (show stepD t i s dr c n now wait back = (-1, false, c, n, false) by rw [stepD, if_pos (by omega)])
    go_enter Try.func21, Try.ntmps21
    go_wp2_with fail
    exact bodyPost_ret (v := .tuple #[.agg #[.int .i64 t, .int .i64 i, .int .i64 (-1), .bool false, .int .i64 c, .int .i64 n], .bool false]) (by simp [results, Try.results21, go_sem]) rfl ⟨by rw [hR.out], (by repeat (first | (with_reducible exact b0 _) | (with_reducible refine ba ?_ _) | (with_reducible refine bd ?_ _) | (with_reducible refine Below.drew ?_) | (with_reducible refine bs ?_ (by first | exact Nat.le_refl _ | exact Nat.le_add_right _ _ | omega) _) | (with_reducible refine bt ?_ (by assumption))))⟩
  by_cases h2 : 1 ≤ back
  rotate_left
  · have hR := Lib.hid (show stepD t i s dr c n now wait back = (-1, false, c, n, false) by rw [stepD, if_pos (by omega)])
    go_enter Try.func21, Try.ntmps21
    go_wp2_with fail
    exact bodyPost_ret (v := .tuple #[.agg #[.int .i64 t, .int .i64 i, .int .i64 (-1), .bool false, .int .i64 c, .int .i64 n], .bool false]) (by simp [results, Try.results21, go_sem]) rfl ⟨by rw [hR.out], (by repeat (first | (with_reducible exact b0 _) | (with_reducible refine ba ?_ _) | (with_reducible refine bd ?_ _) | (with_reducible refine Below.drew ?_) | (with_reducible refine bs ?_ (by first | exact Nat.le_refl _ | exact Nat.le_add_right _ _ | omega) _) | (with_reducible refine bt ?_ (by assumption))))⟩
  by_cases h3 : s < 0
  · have hR := Lib.hid (show stepD t i s dr c n now wait back = (now + i, false, c, n, false) by rw [stepD, if_neg (by omega), if_pos h3])
    go_enter Try.func21, Try.ntmps21
    go_wp2_with fail
    exact bodyPost_ret (v := .tuple #[.agg #[.int .i64 t, .int .i64 i, .int .i64 (now + i), .bool false, .int .i64 c, .int .i64 n], .bool false]) (by simp [results, Try.results21, go_sem]) rfl ⟨by rw [hR.out], (by repeat (first | (with_reducible exact b0 _) | (with_reducible refine ba ?_ _) | (with_reducible refine bd ?_ _) | (with_reducible refine Below.drew ?_) | (with_reducible refine bs ?_ (by first | exact Nat.le_refl _ | exact Nat.le_add_right _ _ | omega) _) | (with_reducible refine bt ?_ (by assumption))))⟩
  by_cases h4 : now < s
  · have hR := Lib.hid (show stepD t i s dr c n now wait back = (s, false, c, n, false) by rw [stepD, if_neg (by omega), if_neg h3, if_pos h4])
    have t4 : decide (s ≤ now) = false := by simp; omega
    go_enter Try.func21, Try.ntmps21
    go_wp2_with fail
    exact bodyPost_ret (v := .tuple #[.agg #[.int .i64 t, .int .i64 i, .int .i64 s, .bool false, .int .i64 c, .int .i64 n], .bool false]) (by simp [results, Try.results21, go_sem]) rfl ⟨by rw [hR.out], (by repeat (first | (with_reducible exact b0 _) | (with_reducible refine ba ?_ _) | (with_reducible refine bd ?_ _) | (with_reducible refine Below.drew ?_) | (with_reducible refine bs ?_ (by first | exact Nat.le_refl _ | exact Nat.le_add_right _ _ | omega) _) | (with_reducible refine bt ?_ (by assumption))))⟩
  have t4 : decide (s ≤ now) = true := by simp; omega
  rcases dr with _ | _
  · by_cases h5 : c - 2 < 1
    · have hR := Lib.hid (show stepD t i s false c n now wait back = (s, true, 1, now + gap i 1, true) by rw [stepD, if_neg (by omega), if_neg h3, if_neg h4, if_neg (by simp), if_neg (by simp), if_pos (.inl h5)])
      have gb := gap_bound (c := 1) d3 d4 (by omega)
      go_enter Try.func21, Try.ntmps21
      go_wp2_with (go_at_call 26; refine (cdGap_any _ _ _ (by omega) (by omega) (by omega) (by omega)).mono ?_; rintro e w' ⟨rfl, rfl⟩)
      exact bodyPost_ret (v := .tuple #[.agg #[.int .i64 t, .int .i64 i, .int .i64 s, .bool true, .int .i64 1, .int .i64 (now + gap i 1)], .bool true]) (by simp [results, Try.results21, go_sem]) rfl ⟨by rw [hR.out], (by repeat (first | (with_reducible exact b0 _) | (with_reducible refine ba ?_ _) | (with_reducible refine bd ?_ _) | (with_reducible refine Below.drew ?_) | (with_reducible refine bs ?_ (by first | exact Nat.le_refl _ | exact Nat.le_add_right _ _ | omega) _) | (with_reducible refine bt ?_ (by assumption))))⟩
    by_cases h6 : n + 8 * i ≤ now
    · have hR := Lib.hid (show stepD t i s false c n now wait back = (s, true, 1, now + gap i 1, true) by rw [stepD, if_neg (by omega), if_neg h3, if_neg h4, if_neg (by simp), if_neg (by simp), if_pos (.inr h6)])
      have gb := gap_bound (c := 1) d3 d4 (by omega)
      go_enter Try.func21, Try.ntmps21
      go_wp2_with (go_at_call 26; refine (cdGap_any _ _ _ (by omega) (by omega) (by omega) (by omega)).mono ?_; rintro e w' ⟨rfl, rfl⟩)
      exact bodyPost_ret (v := .tuple #[.agg #[.int .i64 t, .int .i64 i, .int .i64 s, .bool true, .int .i64 1, .int .i64 (now + gap i 1)], .bool true]) (by simp [results, Try.results21, go_sem]) rfl ⟨by rw [hR.out], (by repeat (first | (with_reducible exact b0 _) | (with_reducible refine ba ?_ _) | (with_reducible refine bd ?_ _) | (with_reducible refine Below.drew ?_) | (with_reducible refine bs ?_ (by first | exact Nat.le_refl _ | exact Nat.le_add_right _ _ | omega) _) | (with_reducible refine bt ?_ (by assumption))))⟩
    · have hR := Lib.hid (show stepD t i s false c n now wait back = (s, true, c - 2, now + gap i (c - 2), true) by rw [stepD, if_neg (by omega), if_neg h3, if_neg h4, if_neg (by simp), if_neg (by simp), if_neg (by omega)])
      have gb := gap_bound (c := c - 2) d3 d4 (by omega)
      go_enter Try.func21, Try.ntmps21
      go_wp2_with (go_at_call 26; refine (cdGap_any _ _ _ (by omega) (by omega) (by omega) (by omega)).mono ?_; rintro e w' ⟨rfl, rfl⟩)
      exact bodyPost_ret (v := .tuple #[.agg #[.int .i64 t, .int .i64 i, .int .i64 s, .bool true, .int .i64 (c - 2), .int .i64 (now + gap i (c - 2))], .bool true]) (by simp [results, Try.results21, go_sem]) rfl ⟨by rw [hR.out], (by repeat (first | (with_reducible exact b0 _) | (with_reducible refine ba ?_ _) | (with_reducible refine bd ?_ _) | (with_reducible refine Below.drew ?_) | (with_reducible refine bs ?_ (by first | exact Nat.le_refl _ | exact Nat.le_add_right _ _ | omega) _) | (with_reducible refine bt ?_ (by assumption))))⟩
  · by_cases h5 : now < n
    · have hR := Lib.hid (show stepD t i s true c n now wait back = (s, true, c, n, false) by rw [stepD, if_neg (by omega), if_neg h3, if_neg h4, if_pos ⟨rfl, h5⟩])
      go_enter Try.func21, Try.ntmps21
      go_wp2_with fail
      exact bodyPost_ret (v := .tuple #[.agg #[.int .i64 t, .int .i64 i, .int .i64 s, .bool true, .int .i64 c, .int .i64 n], .bool false]) (by simp [results, Try.results21, go_sem]) rfl ⟨by rw [hR.out], (by repeat (first | (with_reducible exact b0 _) | (with_reducible refine ba ?_ _) | (with_reducible refine bd ?_ _) | (with_reducible refine Below.drew ?_) | (with_reducible refine bs ?_ (by first | exact Nat.le_refl _ | exact Nat.le_add_right _ _ | omega) _) | (with_reducible refine bt ?_ (by assumption))))⟩
    · have hR := Lib.hid (show stepD t i s true c n now wait back = (s, true, least 1000 (c + 1), n + gap i (least 1000 (c + 1)), true) by rw [stepD, if_neg (by omega), if_neg h3, if_neg h4, if_neg (fun h => h5 h.2), if_pos rfl])
      have lb : 1 ≤ least 1000 (c + 1) ∧ least 1000 (c + 1) ≤ 1000 := by unfold least; split <;> omega
      have gb := gap_bound (c := least 1000 (c + 1)) d3 d4 lb.1
      generalize hq : least 1000 (c + 1) = q at *
      have HQ := Lib.hid hq
      clear hq
      go_enter Try.func21, Try.ntmps21
      go_wp2_with (go_at_call 25; refine (l1Least_any _ _ _).mono ?_; rw [HQ.out]; rintro e w' ⟨rfl, rfl⟩)
      refine still_tail 9 (by kernel_rfl) (by kernel_rfl) ?_
      rintro W rfl
      simp only [List.take_succ_cons, List.take_zero, List.drop_succ_cons, List.drop_zero]
      repeat still_step
      still_call (flipC (cdGap_any _ _ _ (by omega) (by omega) (by omega) (by omega)))
      repeat still_step
      refine wpStill_nil ?_
      have wg : IntKind.i64.wrap (n + gap i q) = n + gap i q := IntWalk.i64_in _ (by omega)
      go_wp2_with fail
      exact bodyPost_ret (v := .tuple #[.agg #[.int .i64 t, .int .i64 i, .int .i64 s, .bool true, .int .i64 q, .int .i64 (n + gap i q)], .bool true]) (by simp [results, Try.results21, go_sem]) rfl ⟨by rw [hR.out], (by repeat (first | (with_reducible exact b0 _) | (with_reducible refine ba ?_ _) | (with_reducible refine bd ?_ _) | (with_reducible refine Below.drew ?_) | (with_reducible refine bs ?_ (by first | exact Nat.le_refl _ | exact Nat.le_add_right _ _ | omega) _) | (with_reducible refine bt ?_ (by assumption))))⟩
end Go.Proofs.Ythpcangfbpoglaa
