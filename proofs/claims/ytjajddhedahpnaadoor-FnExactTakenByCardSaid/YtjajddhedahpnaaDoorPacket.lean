/- The contracts of what says whether a packet is valid: what the call returns; old memory is left as it was. -/
import Derived.Test.YtjajddhedahpnaaDoorRowsPacket
namespace Go.Proofs.YtjajddhedahpnaaDoor
open Go.ChangeShapes Go.WideShapes Go.ChangeAt Go.RowKit
set_option linter.unusedVariables false
def pok (id so de po ma si : Int) : Bool := decide ((1 ≤ id ∧ id ≤ 100000) ∧ (0 ≤ so ∧ so ≤ 65535) ∧ (0 ≤ de ∧ de ≤ 65535) ∧ (0 ≤ po ∧ po ≤ 65535) ∧ (0 ≤ ma ∧ ma ≤ 65535) ∧ 1 ≤ si ∧ si ≤ 1500)
theorem pok_iff {id so de po ma si : Int} : pok id so de po ma si = true ↔ (1 ≤ id ∧ id ≤ 100000) ∧ (0 ≤ so ∧ so ≤ 65535) ∧ (0 ≤ de ∧ de ≤ 65535) ∧ (0 ≤ po ∧ po ≤ 65535) ∧ (0 ≤ ma ∧ ma ≤ 65535) ∧ 1 ≤ si ∧ si ≤ 1500 := by simp [pok]
theorem pok_no {id so de po ma si : Int} (h : ¬ ((1 ≤ id ∧ id ≤ 100000) ∧ (0 ≤ so ∧ so ≤ 65535) ∧ (0 ≤ de ∧ de ≤ 65535) ∧ (0 ≤ po ∧ po ≤ 65535) ∧ (0 ≤ ma ∧ ma ≤ 65535) ∧ 1 ≤ si ∧ si ≤ 1500)) : pok id so de po ma si = false := by
  rcases h' : pok id so de po ma si with _ | _
  · rfl
  · exact (h (pok_iff.1 h')).elim
theorem l1In_any (a b c : Int) (w : World) :
    Calls Tryd.prog 43 #[.int .i64 a, .int .i64 b, .int .i64 c] w fun e w' => e = .returned (.bool (decide (b ≤ a ∧ a ≤ c))) ∧ w = w' := by
  go_enter Tryd.func43, Tryd.ntmps43
  go_wp2
  all_goals
    go_ret
    exact ⟨ret_b (by rw [Bool.eq_iff_iff]; simp; try omega), rfl⟩
theorem pkWord_any (a : Int) (w : World) : Calls Tryd.prog 47 #[.int .i64 a] w fun e w' => e = .returned (.bool (decide (0 ≤ a ∧ a ≤ 65535))) ∧ w = w' := by
  go_enter Tryd.func47, Tryd.ntmps47
  go_wp2_with (go_at_call 43; refine (l1In_any _ _ _ _).mono ?_; rintro e w' ⟨rfl, rfl⟩)
  go_ret
  exact ⟨ret_b (by rw [Bool.eq_iff_iff]; simp), rfl⟩
theorem pkGood_any (id so de po ma si : Int) (w : World) :
    Calls Tryd.prog 27 #[.agg #[.int .i64 id, .int .i64 so, .int .i64 de, .int .i64 po, .int .i64 ma, .int .i64 si]] w fun e w' => e = .returned (.bool (pok id so de po ma si)) ∧ Below w.heap.size w w' := by
  go_enter Tryd.func27, Tryd.ntmps27
  go_wp2_with (first | (go_at_call 43; refine (l1In_any _ _ _ _).mono ?_; rintro e w' ⟨rfl, rfl⟩) | (go_at_call 47; refine (pkWord_any _ _).mono ?_; rintro e w' ⟨rfl, rfl⟩))
  all_goals
    go_ret
    exact ⟨ret_b (by rw [Bool.eq_iff_iff]; simp [pok]; try omega), (by repeat (first | (with_reducible exact b0 _) | (with_reducible refine ba ?_ _) | (with_reducible refine bd ?_ _) | (with_reducible refine Below.drew ?_) | (with_reducible refine bs ?_ (by first | exact Nat.le_refl _ | exact Nat.le_add_right _ _ | omega) _) | (with_reducible refine bt ?_ (by assumption))))⟩
theorem fieldsOf_any (id so de po ma si : Int) (w : World) :
    Calls Tryd.prog 52 #[.agg #[.int .i64 id, .int .i64 so, .int .i64 de, .int .i64 po, .int .i64 ma, .int .i64 si]] w fun e w' => e = .returned (.agg #[.int .i64 so, .int .i64 de, .int .i64 po, .int .i64 ma]) ∧ Below w.heap.size w w' := by
  go_enter Tryd.func52, Tryd.ntmps52
  go_wp2
  exact bodyPost_ret (v := .agg #[.int .i64 so, .int .i64 de, .int .i64 po, .int .i64 ma]) (by simp [results, Tryd.results52, go_sem]) rfl ⟨rfl, (by repeat (first | (with_reducible exact b0 _) | (with_reducible refine ba ?_ _) | (with_reducible refine bd ?_ _) | (with_reducible refine Below.drew ?_) | (with_reducible refine bs ?_ (by first | exact Nat.le_refl _ | exact Nat.le_add_right _ _ | omega) _) | (with_reducible refine bt ?_ (by assumption))))⟩
def fld (so de po ma : Int) : Nat → Int
  | 0 => so
  | 1 => de
  | 2 => po
  | _ => ma
theorem implIsPacket_any (id so de po ma si : Int) (w : World) :
    Calls Tryd.prog 32 #[.agg #[.int .i64 id, .int .i64 so, .int .i64 de, .int .i64 po, .int .i64 ma, .int .i64 si]] w fun e w' => e = .returned (.bool (pok id so de po ma si)) ∧ Below w.heap.size w w' := by
  have i0 : ∀ w, (Instr.index 79 (.agg #[.int .i64 so, .int .i64 de, .int .i64 po, .int .i64 ma]) (.int .i64 0)).run Tryd.prog w = .ok (.int .i64 so) w := fun _ => by kernel_rfl
  have i1 : ∀ w, (Instr.index 79 (.agg #[.int .i64 so, .int .i64 de, .int .i64 po, .int .i64 ma]) (.int .i64 1)).run Tryd.prog w = .ok (.int .i64 de) w := fun _ => by kernel_rfl
  have i2 : ∀ w, (Instr.index 79 (.agg #[.int .i64 so, .int .i64 de, .int .i64 po, .int .i64 ma]) (.int .i64 2)).run Tryd.prog w = .ok (.int .i64 po) w := fun _ => by kernel_rfl
  have i3 : ∀ w, (Instr.index 79 (.agg #[.int .i64 so, .int .i64 de, .int .i64 po, .int .i64 ma]) (.int .i64 3)).run Tryd.prog w = .ok (.int .i64 ma) w := fun _ => by kernel_rfl
  go_enter Tryd.func32, Tryd.ntmps32
  go_wp2_with fail
  refine (fieldsOf_any _ _ _ _ _ _ _).mono ?_
  rintro e w1 ⟨rfl, hg⟩
  have zhg := hg.size; (try simp at zhg); have c0hg := fun o => bkeep hg (w.heap.size) o (by first | omega | (simp; done) | (simp; omega)); have f0hg := fun o => bfree hg (w.heap.size) o (by first | omega | (simp; done) | (simp; omega))
  go_wp2_with fail
  go_loop [7] (fun n => ∃ k : Nat, k ≤ 4 ∧ n = .int .i64 k ∧ ∀ j, j < k → 0 ≤ fld so de po ma j ∧ fld so de po ma j ≤ 65535) (fun n => 4 - (intOf n).toNat)
  case atStart => exact ⟨0, by omega, rfl, fun j hj => by omega⟩
  case round =>
    obtain ⟨k, hk, rfl, hall⟩ := hrel
    have HA := Lib.hid hall
    clear hall
    have HN := Lib.hid (fun (h : ¬ (0 ≤ fld so de po ma k ∧ fld so de po ma k ≤ 65535)) (h4 : k < 4) => show pok id so de po ma si = false by
      obtain rfl | rfl | rfl | rfl : k = 0 ∨ k = 1 ∨ k = 2 ∨ k = 3 := by omega
      all_goals (simp only [fld] at h; exact pok_no (by omega)))
    have HY := Lib.hid (fun (h : 0 ≤ fld so de po ma k ∧ fld so de po ma k ≤ 65535) => show ∀ j, j < k + 1 → 0 ≤ fld so de po ma j ∧ fld so de po ma j ≤ 65535 from fun j hj => by
      rcases Nat.lt_succ_iff_lt_or_eq.1 hj with h' | rfl
      · exact HA.out j h'
      · exact h)
    by_cases h : k < 4
    · by_cases hn : fld so de po ma k < 0
      · have hR := Lib.hid (HN.out (by omega) h)
        obtain rfl | rfl | rfl | rfl : k = 0 ∨ k = 1 ∨ k = 2 ∨ k = 3 := by omega
        all_goals
          simp only [fld] at hn
          go_wp2_with fail
          go_ret
          exact ⟨by rw [hR.out]; rfl, (by repeat (first | (with_reducible exact b0 _) | (with_reducible refine ba ?_ _) | (with_reducible refine bd ?_ _) | (with_reducible refine Below.drew ?_) | (with_reducible refine bs ?_ (by first | exact Nat.le_refl _ | exact Nat.le_add_right _ _ | omega) _) | (with_reducible refine bt ?_ (by assumption))))⟩
      by_cases hb : 65535 < fld so de po ma k
      · have hR := Lib.hid (HN.out (by omega) h)
        obtain rfl | rfl | rfl | rfl : k = 0 ∨ k = 1 ∨ k = 2 ∨ k = 3 := by omega
        all_goals
          simp only [fld] at hn hb
          go_wp2_with fail
          go_ret
          exact ⟨by rw [hR.out]; rfl, (by repeat (first | (with_reducible exact b0 _) | (with_reducible refine ba ?_ _) | (with_reducible refine bd ?_ _) | (with_reducible refine Below.drew ?_) | (with_reducible refine bs ?_ (by first | exact Nat.le_refl _ | exact Nat.le_add_right _ _ | omega) _) | (with_reducible refine bt ?_ (by assumption))))⟩
      have hR := Lib.hid (HY.out (by omega))
      clear HN HY HA
      obtain rfl | rfl | rfl | rfl : k = 0 ∨ k = 1 ∨ k = 2 ∨ k = 3 := by omega
      all_goals
        simp only [fld] at hn hb
        go_wp2_with fail
        go_round
        case rel => first | exact ⟨1, by omega, rfl, hR.out⟩ | exact ⟨2, by omega, rfl, hR.out⟩ | exact ⟨3, by omega, rfl, hR.out⟩ | exact ⟨4, by omega, rfl, hR.out⟩
        case measure => simp [intOf]
    · obtain rfl : k = 4 := by omega
      have hw : (0 ≤ so ∧ so ≤ 65535) ∧ (0 ≤ de ∧ de ≤ 65535) ∧ (0 ≤ po ∧ po ≤ 65535) ∧ (0 ≤ ma ∧ ma ≤ 65535) := ⟨HA.out 0 (by omega), HA.out 1 (by omega), HA.out 2 (by omega), HA.out 3 (by omega)⟩
      have HW := Lib.hid hw
      clear hw HN HY
      go_wp2_with fail
      all_goals
        go_ret
        refine ⟨ret_b ?_, (by repeat (first | (with_reducible exact b0 _) | (with_reducible refine ba ?_ _) | (with_reducible refine bd ?_ _) | (with_reducible refine Below.drew ?_) | (with_reducible refine bs ?_ (by first | exact Nat.le_refl _ | exact Nat.le_add_right _ _ | omega) _) | (with_reducible refine bt ?_ (by assumption))))⟩
        have hw := HW.out
        rw [Bool.eq_iff_iff]
        simp [pok]
        try omega
end Go.Proofs.YtjajddhedahpnaaDoor
