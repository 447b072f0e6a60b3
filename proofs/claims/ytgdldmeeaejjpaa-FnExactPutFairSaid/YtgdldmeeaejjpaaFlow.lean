/- The contracts of the flow of a packet. -/
import Derived.Test.YtgdldmeeaejjpaaSums
import Derived.Test.YtgdldmeeaejjpaaBlk
namespace Go.Proofs.Ytgdldmeeaejjpaa
open Go.ChangeShapes Go.WideShapes Go.ChangeAt Go.RowKit
set_option linter.unusedVariables false
def hs1 (a n : Int) : Int := (31 * a + n + 7) % 1000003
def f3 (so de po : Int) : Nat → Int
  | 0 => so
  | 1 => de
  | _ => po
/-- The number behind k of the three fields. -/
def hk (so de po : Int) : Nat → Int
  | 0 => 40503
  | k + 1 => hs1 (hk so de po k) (f3 so de po k)
theorem hk_b {so de po : Int} (h1 : 0 ≤ so ∧ so ≤ 65535) (h2 : 0 ≤ de ∧ de ≤ 65535) (h3 : 0 ≤ po ∧ po ≤ 65535) : ∀ k, 0 ≤ hk so de po k ∧ hk so de po k < 1000003
  | 0 => by simp [hk]
  | k + 1 => by simp only [hk, hs1]; omega
def flw (p : Pk) (f : Int) : Int := hk p.so p.de p.po 3 % f
theorem flw_b {p : Pk} {f : Int} (h : 1 ≤ f) : 0 ≤ flw p f ∧ flw p f < f := ⟨Int.emod_nonneg _ (by omega), Int.emod_lt_of_pos _ (by omega)⟩
set_option maxHeartbeats 1000000 in
theorem flowOf_any (p : Pk) (f : Int) (w : World) (hp : p.ok = true) (hf : 1 ≤ f) (hf2 : f ≤ 1000000) :
    Calls Try.prog 102 #[.agg #[.int .i64 (p.id), .int .i64 (p.so), .int .i64 (p.de), .int .i64 (p.po), .int .i64 (p.ma), .int .i64 (p.si)], .int .i64 f] w fun e w' => e = .returned (.int .i64 (flw p f)) ∧ Below w.heap.size w w' := by
  have g := Pk.ok_iff.1 hp
  have i0 : ∀ w, (Instr.index 117 (.agg #[.int .i64 (p.so), .int .i64 (p.de), .int .i64 (p.po)]) (.int .i64 0)).run Try.prog w = .ok (.int .i64 p.so) w := fun _ => by kernel_rfl
  have i1 : ∀ w, (Instr.index 117 (.agg #[.int .i64 (p.so), .int .i64 (p.de), .int .i64 (p.po)]) (.int .i64 1)).run Try.prog w = .ok (.int .i64 p.de) w := fun _ => by kernel_rfl
  have i2 : ∀ w, (Instr.index 117 (.agg #[.int .i64 (p.so), .int .i64 (p.de), .int .i64 (p.po)]) (.int .i64 2)).run Try.prog w = .ok (.int .i64 p.po) w := fun _ => by kernel_rfl
  have hb := hk_b (so := p.so) (de := p.de) (po := p.po) (by omega) (by omega) (by omega)
  have HB := Lib.hid hb
  clear hb
  go_enter Try.func102, Try.ntmps102
  go_wp2_with fail
  go_loop [5, 15] (fun a i => ∃ k : Nat, k ≤ 3 ∧ i = .int .i64 k ∧ a = .int .i64 (hk p.so p.de p.po k)) (fun _ i => 3 - (intOf i).toNat)
  case atStart => exact ⟨0, by omega, rfl, rfl⟩
  case round =>
    obtain ⟨k, hk', rfl, rfl⟩ := hrel
    have b1 := HB.out k
    have HE := Lib.hid (show hk p.so p.de p.po (k + 1) = hs1 (hk p.so p.de p.po k) (f3 p.so p.de p.po k) from rfl)
    by_cases h : k < 3
    · generalize hk p.so p.de p.po k = a at *
      obtain rfl | rfl | rfl : k = 0 ∨ k = 1 ∨ k = 2 := by omega
      all_goals
        go_wp2_with fail
        go_round
        case rel => first | exact ⟨1, by omega, rfl, by rw [HE.out]; rfl⟩ | exact ⟨2, by omega, rfl, by rw [HE.out]; rfl⟩ | exact ⟨3, by omega, rfl, by rw [HE.out]; rfl⟩
        case measure => simp [intOf]
    · obtain rfl : k = 3 := by omega
      have HF := Lib.hid (show flw p f = hk p.so p.de p.po 3 % f from rfl)
      generalize hk p.so p.de p.po 3 = a at *
      go_wp2_with fail
      go_ret
      exact ⟨by rw [HF.out]; rfl, (by repeat (first | (with_reducible exact b0 _) | (with_reducible refine ba ?_ _) | (with_reducible refine bd ?_ _) | (with_reducible refine Below.drew ?_) | (with_reducible refine bs ?_ (by first | exact Nat.le_refl _ | exact Nat.le_add_right _ _ | omega) _) | (with_reducible refine bt ?_ (by assumption))))⟩
set_option maxHeartbeats 1000000 in
theorem pkFlow_any (p : Pk) (f : Int) (w : World) (hp : p.ok = true) (hf : 1 ≤ f) (hf2 : f ≤ 1000000) :
    Calls Try.prog 100 #[.agg #[.int .i64 (p.id), .int .i64 (p.so), .int .i64 (p.de), .int .i64 (p.po), .int .i64 (p.ma), .int .i64 (p.si)], .int .i64 f] w fun e w' => e = .returned (.int .i64 (flw p f)) ∧ Below w.heap.size w w' := by
  have g := Pk.ok_iff.1 hp
  have hb := hk_b (so := p.so) (de := p.de) (po := p.po) (by omega) (by omega) (by omega)
  have HB := Lib.hid hb
  clear hb
  go_enter Try.func100, Try.ntmps100
  go_wp2_with fail
  go_loop [5, 16] (fun a i => ∃ k : Nat, k ≤ 3 ∧ i = .int .i64 k ∧ a = .int .i64 (hk p.so p.de p.po k)) (fun _ i => 3 - (intOf i).toNat)
  case atStart => exact ⟨0, by omega, rfl, rfl⟩
  case round =>
    obtain ⟨k, hk', rfl, rfl⟩ := hrel
    have b1 := HB.out k
    have HE := Lib.hid (show hk p.so p.de p.po (k + 1) = hs1 (hk p.so p.de p.po k) (f3 p.so p.de p.po k) from rfl)
    by_cases h : k < 3
    · generalize hk p.so p.de p.po k = a at *
      obtain rfl | rfl | rfl : k = 0 ∨ k = 1 ∨ k = 2 := by omega
      all_goals
        go_wp2_with fail
        go_round
        case rel => first | exact ⟨1, by omega, rfl, by rw [HE.out]; rfl⟩ | exact ⟨2, by omega, rfl, by rw [HE.out]; rfl⟩ | exact ⟨3, by omega, rfl, by rw [HE.out]; rfl⟩
        case measure => simp [intOf]
    · obtain rfl : k = 3 := by omega
      have HF := Lib.hid (show flw p f = hk p.so p.de p.po 3 % f from rfl)
      generalize hk p.so p.de p.po 3 = a at *
      go_wp2_with fail
      go_ret
      exact ⟨by rw [HF.out]; rfl, (by repeat (first | (with_reducible exact b0 _) | (with_reducible refine ba ?_ _) | (with_reducible refine bd ?_ _) | (with_reducible refine Below.drew ?_) | (with_reducible refine bs ?_ (by first | exact Nat.le_refl _ | exact Nat.le_add_right _ _ | omega) _) | (with_reducible refine bt ?_ (by assumption))))⟩
end Go.Proofs.Ytgdldmeeaejjpaa
