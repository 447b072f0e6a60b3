/- The contracts of the drop chance's functions: what the call returns; old memory is left as it was. -/
import Derived.Test.YtpgddjnjojkllaaKeyed
namespace Go.Proofs.Ytpgddjnjojkllaa
open Go.ChangeShapes Go.WideShapes Go.ChangeAt Go.RowKit
def nat2 (a b : Int) : Nat := Nat.gcd a.toNat b.toNat
/-- The chance, in lowest terms. -/
def chN (lo mo av : Int) : Int := mo * (av - 256 * lo)
def chD (lo hi mo av si : Int) : Int := 256000 * (hi - lo) - si * chN lo mo av
def chance (lo hi mo av si : Int) : Int × Int :=
  if av < 256 * lo then (0, 1) else if 256 * hi ≤ av then (1, 1)
  else if chD lo hi mo av si ≤ chN lo mo av then (1, 1)
  else (chN lo mo av / nat2 (chN lo mo av) (chD lo hi mo av si), chD lo hi mo av si / nat2 (chN lo mo av) (chD lo hi mo av si))
theorem rdGcd_any (a b : Int) (w : World) (h1 : 0 ≤ a) (h2 : 0 ≤ b) (h3 : a ≤ 1000000000000) (h4 : b ≤ 1000000000000) :
    Calls Try.prog 67 #[.int .i64 a, .int .i64 b] w fun e w' => e = .returned (.int .i64 (nat2 a b)) ∧ w = w' := by
  go_enter Try.func67, Try.ntmps67
  go_wp2
  go_loop [0, 1] (fun p q => ∃ x y : Nat, p = .int .i64 x ∧ q = .int .i64 y ∧ x ≤ 1000000000000 ∧ y ≤ 1000000000000 ∧ Nat.gcd x y = nat2 a b) (fun _ q => (intOf q).toNat)
  case atStart => exact ⟨a.toNat, b.toNat, by rw [Int.toNat_of_nonneg h1], by rw [Int.toNat_of_nonneg h2], by omega, by omega, rfl⟩
  case round =>
    obtain ⟨x, y, rfl, rfl, hx, hy, hg⟩ := hrel
    have HG := Lib.hid hg
    clear hg
    by_cases h : 0 < y
    · have hm : x % y < y := Nat.mod_lt _ h
      go_wp2
      go_round
      case rel => exact ⟨y, x % y, rfl, by simp, hy, by omega, by rw [Nat.gcd_comm, ← Nat.gcd_rec, Nat.gcd_comm]; exact HG.out⟩
      case measure => simp [intOf]; omega
    · obtain rfl : y = 0 := by omega
      go_wp2
      go_ret
      exact ⟨ret_i (by rw [← HG.out]; simp), rfl⟩
theorem gcd_any (a b : Int) (w : World) (h1 : 0 ≤ a) (h2 : 0 ≤ b) (h3 : a ≤ 1000000000000) (h4 : b ≤ 1000000000000) :
    Calls Try.prog 68 #[.int .i64 a, .int .i64 b] w fun e w' => e = .returned (.int .i64 (nat2 a b)) ∧ Below w.heap.size w w' := by
  go_enter Try.func68, Try.ntmps68
  go_wp2
  go_loopw [0, 1] (fun p q wr => ∃ x y : Nat, p = .int .i64 x ∧ q = .int .i64 y ∧ x ≤ 1000000000000 ∧ y ≤ 1000000000000 ∧ Nat.gcd x y = nat2 a b ∧ Below w.heap.size w wr) (fun _ q _ => (intOf q).toNat)
  case atStart => exact ⟨a.toNat, b.toNat, by rw [Int.toNat_of_nonneg h1], by rw [Int.toNat_of_nonneg h2], by omega, by omega, rfl, b0 _⟩
  case round =>
    obtain ⟨x, y, rfl, rfl, hx, hy, hg, hb⟩ := hrel
    have HG := Lib.hid hg
    clear hg
    by_cases h : 0 < y
    · have hm : x % y < y := Nat.mod_lt _ h
      have hy0 : ((y : Int) == 0) = false := by simp; omega
      have hy1 : ((y : Int) != 0) = true := by simp; omega
      go_wp2
      go_quiet (fail)
      go_wp2
      go_roundw
      case rel => exact ⟨y, x % y, rfl, by simp, hy, by omega, by rw [Nat.gcd_comm, ← Nat.gcd_rec, Nat.gcd_comm]; exact HG.out, bd hb _⟩
      case measure => simp [intOf]; omega
    · obtain rfl : y = 0 := by omega
      go_wp2
      go_ret
      exact ⟨ret_i (by rw [← HG.out]; simp), hb⟩
theorem nat2_comm (a b : Int) : nat2 a b = nat2 b a := Nat.gcd_comm _ _
theorem nat2_pos {a b : Int} (h : 1 ≤ b) : 1 ≤ (nat2 a b : Int) := by
  have : 0 < nat2 a b := Nat.gcd_pos_of_pos_right _ (by omega)
  omega
theorem nat2_self {a : Int} (h : 0 ≤ a) : (nat2 a a : Int) = a := by unfold nat2; rw [Nat.gcd_self]; omega
theorem chN_bound {lo mo av : Int} (h1 : 1 ≤ mo) (h2 : mo ≤ 1000) (h3 : 256 * lo ≤ av) (h4 : av ≤ 256 * lo + 15360) : 0 ≤ chN lo mo av ∧ chN lo mo av ≤ 15360000 := by
  refine ⟨Int.mul_nonneg (by omega) (by omega), ?_⟩
  have := Int.mul_le_mul (a := mo) (b := av - 256 * lo) (c := 1000) (d := 15360) h2 (by omega) (by omega) (by omega)
  unfold chN
  omega
theorem si_bound {si a : Int} (h1 : 0 ≤ si) (h2 : si ≤ 1000) (h3 : 0 ≤ a) (h4 : a ≤ 15360000) : 0 ≤ si * a ∧ si * a ≤ 15360000000 := by
  refine ⟨Int.mul_nonneg h1 h3, ?_⟩
  have := Int.mul_le_mul (a := si) (b := a) (c := 1000) (d := 15360000) h2 h4 h3 (by omega)
  omega
theorem rdChance_any (lo hi we mo av si : Int) (w : World) (h1 : 0 ≤ lo) (h2 : lo < hi) (h3 : hi ≤ 60) (h4 : 1 ≤ mo) (h5 : mo ≤ 1000) (h6 : 0 ≤ av) (h7 : av ≤ 15360) (h8 : 0 ≤ si) (h9 : si ≤ 1000) :
    Calls Try.prog 58 #[.agg #[.int .i64 lo, .int .i64 hi, .int .i64 we, .int .i64 mo], .int .i64 av, .int .i64 si] w fun e w' => e = .returned (.tuple #[.int .i64 (chance lo hi mo av si).1, .int .i64 (chance lo hi mo av si).2]) ∧ Below w.heap.size w w' := by
  by_cases g1 : av < 256 * lo
  · have hR := Lib.hid (show chance lo hi mo av si = (0, 1) by simp [chance, g1])
    go_enter Try.func58, Try.ntmps58
    go_wp2
    go_ret2
    exact ⟨by rw [hR.out]; rfl, (by repeat (first | (with_reducible exact b0 _) | (with_reducible refine ba ?_ _) | (with_reducible refine bd ?_ _) | (with_reducible refine Below.drew ?_) | (with_reducible refine bs ?_ (by first | exact Nat.le_refl _ | exact Nat.le_add_right _ _ | omega) _) | (with_reducible refine bt ?_ (by assumption))))⟩
  by_cases g2 : 256 * hi ≤ av
  · have hR := Lib.hid (show chance lo hi mo av si = (1, 1) by simp [chance, g1, g2])
    go_enter Try.func58, Try.ntmps58
    go_wp2
    go_ret2
    exact ⟨by rw [hR.out]; rfl, (by repeat (first | (with_reducible exact b0 _) | (with_reducible refine ba ?_ _) | (with_reducible refine bd ?_ _) | (with_reducible refine Below.drew ?_) | (with_reducible refine bs ?_ (by first | exact Nat.le_refl _ | exact Nat.le_add_right _ _ | omega) _) | (with_reducible refine bt ?_ (by assumption))))⟩
  have hN := chN_bound (lo := lo) (av := av) h4 h5 (by omega) (by omega)
  have hS := si_bound h8 h9 hN.1 hN.2
  have eN := Lib.hid (show mo * (av - 256 * lo) = chN lo mo av from rfl)
  have eD := Lib.hid (show 256000 * (hi - lo) - si * chN lo mo av = chD lo hi mo av si from rfl)
  have hN' : 0 ≤ mo * (av - 256 * lo) ∧ mo * (av - 256 * lo) ≤ 15360000 := hN
  have hS' : 0 ≤ si * (mo * (av - 256 * lo)) ∧ si * (mo * (av - 256 * lo)) ≤ 15360000000 := hS
  have hD : chD lo hi mo av si ≤ 1000000000000 := by unfold chD; omega
  by_cases g3 : chD lo hi mo av si < chN lo mo av ∨ chD lo hi mo av si ≤ 0
  · have hR := Lib.hid (show chance lo hi mo av si = (1, 1) by rw [chance, if_neg g1, if_neg g2, if_pos (by omega)])
    have g4 : 256000 * (hi - lo) - si * (mo * (av - 256 * lo)) < mo * (av - 256 * lo) ∨ 256000 * (hi - lo) - si * (mo * (av - 256 * lo)) ≤ 0 := g3
    by_cases g5 : 256000 * (hi - lo) - si * (mo * (av - 256 * lo)) ≤ 0
    · clear g3 g4 hD
      go_enter Try.func58, Try.ntmps58
      go_wp2
      go_quiet (fail)
      go_wp2
      go_ret2
      exact ⟨by rw [hR.out]; rfl, (by repeat (first | (with_reducible exact b0 _) | (with_reducible refine ba ?_ _) | (with_reducible refine bd ?_ _) | (with_reducible refine Below.drew ?_) | (with_reducible refine bs ?_ (by first | exact Nat.le_refl _ | exact Nat.le_add_right _ _ | omega) _) | (with_reducible refine bt ?_ (by assumption))))⟩
    · have g6 : 256000 * (hi - lo) - si * (mo * (av - 256 * lo)) < mo * (av - 256 * lo) := by omega
      clear g3 g4 hD
      go_enter Try.func58, Try.ntmps58
      go_wp2
      go_quiet (fail)
      go_wp2
      go_ret2
      exact ⟨by rw [hR.out]; rfl, (by repeat (first | (with_reducible exact b0 _) | (with_reducible refine ba ?_ _) | (with_reducible refine bd ?_ _) | (with_reducible refine Below.drew ?_) | (with_reducible refine bs ?_ (by first | exact Nat.le_refl _ | exact Nat.le_add_right _ _ | omega) _) | (with_reducible refine bt ?_ (by assumption))))⟩
  · have hR := Lib.hid (show chance lo hi mo av si = (chN lo mo av / nat2 (chD lo hi mo av si) (chN lo mo av), chD lo hi mo av si / nat2 (chD lo hi mo av si) (chN lo mo av)) by
      rw [nat2_comm, chance, if_neg g1, if_neg g2]
      by_cases g7 : chD lo hi mo av si ≤ chN lo mo av
      · have e : chD lo hi mo av si = chN lo mo av := by omega
        rw [if_pos g7, e, nat2_self hN.1, Int.ediv_self (by omega)]
      · rw [if_neg g7])
    have hg := nat2_pos (a := chN lo mo av) (b := chD lo hi mo av si) (by omega)
    rw [nat2_comm] at hg
    have g8 : 1 ≤ 256000 * (hi - lo) - si * (mo * (av - 256 * lo)) := by unfold chD chN at g3; omega
    have g9 : mo * (av - 256 * lo) ≤ 256000 * (hi - lo) - si * (mo * (av - 256 * lo)) := by unfold chD chN at g3; omega
    have HG := Lib.hid hg
    clear g3 hD hg
    go_enter Try.func58, Try.ntmps58
    go_wp2
    go_quiet (fail)
    go_wp2_with fail
    rw [eN.out, eD.out]
    refine (rdGcd_any _ _ _ (by unfold chD chN; omega) (by omega) (by unfold chD chN; omega) (by omega)).mono ?_
    rintro e w1 ⟨rfl, rfl⟩
    have hg := HG.out
    have hD1 : 1 ≤ chD lo hi mo av si := g8
    have hD2 : chD lo hi mo av si ≤ 1000000000000 := by unfold chD chN; omega
    generalize (nat2 (chD lo hi mo av si) (chN lo mo av) : Int) = G at *
    generalize chD lo hi mo av si = D at *
    generalize chN lo mo av = M at *
    have i1 : (G == 0) = false := by simp; omega
    go_wp2
    go_quiet (fail)
    go_wp2
    go_ret2
    exact ⟨by rw [hR.out]; rfl, (by repeat (first | (with_reducible exact b0 _) | (with_reducible refine ba ?_ _) | (with_reducible refine bd ?_ _) | (with_reducible refine Below.drew ?_) | (with_reducible refine bs ?_ (by first | exact Nat.le_refl _ | exact Nat.le_add_right _ _ | omega) _) | (with_reducible refine bt ?_ (by assumption))))⟩
theorem dropChance_any (lo hi we mo av si : Int) (w : World) (h1 : 0 ≤ lo) (h2 : lo < hi) (h3 : hi ≤ 60) (h4 : 1 ≤ mo) (h5 : mo ≤ 1000) (h6 : 0 ≤ av) (h7 : av ≤ 15360) (h8 : 0 ≤ si) (h9 : si ≤ 1000) :
    Calls Try.prog 60 #[.agg #[.int .i64 lo, .int .i64 hi, .int .i64 we, .int .i64 mo], .int .i64 av, .int .i64 si] w fun e w' => e = .returned (.tuple #[.int .i64 (chance lo hi mo av si).1, .int .i64 (chance lo hi mo av si).2]) ∧ Below w.heap.size w w' := by
  by_cases g1 : av < 256 * lo
  · have hR := Lib.hid (show chance lo hi mo av si = (0, 1) by simp [chance, g1])
    go_enter Try.func60, Try.ntmps60
    go_wp2
    go_ret2
    exact ⟨by rw [hR.out]; rfl, (by repeat (first | (with_reducible exact b0 _) | (with_reducible refine ba ?_ _) | (with_reducible refine bd ?_ _) | (with_reducible refine Below.drew ?_) | (with_reducible refine bs ?_ (by first | exact Nat.le_refl _ | exact Nat.le_add_right _ _ | omega) _) | (with_reducible refine bt ?_ (by assumption))))⟩
  by_cases g2 : 256 * hi ≤ av
  · have hR := Lib.hid (show chance lo hi mo av si = (1, 1) by simp [chance, g1, g2])
    go_enter Try.func60, Try.ntmps60
    go_wp2
    go_ret2
    exact ⟨by rw [hR.out]; rfl, (by repeat (first | (with_reducible exact b0 _) | (with_reducible refine ba ?_ _) | (with_reducible refine bd ?_ _) | (with_reducible refine Below.drew ?_) | (with_reducible refine bs ?_ (by first | exact Nat.le_refl _ | exact Nat.le_add_right _ _ | omega) _) | (with_reducible refine bt ?_ (by assumption))))⟩
  have hN := chN_bound (lo := lo) (av := av) h4 h5 (by omega) (by omega)
  have hS := si_bound h8 h9 hN.1 hN.2
  have eN := Lib.hid (show mo * (av - 256 * lo) = chN lo mo av from rfl)
  have eD := Lib.hid (show 256000 * (hi - lo) - si * chN lo mo av = chD lo hi mo av si from rfl)
  have hN' : 0 ≤ mo * (av - 256 * lo) ∧ mo * (av - 256 * lo) ≤ 15360000 := hN
  have hS' : 0 ≤ si * (mo * (av - 256 * lo)) ∧ si * (mo * (av - 256 * lo)) ≤ 15360000000 := hS
  by_cases g3 : chD lo hi mo av si ≤ chN lo mo av
  · have hR := Lib.hid (show chance lo hi mo av si = (1, 1) by rw [chance, if_neg g1, if_neg g2, if_pos g3])
    have g4 : 256000 * (hi - lo) - si * (mo * (av - 256 * lo)) ≤ mo * (av - 256 * lo) := g3
    clear g3
    go_enter Try.func60, Try.ntmps60
    go_wp2
    go_ret2
    exact ⟨by rw [hR.out]; rfl, (by repeat (first | (with_reducible exact b0 _) | (with_reducible refine ba ?_ _) | (with_reducible refine bd ?_ _) | (with_reducible refine Below.drew ?_) | (with_reducible refine bs ?_ (by first | exact Nat.le_refl _ | exact Nat.le_add_right _ _ | omega) _) | (with_reducible refine bt ?_ (by assumption))))⟩
  · have hR := Lib.hid (show chance lo hi mo av si = (chN lo mo av / nat2 (chN lo mo av) (chD lo hi mo av si), chD lo hi mo av si / nat2 (chN lo mo av) (chD lo hi mo av si)) by
      rw [chance, if_neg g1, if_neg g2, if_neg g3])
    have HG := Lib.hid (nat2_pos (a := chN lo mo av) (b := chD lo hi mo av si) (by omega))
    have g9 : mo * (av - 256 * lo) < 256000 * (hi - lo) - si * (mo * (av - 256 * lo)) := by unfold chD chN at g3; omega
    clear g3
    go_enter Try.func60, Try.ntmps60
    go_wp2_with fail
    rw [eN.out, eD.out]
    refine (gcd_any _ _ _ (by omega) (by unfold chD chN; omega) (by omega) (by unfold chD chN; omega)).mono ?_
    rintro e w1 ⟨rfl, hb1⟩
    have hg := HG.out
    have hD1 : 1 ≤ chD lo hi mo av si := by unfold chD chN; omega
    have hD2 : chD lo hi mo av si ≤ 1000000000000 := by unfold chD chN; omega
    generalize (nat2 (chN lo mo av) (chD lo hi mo av si) : Int) = G at *
    generalize chD lo hi mo av si = D at *
    generalize chN lo mo av = M at *
    have i1 : (G == 0) = false := by simp; omega
    go_wp2
    go_quiet (fail)
    go_wp2
    go_ret2
    exact ⟨by rw [hR.out]; rfl, (by repeat (first | (with_reducible exact b0 _) | (with_reducible refine ba ?_ _) | (with_reducible refine bd ?_ _) | (with_reducible refine Below.drew ?_) | (with_reducible refine bs ?_ (by first | exact Nat.le_refl _ | exact Nat.le_add_right _ _ | omega) _) | (with_reducible refine bt ?_ (by assumption))))⟩
theorem chance_bound {lo hi mo av si : Int} (h1 : 0 ≤ lo) (h2 : lo < hi) (h3 : hi ≤ 60) (h4 : 1 ≤ mo) (h5 : mo ≤ 1000) (h6 : 0 ≤ av) (h7 : av ≤ 15360) (h8 : 0 ≤ si) (h9 : si ≤ 1000) : 0 ≤ (chance lo hi mo av si).1 ∧ (chance lo hi mo av si).1 ≤ 15360000 ∧ 1 ≤ (chance lo hi mo av si).2 ∧ (chance lo hi mo av si).2 ≤ 15360000 := by
  unfold chance
  split
  · exact ⟨by decide, by decide, by decide, by decide⟩
  split
  · exact ⟨by decide, by decide, by decide, by decide⟩
  rename_i g1 g2
  have hN := chN_bound (lo := lo) (av := av) h4 h5 (by omega) (by omega)
  have hS := si_bound h8 h9 hN.1 hN.2
  split
  · exact ⟨by decide, by decide, by decide, by decide⟩
  rename_i g3
  have hD2 : chD lo hi mo av si ≤ 15360000 := by unfold chD; omega
  have hG := nat2_pos (a := chN lo mo av) (b := chD lo hi mo av si) (by omega)
  have hd : (nat2 (chN lo mo av) (chD lo hi mo av si) : Int) ≤ chD lo hi mo av si := by
    have : nat2 (chN lo mo av) (chD lo hi mo av si) ≤ (chD lo hi mo av si).toNat := Nat.gcd_le_right _ (by omega)
    omega
  refine ⟨Int.ediv_nonneg hN.1 (by omega), ?_, ?_, ?_⟩
  · exact Int.le_trans (Int.ediv_le_self _ hN.1) hN.2
  · exact (Int.le_ediv_iff_mul_le (by omega)).2 (by omega)
  · exact Int.le_trans (Int.ediv_le_self _ (by omega)) hD2
def isSi (n : Int) : Bool := decide (0 ≤ n ∧ n ≤ 1000)
theorem rdSince_any (a : Int) (w : World) : Calls Try.prog 57 #[.int .i64 a] w fun e w' => e = .returned (.bool (isSi a)) ∧ w = w' := by
  go_enter Try.func57, Try.ntmps57
  go_wp2_with (go_at_call 43; refine (l1In_any _ _ _ _).mono ?_; rintro e w' ⟨rfl, rfl⟩)
  go_ret
  exact ⟨ret_b (by rw [Bool.eq_iff_iff]; simp [isSi]), rfl⟩
theorem isSince_any (a : Int) (w : World) : Calls Try.prog 59 #[.int .i64 a] w fun e w' => e = .returned (.bool (isSi a)) ∧ w = w' := by
  go_enter Try.func59, Try.ntmps59
  go_wp2
  all_goals
    go_ret
    exact ⟨ret_b (by rw [Bool.eq_iff_iff]; simp [isSi]; try omega), rfl⟩
def dcR (lo hi we mo av si : Int) : Int × Int × Bool := if good lo hi we mo && isAv av && isSi si then ((chance lo hi mo av si).1, (chance lo hi mo av si).2, true) else (0, 0, false)
theorem specDropChance_any (lo hi we mo av si : Int) (w : World) :
    Calls Try.prog 29 #[.agg #[.int .i64 lo, .int .i64 hi, .int .i64 we, .int .i64 mo], .int .i64 av, .int .i64 si] w fun e w' => e = .returned (.tuple #[.int .i64 (dcR lo hi we mo av si).1, .int .i64 (dcR lo hi we mo av si).2.1, .bool (dcR lo hi we mo av si).2.2]) ∧ Below w.heap.size w w' := by
  rcases h1 : good lo hi we mo with _ | _
  · have hR := Lib.hid (show dcR lo hi we mo av si = (0, 0, false) by simp [dcR, h1])
    go_enter Try.func29, Try.ntmps29
    go_wp2_with (first | (go_at_call 41; refine (rdGood_any _ _ _ _ _).mono ?_; rintro e w1 ⟨rfl, hg⟩; have zhg := hg.size; (try simp at zhg); have c0hg := fun o => bkeep hg (w.heap.size) o (by first | omega | (simp; done) | (simp; omega)); have f0hg := fun o => bfree hg (w.heap.size) o (by first | omega | (simp; done) | (simp; omega))) | (go_at_call 42; refine (rdAverage_any _ _).mono ?_; rintro e w' ⟨rfl, rfl⟩) | (go_at_call 57; refine (rdSince_any _ _).mono ?_; rintro e w' ⟨rfl, rfl⟩))
    go_ret3
    exact ⟨by rw [hR.out]; rfl, (by repeat (first | (with_reducible exact b0 _) | (with_reducible refine ba ?_ _) | (with_reducible refine bd ?_ _) | (with_reducible refine Below.drew ?_) | (with_reducible refine bs ?_ (by first | exact Nat.le_refl _ | exact Nat.le_add_right _ _ | omega) _) | (with_reducible refine bt ?_ (by assumption))))⟩
  rcases h2 : isAv av with _ | _
  · have hR := Lib.hid (show dcR lo hi we mo av si = (0, 0, false) by simp [dcR, h1, h2])
    go_enter Try.func29, Try.ntmps29
    go_wp2_with (first | (go_at_call 41; refine (rdGood_any _ _ _ _ _).mono ?_; rintro e w1 ⟨rfl, hg⟩; have zhg := hg.size; (try simp at zhg); have c0hg := fun o => bkeep hg (w.heap.size) o (by first | omega | (simp; done) | (simp; omega)); have f0hg := fun o => bfree hg (w.heap.size) o (by first | omega | (simp; done) | (simp; omega))) | (go_at_call 42; refine (rdAverage_any _ _).mono ?_; rintro e w' ⟨rfl, rfl⟩) | (go_at_call 57; refine (rdSince_any _ _).mono ?_; rintro e w' ⟨rfl, rfl⟩))
    go_ret3
    exact ⟨by rw [hR.out]; rfl, (by repeat (first | (with_reducible exact b0 _) | (with_reducible refine ba ?_ _) | (with_reducible refine bd ?_ _) | (with_reducible refine Below.drew ?_) | (with_reducible refine bs ?_ (by first | exact Nat.le_refl _ | exact Nat.le_add_right _ _ | omega) _) | (with_reducible refine bt ?_ (by assumption))))⟩
  rcases h3 : isSi si with _ | _
  · have hR := Lib.hid (show dcR lo hi we mo av si = (0, 0, false) by simp [dcR, h1, h2, h3])
    go_enter Try.func29, Try.ntmps29
    go_wp2_with (first | (go_at_call 41; refine (rdGood_any _ _ _ _ _).mono ?_; rintro e w1 ⟨rfl, hg⟩; have zhg := hg.size; (try simp at zhg); have c0hg := fun o => bkeep hg (w.heap.size) o (by first | omega | (simp; done) | (simp; omega)); have f0hg := fun o => bfree hg (w.heap.size) o (by first | omega | (simp; done) | (simp; omega))) | (go_at_call 42; refine (rdAverage_any _ _).mono ?_; rintro e w' ⟨rfl, rfl⟩) | (go_at_call 57; refine (rdSince_any _ _).mono ?_; rintro e w' ⟨rfl, rfl⟩))
    go_ret3
    exact ⟨by rw [hR.out]; rfl, (by repeat (first | (with_reducible exact b0 _) | (with_reducible refine ba ?_ _) | (with_reducible refine bd ?_ _) | (with_reducible refine Below.drew ?_) | (with_reducible refine bs ?_ (by first | exact Nat.le_refl _ | exact Nat.le_add_right _ _ | omega) _) | (with_reducible refine bt ?_ (by assumption))))⟩
  have hR := Lib.hid (show dcR lo hi we mo av si = ((chance lo hi mo av si).1, (chance lo hi mo av si).2, true) by simp [dcR, h1, h2, h3])
  have g := good_iff.1 h1
  have g2 : 0 ≤ av ∧ av ≤ 15360 := by simpa [isAv] using h2
  have g3 : 0 ≤ si ∧ si ≤ 1000 := by simpa [isSi] using h3
  go_enter Try.func29, Try.ntmps29
  go_wp2_with (first | (go_at_call 41; refine (rdGood_any _ _ _ _ _).mono ?_; rintro e w1 ⟨rfl, hg⟩; have zhg := hg.size; (try simp at zhg); have c0hg := fun o => bkeep hg (w.heap.size) o (by first | omega | (simp; done) | (simp; omega)); have f0hg := fun o => bfree hg (w.heap.size) o (by first | omega | (simp; done) | (simp; omega))) | (go_at_call 42; refine (rdAverage_any _ _).mono ?_; rintro e w' ⟨rfl, rfl⟩) | (go_at_call 57; refine (rdSince_any _ _).mono ?_; rintro e w' ⟨rfl, rfl⟩))
  refine (rdChance_any _ _ _ _ _ _ _ (by omega) (by omega) (by omega) (by omega) (by omega) (by omega) (by omega) (by omega) (by omega)).mono ?_
  rintro e w2 ⟨rfl, hw⟩
  go_wp2
  go_ret3
  exact ⟨by rw [hR.out]; rfl, (by repeat (first | (with_reducible exact b0 _) | (with_reducible refine ba ?_ _) | (with_reducible refine bd ?_ _) | (with_reducible refine Below.drew ?_) | (with_reducible refine bs ?_ (by first | exact Nat.le_refl _ | exact Nat.le_add_right _ _ | omega) _) | (with_reducible refine bt ?_ (by assumption))))⟩
theorem implDropChance_any (lo hi we mo av si : Int) (w : World) :
    Calls Try.prog 30 #[.agg #[.int .i64 lo, .int .i64 hi, .int .i64 we, .int .i64 mo], .int .i64 av, .int .i64 si] w fun e w' => e = .returned (.tuple #[.int .i64 (dcR lo hi we mo av si).1, .int .i64 (dcR lo hi we mo av si).2.1, .bool (dcR lo hi we mo av si).2.2]) ∧ Below w.heap.size w w' := by
  rcases h1 : good lo hi we mo with _ | _
  · have hR := Lib.hid (show dcR lo hi we mo av si = (0, 0, false) by simp [dcR, h1])
    go_enter Try.func30, Try.ntmps30
    go_wp2_with (first | (go_at_call 16; refine (implIsEarly_any _ _ _ _ _).mono ?_; rintro e w1 ⟨rfl, hg⟩; have zhg := hg.size; (try simp at zhg); have c0hg := fun o => bkeep hg (w.heap.size) o (by first | omega | (simp; done) | (simp; omega)); have f0hg := fun o => bfree hg (w.heap.size) o (by first | omega | (simp; done) | (simp; omega))) | (go_at_call 45; refine (isAverage_any _ _).mono ?_; rintro e w' ⟨rfl, rfl⟩) | (go_at_call 59; refine (isSince_any _ _).mono ?_; rintro e w' ⟨rfl, rfl⟩))
    go_ret3
    exact ⟨by rw [hR.out]; rfl, (by repeat (first | (with_reducible exact b0 _) | (with_reducible refine ba ?_ _) | (with_reducible refine bd ?_ _) | (with_reducible refine Below.drew ?_) | (with_reducible refine bs ?_ (by first | exact Nat.le_refl _ | exact Nat.le_add_right _ _ | omega) _) | (with_reducible refine bt ?_ (by assumption))))⟩
  rcases h2 : isAv av with _ | _
  · have hR := Lib.hid (show dcR lo hi we mo av si = (0, 0, false) by simp [dcR, h1, h2])
    go_enter Try.func30, Try.ntmps30
    go_wp2_with (first | (go_at_call 16; refine (implIsEarly_any _ _ _ _ _).mono ?_; rintro e w1 ⟨rfl, hg⟩; have zhg := hg.size; (try simp at zhg); have c0hg := fun o => bkeep hg (w.heap.size) o (by first | omega | (simp; done) | (simp; omega)); have f0hg := fun o => bfree hg (w.heap.size) o (by first | omega | (simp; done) | (simp; omega))) | (go_at_call 45; refine (isAverage_any _ _).mono ?_; rintro e w' ⟨rfl, rfl⟩) | (go_at_call 59; refine (isSince_any _ _).mono ?_; rintro e w' ⟨rfl, rfl⟩))
    go_ret3
    exact ⟨by rw [hR.out]; rfl, (by repeat (first | (with_reducible exact b0 _) | (with_reducible refine ba ?_ _) | (with_reducible refine bd ?_ _) | (with_reducible refine Below.drew ?_) | (with_reducible refine bs ?_ (by first | exact Nat.le_refl _ | exact Nat.le_add_right _ _ | omega) _) | (with_reducible refine bt ?_ (by assumption))))⟩
  rcases h3 : isSi si with _ | _
  · have hR := Lib.hid (show dcR lo hi we mo av si = (0, 0, false) by simp [dcR, h1, h2, h3])
    go_enter Try.func30, Try.ntmps30
    go_wp2_with (first | (go_at_call 16; refine (implIsEarly_any _ _ _ _ _).mono ?_; rintro e w1 ⟨rfl, hg⟩; have zhg := hg.size; (try simp at zhg); have c0hg := fun o => bkeep hg (w.heap.size) o (by first | omega | (simp; done) | (simp; omega)); have f0hg := fun o => bfree hg (w.heap.size) o (by first | omega | (simp; done) | (simp; omega))) | (go_at_call 45; refine (isAverage_any _ _).mono ?_; rintro e w' ⟨rfl, rfl⟩) | (go_at_call 59; refine (isSince_any _ _).mono ?_; rintro e w' ⟨rfl, rfl⟩))
    go_ret3
    exact ⟨by rw [hR.out]; rfl, (by repeat (first | (with_reducible exact b0 _) | (with_reducible refine ba ?_ _) | (with_reducible refine bd ?_ _) | (with_reducible refine Below.drew ?_) | (with_reducible refine bs ?_ (by first | exact Nat.le_refl _ | exact Nat.le_add_right _ _ | omega) _) | (with_reducible refine bt ?_ (by assumption))))⟩
  have hR := Lib.hid (show dcR lo hi we mo av si = ((chance lo hi mo av si).1, (chance lo hi mo av si).2, true) by simp [dcR, h1, h2, h3])
  have g := good_iff.1 h1
  have g2 : 0 ≤ av ∧ av ≤ 15360 := by simpa [isAv] using h2
  have g3 : 0 ≤ si ∧ si ≤ 1000 := by simpa [isSi] using h3
  go_enter Try.func30, Try.ntmps30
  go_wp2_with (first | (go_at_call 16; refine (implIsEarly_any _ _ _ _ _).mono ?_; rintro e w1 ⟨rfl, hg⟩; have zhg := hg.size; (try simp at zhg); have c0hg := fun o => bkeep hg (w.heap.size) o (by first | omega | (simp; done) | (simp; omega)); have f0hg := fun o => bfree hg (w.heap.size) o (by first | omega | (simp; done) | (simp; omega))) | (go_at_call 45; refine (isAverage_any _ _).mono ?_; rintro e w' ⟨rfl, rfl⟩) | (go_at_call 59; refine (isSince_any _ _).mono ?_; rintro e w' ⟨rfl, rfl⟩))
  refine (dropChance_any _ _ _ _ _ _ _ (by omega) (by omega) (by omega) (by omega) (by omega) (by omega) (by omega) (by omega) (by omega)).mono ?_
  rintro e w2 ⟨rfl, hw⟩
  go_wp2
  go_ret3
  exact ⟨by rw [hR.out]; rfl, (by repeat (first | (with_reducible exact b0 _) | (with_reducible refine ba ?_ _) | (with_reducible refine bd ?_ _) | (with_reducible refine Below.drew ?_) | (with_reducible refine bs ?_ (by first | exact Nat.le_refl _ | exact Nat.le_add_right _ _ | omega) _) | (with_reducible refine bt ?_ (by assumption))))⟩
end Go.Proofs.Ytpgddjnjojkllaa
