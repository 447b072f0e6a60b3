/- The contracts of RunEarly: what the call returns; old memory is left as it was. -/
import Derived.Test.YtpgddjnjojkllaaAverages
import Derived.Test.YtpgddjnjojkllaaDecide2
namespace Go.Proofs.Ytpgddjnjojkllaa
open Go.ChangeShapes Go.WideShapes Go.ChangeAt Go.RowKit
set_option linter.unusedVariables false
/-- How many have passed since the last drop, behind the first k. -/
def since (lo hi we mo av key : Int) (l : List Int) : Nat → Int
  | 0 => 0
  | k + 1 => if 0 < deci lo hi mo (cur we av l (k + 1)) (since lo hi we mo av key l k) key k then 0 else since lo hi we mo av key l k + 1
def dec (lo hi we mo av key : Int) (l : List Int) (k : Nat) : Int := deci lo hi mo (cur we av l (k + 1)) (since lo hi we mo av key l k) key k
def decs (lo hi we mo av key : Int) (l : List Int) (k : Nat) : List Int := (List.range k).map (dec lo hi we mo av key l)
theorem decs_succ (lo hi we mo av key : Int) (l : List Int) (k : Nat) : decs lo hi we mo av key l (k + 1) = decs lo hi we mo av key l k ++ [dec lo hi we mo av key l k] := by
  simp [decs, List.range_succ]
theorem since_bound (lo hi we mo av key : Int) (l : List Int) (k : Nat) : 0 ≤ since lo hi we mo av key l k ∧ since lo hi we mo av key l k ≤ k := by
  induction k with
  | zero => simp [since]
  | succ k ih =>
    rw [since]
    split <;> omega
def keyOk (key : Int) : Bool := decide (0 ≤ key ∧ key ≤ 1000000000)
theorem rdKey0_any (key : Int) (w : World) : Calls Try.prog 48 #[.int .i64 key, .int .i64 0] w fun e w' => e = .returned (.bool (keyOk key)) ∧ w = w' :=
  (rdKey_any key 0 w).mono fun e w' ⟨he, hw⟩ => ⟨he.trans (ret_b (by rw [Bool.eq_iff_iff]; simp [keyOk])), hw⟩
theorem isKey20B_any (key : Int) (w : World) : Calls Try.prog 50 #[.int .i64 key] w fun e w' => e = .returned (.bool (keyOk key)) ∧ w = w' := isKey20_any key w
def reOk (lo hi we mo av key : Int) (l : List Int) : Bool := good lo hi we mo && isAv av && lenOk l && keyOk key
def reL (lo hi we mo av key : Int) (l : List Int) : List Int := if reOk lo hi we mo av key l then decs lo hi we mo av key l l.length else []
theorem specRunEarly_any (lo hi we mo av key : Int) (A : Option Addr) (n cap : Nat) (l : List Int) (w : World) (hl : l.length = n) (hr : IRow w A l) (hn : n ≤ 9223372036854775807) :
    Calls Try.prog 39 #[.agg #[.int .i64 lo, .int .i64 hi, .int .i64 we, .int .i64 mo], .int .i64 av, .slice A n cap, .int .i64 key] w (NewIntsB w (reL lo hi we mo av key l) (reOk lo hi we mo av key l)) := by
  have HL := Lib.hid hl
  have HR := Lib.hid hr
  clear hl hr
  have hra := Lib.hid (fun (o : Obj) => HR.out.below (ba (b0 w) o))
  rcases h1 : good lo hi we mo with _ | _
  · have hR := Lib.hid (show (reL lo hi we mo av key l, reOk lo hi we mo av key l) = (List.nil, false) by simp [reL, reOk, h1])
    have hR' := Lib.hid (Prod.mk.inj hR.out)
    rw [hR'.out.1, hR'.out.2]
    go_enter Try.func39, Try.ntmps39
    go_wp2_with (first | (go_at_call 41; refine (rdGood_any _ _ _ _ _).mono ?_; rintro e w1 ⟨rfl, hg⟩; have zhg := hg.size; (try simp at zhg); have c0hg := fun o => bkeep hg (w.heap.size) o (by first | omega | (simp; done) | (simp; omega)); have f0hg := fun o => bfree hg (w.heap.size) o (by first | omega | (simp; done) | (simp; omega))) | (go_at_call 42; refine (rdAverage_any _ _).mono ?_; rintro e w' ⟨rfl, rfl⟩) | (go_at_call 63; refine (rdLengths_any _ _ _ l _ HL.out ((hra.out _).below hg) hn).mono ?_; rintro e w' ⟨rfl, rfl⟩) | (go_at_call 48; refine (rdKey0_any _ _).mono ?_; rintro e w' ⟨rfl, rfl⟩))
    go_ret2
    exact NewIntsB.none_ rfl (by repeat (first | (with_reducible exact b0 _) | (with_reducible refine ba ?_ _) | (with_reducible refine bd ?_ _) | (with_reducible refine Below.drew ?_) | (with_reducible refine bs ?_ (by first | exact Nat.le_refl _ | exact Nat.le_add_right _ _ | omega) _) | (with_reducible refine bt ?_ (by assumption))))
  rcases h2 : isAv av with _ | _
  · have hR := Lib.hid (show (reL lo hi we mo av key l, reOk lo hi we mo av key l) = (List.nil, false) by simp [reL, reOk, h1, h2])
    have hR' := Lib.hid (Prod.mk.inj hR.out)
    rw [hR'.out.1, hR'.out.2]
    go_enter Try.func39, Try.ntmps39
    go_wp2_with (first | (go_at_call 41; refine (rdGood_any _ _ _ _ _).mono ?_; rintro e w1 ⟨rfl, hg⟩; have zhg := hg.size; (try simp at zhg); have c0hg := fun o => bkeep hg (w.heap.size) o (by first | omega | (simp; done) | (simp; omega)); have f0hg := fun o => bfree hg (w.heap.size) o (by first | omega | (simp; done) | (simp; omega))) | (go_at_call 42; refine (rdAverage_any _ _).mono ?_; rintro e w' ⟨rfl, rfl⟩) | (go_at_call 63; refine (rdLengths_any _ _ _ l _ HL.out ((hra.out _).below hg) hn).mono ?_; rintro e w' ⟨rfl, rfl⟩) | (go_at_call 48; refine (rdKey0_any _ _).mono ?_; rintro e w' ⟨rfl, rfl⟩))
    go_ret2
    exact NewIntsB.none_ rfl (by repeat (first | (with_reducible exact b0 _) | (with_reducible refine ba ?_ _) | (with_reducible refine bd ?_ _) | (with_reducible refine Below.drew ?_) | (with_reducible refine bs ?_ (by first | exact Nat.le_refl _ | exact Nat.le_add_right _ _ | omega) _) | (with_reducible refine bt ?_ (by assumption))))
  rcases h3 : lenOk l with _ | _
  · have hR := Lib.hid (show (reL lo hi we mo av key l, reOk lo hi we mo av key l) = (List.nil, false) by simp [reL, reOk, h1, h2, h3])
    have hR' := Lib.hid (Prod.mk.inj hR.out)
    rw [hR'.out.1, hR'.out.2]
    go_enter Try.func39, Try.ntmps39
    go_wp2_with (first | (go_at_call 41; refine (rdGood_any _ _ _ _ _).mono ?_; rintro e w1 ⟨rfl, hg⟩; have zhg := hg.size; (try simp at zhg); have c0hg := fun o => bkeep hg (w.heap.size) o (by first | omega | (simp; done) | (simp; omega)); have f0hg := fun o => bfree hg (w.heap.size) o (by first | omega | (simp; done) | (simp; omega))) | (go_at_call 42; refine (rdAverage_any _ _).mono ?_; rintro e w' ⟨rfl, rfl⟩) | (go_at_call 63; refine (rdLengths_any _ _ _ l _ HL.out ((hra.out _).below hg) hn).mono ?_; rintro e w' ⟨rfl, rfl⟩) | (go_at_call 48; refine (rdKey0_any _ _).mono ?_; rintro e w' ⟨rfl, rfl⟩))
    go_ret2
    exact NewIntsB.none_ rfl (by repeat (first | (with_reducible exact b0 _) | (with_reducible refine ba ?_ _) | (with_reducible refine bd ?_ _) | (with_reducible refine Below.drew ?_) | (with_reducible refine bs ?_ (by first | exact Nat.le_refl _ | exact Nat.le_add_right _ _ | omega) _) | (with_reducible refine bt ?_ (by assumption))))
  rcases h4 : keyOk key with _ | _
  · have hR := Lib.hid (show (reL lo hi we mo av key l, reOk lo hi we mo av key l) = (List.nil, false) by simp [reL, reOk, h1, h2, h3, h4])
    have hR' := Lib.hid (Prod.mk.inj hR.out)
    rw [hR'.out.1, hR'.out.2]
    go_enter Try.func39, Try.ntmps39
    go_wp2_with (first | (go_at_call 41; refine (rdGood_any _ _ _ _ _).mono ?_; rintro e w1 ⟨rfl, hg⟩; have zhg := hg.size; (try simp at zhg); have c0hg := fun o => bkeep hg (w.heap.size) o (by first | omega | (simp; done) | (simp; omega)); have f0hg := fun o => bfree hg (w.heap.size) o (by first | omega | (simp; done) | (simp; omega))) | (go_at_call 42; refine (rdAverage_any _ _).mono ?_; rintro e w' ⟨rfl, rfl⟩) | (go_at_call 63; refine (rdLengths_any _ _ _ l _ HL.out ((hra.out _).below hg) hn).mono ?_; rintro e w' ⟨rfl, rfl⟩) | (go_at_call 48; refine (rdKey0_any _ _).mono ?_; rintro e w' ⟨rfl, rfl⟩))
    go_ret2
    exact NewIntsB.none_ rfl (by repeat (first | (with_reducible exact b0 _) | (with_reducible refine ba ?_ _) | (with_reducible refine bd ?_ _) | (with_reducible refine Below.drew ?_) | (with_reducible refine bs ?_ (by first | exact Nat.le_refl _ | exact Nat.le_add_right _ _ | omega) _) | (with_reducible refine bt ?_ (by assumption))))
  have hR := Lib.hid (show (reL lo hi we mo av key l, reOk lo hi we mo av key l) = (decs lo hi we mo av key l l.length, true) by simp [reL, reOk, h1, h2, h3, h4])
  have hR' := Lib.hid (Prod.mk.inj hR.out)
  rw [hR'.out.1, hR'.out.2]
  have g := good_iff.1 h1
  have g2 : 0 ≤ av ∧ av ≤ 15360 := by simpa [isAv] using h2
  have g4 : 0 ≤ key ∧ key ≤ 1000000000 := by simpa [keyOk] using h4
  have h3' := h3
  simp only [lenOk, Bool.and_eq_true, decide_eq_true_eq] at h3'
  obtain ⟨h60, hall⟩ := h3'
  rw [HL.out] at h60
  have HA := Lib.hid hall
  clear hall
  go_enter Try.func39, Try.ntmps39
  go_wp2_with (first | (go_at_call 41; refine (rdGood_any _ _ _ _ _).mono ?_; rintro e w1 ⟨rfl, hg⟩; have zhg := hg.size; (try simp at zhg); have c0hg := fun o => bkeep hg (w.heap.size) o (by first | omega | (simp; done) | (simp; omega)); have f0hg := fun o => bfree hg (w.heap.size) o (by first | omega | (simp; done) | (simp; omega))) | (go_at_call 42; refine (rdAverage_any _ _).mono ?_; rintro e w' ⟨rfl, rfl⟩) | (go_at_call 63; refine (rdLengths_any _ _ _ l _ HL.out ((hra.out _).below hg) hn).mono ?_; rintro e w' ⟨rfl, rfl⟩) | (go_at_call 48; refine (rdKey0_any _ _).mono ?_; rintro e w' ⟨rfl, rfl⟩))
  clear c0hg f0hg
  go_loopw [1, 10, 11, 35] (fun a v s i wr => ∃ (k : Nat) (B : Option Addr) (c : Nat), k ≤ n ∧ i = .int .i64 k ∧ a = .int .i64 (cur we av l k) ∧ s = .int .i64 (since lo hi we mo av key l k) ∧ v = .slice B k c ∧ IOwn wr (w.alloc (.cells #[.int .i64 lo, .int .i64 hi, .int .i64 we, .int .i64 mo] 25)).heap.size wr.heap.size 3 1 B k c (decs lo hi we mo av key l k) ∧ Below (w.alloc (.cells #[.int .i64 lo, .int .i64 hi, .int .i64 we, .int .i64 mo] 25)).heap.size (w.alloc (.cells #[.int .i64 lo, .int .i64 hi, .int .i64 we, .int .i64 mo] 25)) wr) (fun _ _ _ i _ => n - (intOf i).toNat)
  case atStart => exact ⟨0, none, 0, Nat.zero_le _, rfl, rfl, rfl, rfl, IOwn.none_ _ _ _ _ _, hg⟩
  case round =>
    obtain ⟨k, B, c, hk, rfl, rfl, rfl, rfl, hown, hb⟩ := hrel
    have HO := Lib.hid hown
    clear hown
    have zhb := hb.size; (try simp at zhb); have c0hb := fun o => bkeep hb (w.heap.size) o (by first | omega | (simp; done) | (simp; omega)); have f0hb := fun o => bfree hb (w.heap.size) o (by first | omega | (simp; done) | (simp; omega))
    have cb := cur_bound (we := we) (av := av) (l := l) (by omega) (by omega) (by omega) (by omega) HA.out k (by rw [HL.out]; exact hk)
    have sb := since_bound lo hi we mo av key l k
    by_cases hlt : k < n
    · obtain ⟨g', off, rfl, hg', hc⟩ := ((hra.out _).below hb).at_ (k := k) (by rw [HL.out]; exact hlt)
      have hck := hc k (by rw [HL.out]; exact hlt)
      clear hc
      have hin := allIn_get HA.out (j := k) (by rw [HL.out]; exact hlt)
      have HS := Lib.hid (cur_succ (we := we) (av := av) (l := l) (k := k) (by rw [HL.out]; exact hlt))
      have cb2 := cur_bound (we := we) (av := av) (l := l) (by omega) (by omega) (by omega) (by omega) HA.out (k + 1) (by rw [HL.out]; exact hlt)
      have db := deci_bound lo hi mo (cur we av l (k + 1)) (since lo hi we mo av key l k) key k
      have HD := Lib.hid (show dec lo hi we mo av key l k = deci lo hi mo (cur we av l (k + 1)) (since lo hi we mo av key l k) key k from rfl)
      have HN := Lib.hid (show since lo hi we mo av key l (k + 1) = if 0 < deci lo hi mo (cur we av l (k + 1)) (since lo hi we mo av key l k) key k then 0 else since lo hi we mo av key l k + 1 from rfl)
      go_wp2_with fail
      go_at_call 44
      refine (rdNext_any _ _ _ _ _ _ _ (by omega) (by omega) (by omega) (by omega) (by omega) (by omega)).mono ?_
      rw [← HS.out]
      rintro e w2 ⟨rfl, hn2⟩
      have zhn2 := hn2.size; (try simp at zhn2); have c0hn2 := fun o => bkeep hn2 (w.heap.size) o (by first | omega | (simp; done) | (simp; omega)); have f0hn2 := fun o => bfree hn2 (w.heap.size) o (by first | omega | (simp; done) | (simp; omega))
      go_wp2_with fail
      go_at_call 65
      refine (rdDecide_any _ _ _ _ _ _ _ _ _ (by omega) (by omega) (by omega) (by omega) (by omega) (by omega) (by omega) (by omega) (by omega) (by omega) (by omega) (by omega) (by omega)).mono ?_
      rintro e w3 ⟨rfl, hn3⟩
      have z3 := hn3.size
      generalize deci lo hi mo (cur we av l (k + 1)) (since lo hi we mo av key l k) key k = d at *
      have HOn := Lib.hid ((HO.out.below hn2 (Nat.le_refl _)).below hn3 zhn2)
      by_cases hd : 0 < d
      · have HN' := Lib.hid (HN.out.trans (if_pos hd))
        have hd1 : (d != 0) = true := by simp; omega
        go_wp2_with (at_builtin; refine append_int rfl _ _ rfl (lo := (w.alloc (.cells #[.int .i64 lo, .int .i64 hi, .int .i64 we, .int .i64 mo] 25)).heap.size) (hh := w3.heap.size + 1) (l := decs lo hi we mo av key l k) rfl ((HOn.out.below (ba (b0 w3) _) (by omega)).more (by omega)) w3.heap.size d rfl (by simp) (by omega) (by simp; omega) ?_; intro B' c' w4 ho3 hb3; rw [← HD.out, ← decs_succ] at ho3; have HO3 := Lib.hid ho3; clear ho3)
        go_roundw
        case rel => exact ⟨k + 1, B', c', by omega, by go_num, rfl, by rw [HN'.out], rfl, HO3.out, (bt hb (ba (bt hn2 hn3) _)).trans hb3⟩
        case measure => simp [intOf]; omega
      · have HN' := Lib.hid (HN.out.trans (if_neg hd))
        obtain rfl : d = 0 := by omega
        go_wp2_with (at_builtin; refine append_int rfl _ _ rfl (lo := (w.alloc (.cells #[.int .i64 lo, .int .i64 hi, .int .i64 we, .int .i64 mo] 25)).heap.size) (hh := w3.heap.size + 1) (l := decs lo hi we mo av key l k) rfl ((HOn.out.below (ba (b0 w3) _) (by omega)).more (by omega)) w3.heap.size 0 rfl (by simp) (by omega) (by simp; omega) ?_; intro B' c' w4 ho3 hb3; rw [← HD.out, ← decs_succ] at ho3; have HO3 := Lib.hid ho3; clear ho3)
        go_roundw
        case rel => exact ⟨k + 1, B', c', by omega, by go_num, rfl, by rw [HN'.out], rfl, HO3.out, (bt hb (ba (bt hn2 hn3) _)).trans hb3⟩
        case measure => simp [intOf]; omega
    · obtain rfl : k = n := by omega
      go_wp2_with fail
      go_ret2
      refine ⟨B, k, c, rfl, ?_, bt (ba (b0 _) _) hb⟩
      rw [HL.out]
      exact HO.out.lo_le (by simp)
theorem implRunEarly_any (lo hi we mo av key : Int) (A : Option Addr) (n cap : Nat) (l : List Int) (w : World) (hl : l.length = n) (hr : IRow w A l) (hn : n ≤ 9223372036854775807) :
    Calls Try.prog 40 #[.agg #[.int .i64 lo, .int .i64 hi, .int .i64 we, .int .i64 mo], .int .i64 av, .slice A n cap, .int .i64 key] w (NewIntsB w (reL lo hi we mo av key l) (reOk lo hi we mo av key l)) := by
  have HL := Lib.hid hl
  have HR := Lib.hid hr
  clear hl hr
  have hra := Lib.hid (fun (o : Obj) => HR.out.below (ba (b0 w) o))
  rcases h1 : good lo hi we mo with _ | _
  · have hR := Lib.hid (show (reL lo hi we mo av key l, reOk lo hi we mo av key l) = (List.nil, false) by simp [reL, reOk, h1])
    have hR' := Lib.hid (Prod.mk.inj hR.out)
    rw [hR'.out.1, hR'.out.2]
    go_enter Try.func40, Try.ntmps40
    go_wp2_with (first | (go_at_call 16; refine (implIsEarly_any _ _ _ _ _).mono ?_; rintro e w1 ⟨rfl, hg⟩; have zhg := hg.size; (try simp at zhg); have c0hg := fun o => bkeep hg (w.heap.size) o (by first | omega | (simp; done) | (simp; omega)); have f0hg := fun o => bfree hg (w.heap.size) o (by first | omega | (simp; done) | (simp; omega))) | (go_at_call 45; refine (isAverage_any _ _).mono ?_; rintro e w' ⟨rfl, rfl⟩) | (go_at_call 64; refine (areLengths_any _ _ _ l _ HL.out ((hra.out _).below hg) hn).mono ?_; rintro e w' ⟨rfl, rfl⟩) | (go_at_call 50; refine (isKey20B_any _ _).mono ?_; rintro e w' ⟨rfl, rfl⟩))
    go_ret2
    exact NewIntsB.none_ rfl (by repeat (first | (with_reducible exact b0 _) | (with_reducible refine ba ?_ _) | (with_reducible refine bd ?_ _) | (with_reducible refine Below.drew ?_) | (with_reducible refine bs ?_ (by first | exact Nat.le_refl _ | exact Nat.le_add_right _ _ | omega) _) | (with_reducible refine bt ?_ (by assumption))))
  rcases h2 : isAv av with _ | _
  · have hR := Lib.hid (show (reL lo hi we mo av key l, reOk lo hi we mo av key l) = (List.nil, false) by simp [reL, reOk, h1, h2])
    have hR' := Lib.hid (Prod.mk.inj hR.out)
    rw [hR'.out.1, hR'.out.2]
    go_enter Try.func40, Try.ntmps40
    go_wp2_with (first | (go_at_call 16; refine (implIsEarly_any _ _ _ _ _).mono ?_; rintro e w1 ⟨rfl, hg⟩; have zhg := hg.size; (try simp at zhg); have c0hg := fun o => bkeep hg (w.heap.size) o (by first | omega | (simp; done) | (simp; omega)); have f0hg := fun o => bfree hg (w.heap.size) o (by first | omega | (simp; done) | (simp; omega))) | (go_at_call 45; refine (isAverage_any _ _).mono ?_; rintro e w' ⟨rfl, rfl⟩) | (go_at_call 64; refine (areLengths_any _ _ _ l _ HL.out ((hra.out _).below hg) hn).mono ?_; rintro e w' ⟨rfl, rfl⟩) | (go_at_call 50; refine (isKey20B_any _ _).mono ?_; rintro e w' ⟨rfl, rfl⟩))
    go_ret2
    exact NewIntsB.none_ rfl (by repeat (first | (with_reducible exact b0 _) | (with_reducible refine ba ?_ _) | (with_reducible refine bd ?_ _) | (with_reducible refine Below.drew ?_) | (with_reducible refine bs ?_ (by first | exact Nat.le_refl _ | exact Nat.le_add_right _ _ | omega) _) | (with_reducible refine bt ?_ (by assumption))))
  rcases h3 : lenOk l with _ | _
  · have hR := Lib.hid (show (reL lo hi we mo av key l, reOk lo hi we mo av key l) = (List.nil, false) by simp [reL, reOk, h1, h2, h3])
    have hR' := Lib.hid (Prod.mk.inj hR.out)
    rw [hR'.out.1, hR'.out.2]
    go_enter Try.func40, Try.ntmps40
    go_wp2_with (first | (go_at_call 16; refine (implIsEarly_any _ _ _ _ _).mono ?_; rintro e w1 ⟨rfl, hg⟩; have zhg := hg.size; (try simp at zhg); have c0hg := fun o => bkeep hg (w.heap.size) o (by first | omega | (simp; done) | (simp; omega)); have f0hg := fun o => bfree hg (w.heap.size) o (by first | omega | (simp; done) | (simp; omega))) | (go_at_call 45; refine (isAverage_any _ _).mono ?_; rintro e w' ⟨rfl, rfl⟩) | (go_at_call 64; refine (areLengths_any _ _ _ l _ HL.out ((hra.out _).below hg) hn).mono ?_; rintro e w' ⟨rfl, rfl⟩) | (go_at_call 50; refine (isKey20B_any _ _).mono ?_; rintro e w' ⟨rfl, rfl⟩))
    go_ret2
    exact NewIntsB.none_ rfl (by repeat (first | (with_reducible exact b0 _) | (with_reducible refine ba ?_ _) | (with_reducible refine bd ?_ _) | (with_reducible refine Below.drew ?_) | (with_reducible refine bs ?_ (by first | exact Nat.le_refl _ | exact Nat.le_add_right _ _ | omega) _) | (with_reducible refine bt ?_ (by assumption))))
  rcases h4 : keyOk key with _ | _
  · have hR := Lib.hid (show (reL lo hi we mo av key l, reOk lo hi we mo av key l) = (List.nil, false) by simp [reL, reOk, h1, h2, h3, h4])
    have hR' := Lib.hid (Prod.mk.inj hR.out)
    rw [hR'.out.1, hR'.out.2]
    go_enter Try.func40, Try.ntmps40
    go_wp2_with (first | (go_at_call 16; refine (implIsEarly_any _ _ _ _ _).mono ?_; rintro e w1 ⟨rfl, hg⟩; have zhg := hg.size; (try simp at zhg); have c0hg := fun o => bkeep hg (w.heap.size) o (by first | omega | (simp; done) | (simp; omega)); have f0hg := fun o => bfree hg (w.heap.size) o (by first | omega | (simp; done) | (simp; omega))) | (go_at_call 45; refine (isAverage_any _ _).mono ?_; rintro e w' ⟨rfl, rfl⟩) | (go_at_call 64; refine (areLengths_any _ _ _ l _ HL.out ((hra.out _).below hg) hn).mono ?_; rintro e w' ⟨rfl, rfl⟩) | (go_at_call 50; refine (isKey20B_any _ _).mono ?_; rintro e w' ⟨rfl, rfl⟩))
    go_ret2
    exact NewIntsB.none_ rfl (by repeat (first | (with_reducible exact b0 _) | (with_reducible refine ba ?_ _) | (with_reducible refine bd ?_ _) | (with_reducible refine Below.drew ?_) | (with_reducible refine bs ?_ (by first | exact Nat.le_refl _ | exact Nat.le_add_right _ _ | omega) _) | (with_reducible refine bt ?_ (by assumption))))
  have hR := Lib.hid (show (reL lo hi we mo av key l, reOk lo hi we mo av key l) = (decs lo hi we mo av key l l.length, true) by simp [reL, reOk, h1, h2, h3, h4])
  have hR' := Lib.hid (Prod.mk.inj hR.out)
  rw [hR'.out.1, hR'.out.2]
  have g := good_iff.1 h1
  have g2 : 0 ≤ av ∧ av ≤ 15360 := by simpa [isAv] using h2
  have g4 : 0 ≤ key ∧ key ≤ 1000000000 := by simpa [keyOk] using h4
  have h3' := h3
  simp only [lenOk, Bool.and_eq_true, decide_eq_true_eq] at h3'
  obtain ⟨h60, hall⟩ := h3'
  rw [HL.out] at h60
  have HA := Lib.hid hall
  clear hall
  go_enter Try.func40, Try.ntmps40
  go_wp2_with (first | (go_at_call 16; refine (implIsEarly_any _ _ _ _ _).mono ?_; rintro e w1 ⟨rfl, hg⟩; have zhg := hg.size; (try simp at zhg); have c0hg := fun o => bkeep hg (w.heap.size) o (by first | omega | (simp; done) | (simp; omega)); have f0hg := fun o => bfree hg (w.heap.size) o (by first | omega | (simp; done) | (simp; omega))) | (go_at_call 45; refine (isAverage_any _ _).mono ?_; rintro e w' ⟨rfl, rfl⟩) | (go_at_call 64; refine (areLengths_any _ _ _ l _ HL.out ((hra.out _).below hg) hn).mono ?_; rintro e w' ⟨rfl, rfl⟩) | (go_at_call 50; refine (isKey20B_any _ _).mono ?_; rintro e w' ⟨rfl, rfl⟩))
  clear c0hg f0hg
  go_loopw [1, 10, 11, 36] (fun a v s i wr => ∃ (k : Nat) (B : Option Addr) (c : Nat), k ≤ n ∧ i = .int .i64 k ∧ a = .int .i64 (cur we av l k) ∧ s = .int .i64 (since lo hi we mo av key l k) ∧ v = .slice B k c ∧ IOwn wr (w.alloc (.cells #[.int .i64 lo, .int .i64 hi, .int .i64 we, .int .i64 mo] 25)).heap.size wr.heap.size 3 1 B k c (decs lo hi we mo av key l k) ∧ Below (w.alloc (.cells #[.int .i64 lo, .int .i64 hi, .int .i64 we, .int .i64 mo] 25)).heap.size (w.alloc (.cells #[.int .i64 lo, .int .i64 hi, .int .i64 we, .int .i64 mo] 25)) wr) (fun _ _ _ i _ => n - (intOf i).toNat)
  case atStart => exact ⟨0, _, 0, Nat.zero_le _, rfl, rfl, rfl, rfl, (IOwn.lit0 w1 _ 3 1 hg.size).here, hg.alloc hg.size _⟩
  case round =>
    obtain ⟨k, B, c, hk, rfl, rfl, rfl, rfl, hown, hb⟩ := hrel
    have HO := Lib.hid hown
    clear hown
    have zhb := hb.size; (try simp at zhb); have c0hb := fun o => bkeep hb (w.heap.size) o (by first | omega | (simp; done) | (simp; omega)); have f0hb := fun o => bfree hb (w.heap.size) o (by first | omega | (simp; done) | (simp; omega))
    have cb := cur_bound (we := we) (av := av) (l := l) (by omega) (by omega) (by omega) (by omega) HA.out k (by rw [HL.out]; exact hk)
    have sb := since_bound lo hi we mo av key l k
    by_cases hlt : k < n
    · obtain ⟨g', off, rfl, hg', hc⟩ := ((hra.out _).below hb).at_ (k := k) (by rw [HL.out]; exact hlt)
      have hck := hc k (by rw [HL.out]; exact hlt)
      clear hc
      have hin := allIn_get HA.out (j := k) (by rw [HL.out]; exact hlt)
      have HS := Lib.hid (cur_succ (we := we) (av := av) (l := l) (k := k) (by rw [HL.out]; exact hlt))
      have cb2 := cur_bound (we := we) (av := av) (l := l) (by omega) (by omega) (by omega) (by omega) HA.out (k + 1) (by rw [HL.out]; exact hlt)
      have db := deci_bound lo hi mo (cur we av l (k + 1)) (since lo hi we mo av key l k) key k
      have HD := Lib.hid (show dec lo hi we mo av key l k = deci lo hi mo (cur we av l (k + 1)) (since lo hi we mo av key l k) key k from rfl)
      have HN := Lib.hid (show since lo hi we mo av key l (k + 1) = if 0 < deci lo hi mo (cur we av l (k + 1)) (since lo hi we mo av key l k) key k then 0 else since lo hi we mo av key l k + 1 from rfl)
      go_wp2_with fail
      go_at_call 47
      refine (nextAverage_any _ _ _ _ _ _ _ (by omega) (by omega) (by omega) (by omega) (by omega) (by omega)).mono ?_
      rw [← HS.out]
      rintro e w2 ⟨rfl, hn2⟩
      have zhn2 := hn2.size; (try simp at zhn2); have c0hn2 := fun o => bkeep hn2 (w.heap.size) o (by first | omega | (simp; done) | (simp; omega)); have f0hn2 := fun o => bfree hn2 (w.heap.size) o (by first | omega | (simp; done) | (simp; omega))
      go_wp2_with fail
      go_at_call 66
      refine (decideEarly_any _ _ _ _ _ _ _ _ _ (by omega) (by omega) (by omega) (by omega) (by omega) (by omega) (by omega) (by omega) (by omega) (by omega) (by omega) (by omega) (by omega)).mono ?_
      rintro e w3 ⟨rfl, hn3⟩
      have z3 := hn3.size
      generalize deci lo hi mo (cur we av l (k + 1)) (since lo hi we mo av key l k) key k = d at *
      have HOn := Lib.hid ((HO.out.below hn2 (Nat.le_refl _)).below hn3 zhn2)
      by_cases hd : 0 < d
      · have HN' := Lib.hid (HN.out.trans (if_pos hd))
        have hd1 : (d != 0) = true := by simp; omega
        go_wp2_with (at_builtin; refine append_int rfl _ _ rfl (lo := (w.alloc (.cells #[.int .i64 lo, .int .i64 hi, .int .i64 we, .int .i64 mo] 25)).heap.size) (hh := w3.heap.size + 1) (l := decs lo hi we mo av key l k) rfl ((HOn.out.below (ba (b0 w3) _) (by omega)).more (by omega)) w3.heap.size d rfl (by simp) (by omega) (by simp; omega) ?_; intro B' c' w4 ho3 hb3; rw [← HD.out, ← decs_succ] at ho3; have HO3 := Lib.hid ho3; clear ho3)
        go_roundw
        case rel => exact ⟨k + 1, B', c', by omega, by go_num, rfl, by rw [HN'.out], rfl, HO3.out, (bt hb (ba (bt hn2 hn3) _)).trans hb3⟩
        case measure => simp [intOf]; omega
      · have HN' := Lib.hid (HN.out.trans (if_neg hd))
        obtain rfl : d = 0 := by omega
        go_wp2_with (at_builtin; refine append_int rfl _ _ rfl (lo := (w.alloc (.cells #[.int .i64 lo, .int .i64 hi, .int .i64 we, .int .i64 mo] 25)).heap.size) (hh := w3.heap.size + 1) (l := decs lo hi we mo av key l k) rfl ((HOn.out.below (ba (b0 w3) _) (by omega)).more (by omega)) w3.heap.size 0 rfl (by simp) (by omega) (by simp; omega) ?_; intro B' c' w4 ho3 hb3; rw [← HD.out, ← decs_succ] at ho3; have HO3 := Lib.hid ho3; clear ho3)
        go_roundw
        case rel => exact ⟨k + 1, B', c', by omega, by go_num, rfl, by rw [HN'.out], rfl, HO3.out, (bt hb (ba (bt hn2 hn3) _)).trans hb3⟩
        case measure => simp [intOf]; omega
    · obtain rfl : k = n := by omega
      go_wp2_with fail
      go_ret2
      refine ⟨B, k, c, rfl, ?_, bt (ba (b0 _) _) hb⟩
      rw [HL.out]
      exact HO.out.lo_le (by simp)
end Go.Proofs.Ytpgddjnjojkllaa
