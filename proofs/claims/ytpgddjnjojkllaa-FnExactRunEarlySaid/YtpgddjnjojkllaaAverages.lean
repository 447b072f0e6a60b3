/- The contracts of AverageOver: what the call returns; old memory is left as it was. -/
import Derived.Test.YtpgddjnjojkllaaLists
namespace Go.Proofs.Ytpgddjnjojkllaa
open Go.ChangeShapes Go.WideShapes Go.ChangeAt Go.RowKit
set_option linter.unusedVariables false
/-- The average behind the first k lengths. -/
def cur (we av : Int) (l : List Int) (k : Nat) : Int := (l.take k).foldl (fun a x => nxt we a x) av
theorem cur_succ {we av : Int} {l : List Int} {k : Nat} (h : k < l.length) : cur we av l (k + 1) = nxt we (cur we av l k) (l[k]?.getD 0) := by
  unfold cur
  rw [List.take_succ_eq_append_getElem h, List.foldl_append, List.getElem?_eq_getElem h]
  rfl
theorem cur_bound {we av : Int} {l : List Int} (h1 : 1 ≤ we) (h2 : we ≤ 256) (h3 : 0 ≤ av) (h4 : av ≤ 15360) (hl : allIn l 0 60 = true) (k : Nat) (hk : k ≤ l.length) : 0 ≤ cur we av l k ∧ cur we av l k ≤ 15360 := by
  induction k with
  | zero => simpa [cur] using ⟨h3, h4⟩
  | succ k ih =>
    have ih' := ih (by omega)
    have hx := allIn_get hl (j := k) (by omega)
    rw [cur_succ (by omega)]
    exact nxt_bound h1 h2 ih'.1 ih'.2 hx.1 hx.2
def curs (we av : Int) (l : List Int) (k : Nat) : List Int := (List.range k).map fun j => cur we av l (j + 1)
theorem curs_succ (we av : Int) (l : List Int) (k : Nat) : curs we av l (k + 1) = curs we av l k ++ [cur we av l (k + 1)] := by
  simp [curs, List.range_succ]
def aoOk (lo hi we mo av : Int) (l : List Int) : Bool := good lo hi we mo && isAv av && lenOk l
def aoL (lo hi we mo av : Int) (l : List Int) : List Int := if aoOk lo hi we mo av l then curs we av l l.length else []
theorem specAverageOver_any (lo hi we mo av : Int) (A : Option Addr) (n cap : Nat) (l : List Int) (w : World) (hl : l.length = n) (hr : IRow w A l) (hn : n ≤ 9223372036854775807) :
    Calls Try.prog 33 #[.agg #[.int .i64 lo, .int .i64 hi, .int .i64 we, .int .i64 mo], .int .i64 av, .slice A n cap] w (NewIntsB w (aoL lo hi we mo av l) (aoOk lo hi we mo av l)) := by
  have HL := Lib.hid hl
  have HR := Lib.hid hr
  clear hl hr
  have hra := Lib.hid (fun (o : Obj) => HR.out.below (ba (b0 w) o))
  rcases h1 : good lo hi we mo with _ | _
  · have hR := Lib.hid (show (aoL lo hi we mo av l, aoOk lo hi we mo av l) = (List.nil, false) by simp [aoL, aoOk, h1])
    have hR' := Lib.hid (Prod.mk.inj hR.out)
    rw [hR'.out.1, hR'.out.2]
    go_enter Try.func33, Try.ntmps33
    go_wp2_with (first | (go_at_call 41; refine (rdGood_any _ _ _ _ _).mono ?_; rintro e w1 ⟨rfl, hg⟩; have zhg := hg.size; (try simp at zhg); have c0hg := fun o => bkeep hg (w.heap.size) o (by first | omega | (simp; done) | (simp; omega)); have f0hg := fun o => bfree hg (w.heap.size) o (by first | omega | (simp; done) | (simp; omega))) | (go_at_call 42; refine (rdAverage_any _ _).mono ?_; rintro e w' ⟨rfl, rfl⟩) | (go_at_call 63; refine (rdLengths_any _ _ _ l _ HL.out ((hra.out _).below hg) hn).mono ?_; rintro e w' ⟨rfl, rfl⟩))
    go_ret2
    exact NewIntsB.none_ rfl (by repeat (first | (with_reducible exact b0 _) | (with_reducible refine ba ?_ _) | (with_reducible refine bd ?_ _) | (with_reducible refine Below.drew ?_) | (with_reducible refine bs ?_ (by first | exact Nat.le_refl _ | exact Nat.le_add_right _ _ | omega) _) | (with_reducible refine bt ?_ (by assumption))))
  rcases h2 : isAv av with _ | _
  · have hR := Lib.hid (show (aoL lo hi we mo av l, aoOk lo hi we mo av l) = (List.nil, false) by simp [aoL, aoOk, h1, h2])
    have hR' := Lib.hid (Prod.mk.inj hR.out)
    rw [hR'.out.1, hR'.out.2]
    go_enter Try.func33, Try.ntmps33
    go_wp2_with (first | (go_at_call 41; refine (rdGood_any _ _ _ _ _).mono ?_; rintro e w1 ⟨rfl, hg⟩; have zhg := hg.size; (try simp at zhg); have c0hg := fun o => bkeep hg (w.heap.size) o (by first | omega | (simp; done) | (simp; omega)); have f0hg := fun o => bfree hg (w.heap.size) o (by first | omega | (simp; done) | (simp; omega))) | (go_at_call 42; refine (rdAverage_any _ _).mono ?_; rintro e w' ⟨rfl, rfl⟩) | (go_at_call 63; refine (rdLengths_any _ _ _ l _ HL.out ((hra.out _).below hg) hn).mono ?_; rintro e w' ⟨rfl, rfl⟩))
    go_ret2
    exact NewIntsB.none_ rfl (by repeat (first | (with_reducible exact b0 _) | (with_reducible refine ba ?_ _) | (with_reducible refine bd ?_ _) | (with_reducible refine Below.drew ?_) | (with_reducible refine bs ?_ (by first | exact Nat.le_refl _ | exact Nat.le_add_right _ _ | omega) _) | (with_reducible refine bt ?_ (by assumption))))
  rcases h3 : lenOk l with _ | _
  · have hR := Lib.hid (show (aoL lo hi we mo av l, aoOk lo hi we mo av l) = (List.nil, false) by simp [aoL, aoOk, h1, h2, h3])
    have hR' := Lib.hid (Prod.mk.inj hR.out)
    rw [hR'.out.1, hR'.out.2]
    go_enter Try.func33, Try.ntmps33
    go_wp2_with (first | (go_at_call 41; refine (rdGood_any _ _ _ _ _).mono ?_; rintro e w1 ⟨rfl, hg⟩; have zhg := hg.size; (try simp at zhg); have c0hg := fun o => bkeep hg (w.heap.size) o (by first | omega | (simp; done) | (simp; omega)); have f0hg := fun o => bfree hg (w.heap.size) o (by first | omega | (simp; done) | (simp; omega))) | (go_at_call 42; refine (rdAverage_any _ _).mono ?_; rintro e w' ⟨rfl, rfl⟩) | (go_at_call 63; refine (rdLengths_any _ _ _ l _ HL.out ((hra.out _).below hg) hn).mono ?_; rintro e w' ⟨rfl, rfl⟩))
    go_ret2
    exact NewIntsB.none_ rfl (by repeat (first | (with_reducible exact b0 _) | (with_reducible refine ba ?_ _) | (with_reducible refine bd ?_ _) | (with_reducible refine Below.drew ?_) | (with_reducible refine bs ?_ (by first | exact Nat.le_refl _ | exact Nat.le_add_right _ _ | omega) _) | (with_reducible refine bt ?_ (by assumption))))
  have hR := Lib.hid (show (aoL lo hi we mo av l, aoOk lo hi we mo av l) = (curs we av l l.length, true) by simp [aoL, aoOk, h1, h2, h3])
  have hR' := Lib.hid (Prod.mk.inj hR.out)
  rw [hR'.out.1, hR'.out.2]
  have g := good_iff.1 h1
  have g2 : 0 ≤ av ∧ av ≤ 15360 := by simpa [isAv] using h2
  have h3' := h3
  simp only [lenOk, Bool.and_eq_true, decide_eq_true_eq] at h3'
  obtain ⟨h60, hall⟩ := h3'
  rw [HL.out] at h60
  have HA := Lib.hid hall
  clear hall
  go_enter Try.func33, Try.ntmps33
  go_wp2_with (first | (go_at_call 41; refine (rdGood_any _ _ _ _ _).mono ?_; rintro e w1 ⟨rfl, hg⟩; have zhg := hg.size; (try simp at zhg); have c0hg := fun o => bkeep hg (w.heap.size) o (by first | omega | (simp; done) | (simp; omega)); have f0hg := fun o => bfree hg (w.heap.size) o (by first | omega | (simp; done) | (simp; omega))) | (go_at_call 42; refine (rdAverage_any _ _).mono ?_; rintro e w' ⟨rfl, rfl⟩) | (go_at_call 63; refine (rdLengths_any _ _ _ l _ HL.out ((hra.out _).below hg) hn).mono ?_; rintro e w' ⟨rfl, rfl⟩))
  clear c0hg f0hg
  go_loopw [1, 8, 26] (fun a v i wr => ∃ (k : Nat) (B : Option Addr) (c : Nat), k ≤ n ∧ i = .int .i64 k ∧ a = .int .i64 (cur we av l k) ∧ v = .slice B k c ∧ IOwn wr (w.alloc (.cells #[.int .i64 lo, .int .i64 hi, .int .i64 we, .int .i64 mo] 25)).heap.size wr.heap.size 3 1 B k c (curs we av l k) ∧ Below (w.alloc (.cells #[.int .i64 lo, .int .i64 hi, .int .i64 we, .int .i64 mo] 25)).heap.size (w.alloc (.cells #[.int .i64 lo, .int .i64 hi, .int .i64 we, .int .i64 mo] 25)) wr) (fun _ _ i _ => n - (intOf i).toNat)
  case atStart => exact ⟨0, none, 0, Nat.zero_le _, rfl, rfl, rfl, IOwn.none_ _ _ _ _ _, hg⟩
  case round =>
    obtain ⟨k, B, c, hk, rfl, rfl, rfl, hown, hb⟩ := hrel
    have HO := Lib.hid hown
    clear hown
    have zhb := hb.size; (try simp at zhb); have c0hb := fun o => bkeep hb (w.heap.size) o (by first | omega | (simp; done) | (simp; omega)); have f0hb := fun o => bfree hb (w.heap.size) o (by first | omega | (simp; done) | (simp; omega))
    have cb := cur_bound (we := we) (av := av) (l := l) (by omega) (by omega) (by omega) (by omega) HA.out k (by rw [HL.out]; exact hk)
    by_cases hlt : k < n
    · obtain ⟨g', off, rfl, hg', hc⟩ := ((hra.out _).below hb).at_ (k := k) (by rw [HL.out]; exact hlt)
      have hck := hc k (by rw [HL.out]; exact hlt)
      clear hc
      have hin := allIn_get HA.out (j := k) (by rw [HL.out]; exact hlt)
      have HS := Lib.hid (cur_succ (we := we) (av := av) (l := l) (k := k) (by rw [HL.out]; exact hlt))
      go_wp2_with (first | (go_at_call 44; refine (rdNext_any _ _ _ _ _ _ _ (by omega) (by omega) (by omega) (by omega) (by omega) (by omega)).mono ?_; rintro e w2 ⟨rfl, hn2⟩; have z2 := hn2.size) | (at_builtin; refine append_int rfl _ _ rfl (lo := (w.alloc (.cells #[.int .i64 lo, .int .i64 hi, .int .i64 we, .int .i64 mo] 25)).heap.size) (hh := w2.heap.size + 1) (l := curs we av l k) rfl (((HO.out.below hn2 (Nat.le_refl _)).below (ba (b0 w2) _) z2).more (by omega)) w2.heap.size (nxt we (cur we av l k) (l[k]?.getD 0)) rfl (by simp) (by omega) (by simp; omega) ?_; intro B' c' w3 ho3 hb3; rw [← HS.out, ← curs_succ] at ho3; have HO3 := Lib.hid ho3; clear ho3))
      go_roundw
      case rel => exact ⟨k + 1, B', c', by omega, by go_num, by rw [HS.out], rfl, HO3.out, (bt hb (ba hn2 _)).trans hb3⟩
      case measure => simp [intOf]; omega
    · obtain rfl : k = n := by omega
      go_wp2_with fail
      go_ret2
      refine ⟨B, k, c, rfl, ?_, bt (ba (b0 _) _) hb⟩
      rw [HL.out]
      exact HO.out.lo_le (by simp)
theorem implAverageOver_any (lo hi we mo av : Int) (A : Option Addr) (n cap : Nat) (l : List Int) (w : World) (hl : l.length = n) (hr : IRow w A l) (hn : n ≤ 9223372036854775807) :
    Calls Try.prog 34 #[.agg #[.int .i64 lo, .int .i64 hi, .int .i64 we, .int .i64 mo], .int .i64 av, .slice A n cap] w (NewIntsB w (aoL lo hi we mo av l) (aoOk lo hi we mo av l)) := by
  have HL := Lib.hid hl
  have HR := Lib.hid hr
  clear hl hr
  have hra := Lib.hid (fun (o : Obj) => HR.out.below (ba (b0 w) o))
  rcases h1 : good lo hi we mo with _ | _
  · have hR := Lib.hid (show (aoL lo hi we mo av l, aoOk lo hi we mo av l) = (List.nil, false) by simp [aoL, aoOk, h1])
    have hR' := Lib.hid (Prod.mk.inj hR.out)
    rw [hR'.out.1, hR'.out.2]
    go_enter Try.func34, Try.ntmps34
    go_wp2_with (first | (go_at_call 16; refine (implIsEarly_any _ _ _ _ _).mono ?_; rintro e w1 ⟨rfl, hg⟩; have zhg := hg.size; (try simp at zhg); have c0hg := fun o => bkeep hg (w.heap.size) o (by first | omega | (simp; done) | (simp; omega)); have f0hg := fun o => bfree hg (w.heap.size) o (by first | omega | (simp; done) | (simp; omega))) | (go_at_call 45; refine (isAverage_any _ _).mono ?_; rintro e w' ⟨rfl, rfl⟩) | (go_at_call 64; refine (areLengths_any _ _ _ l _ HL.out ((hra.out _).below hg) hn).mono ?_; rintro e w' ⟨rfl, rfl⟩))
    go_ret2
    exact NewIntsB.none_ rfl (by repeat (first | (with_reducible exact b0 _) | (with_reducible refine ba ?_ _) | (with_reducible refine bd ?_ _) | (with_reducible refine Below.drew ?_) | (with_reducible refine bs ?_ (by first | exact Nat.le_refl _ | exact Nat.le_add_right _ _ | omega) _) | (with_reducible refine bt ?_ (by assumption))))
  rcases h2 : isAv av with _ | _
  · have hR := Lib.hid (show (aoL lo hi we mo av l, aoOk lo hi we mo av l) = (List.nil, false) by simp [aoL, aoOk, h1, h2])
    have hR' := Lib.hid (Prod.mk.inj hR.out)
    rw [hR'.out.1, hR'.out.2]
    go_enter Try.func34, Try.ntmps34
    go_wp2_with (first | (go_at_call 16; refine (implIsEarly_any _ _ _ _ _).mono ?_; rintro e w1 ⟨rfl, hg⟩; have zhg := hg.size; (try simp at zhg); have c0hg := fun o => bkeep hg (w.heap.size) o (by first | omega | (simp; done) | (simp; omega)); have f0hg := fun o => bfree hg (w.heap.size) o (by first | omega | (simp; done) | (simp; omega))) | (go_at_call 45; refine (isAverage_any _ _).mono ?_; rintro e w' ⟨rfl, rfl⟩) | (go_at_call 64; refine (areLengths_any _ _ _ l _ HL.out ((hra.out _).below hg) hn).mono ?_; rintro e w' ⟨rfl, rfl⟩))
    go_ret2
    exact NewIntsB.none_ rfl (by repeat (first | (with_reducible exact b0 _) | (with_reducible refine ba ?_ _) | (with_reducible refine bd ?_ _) | (with_reducible refine Below.drew ?_) | (with_reducible refine bs ?_ (by first | exact Nat.le_refl _ | exact Nat.le_add_right _ _ | omega) _) | (with_reducible refine bt ?_ (by assumption))))
  rcases h3 : lenOk l with _ | _
  · have hR := Lib.hid (show (aoL lo hi we mo av l, aoOk lo hi we mo av l) = (List.nil, false) by simp [aoL, aoOk, h1, h2, h3])
    have hR' := Lib.hid (Prod.mk.inj hR.out)
    rw [hR'.out.1, hR'.out.2]
    go_enter Try.func34, Try.ntmps34
    go_wp2_with (first | (go_at_call 16; refine (implIsEarly_any _ _ _ _ _).mono ?_; rintro e w1 ⟨rfl, hg⟩; have zhg := hg.size; (try simp at zhg); have c0hg := fun o => bkeep hg (w.heap.size) o (by first | omega | (simp; done) | (simp; omega)); have f0hg := fun o => bfree hg (w.heap.size) o (by first | omega | (simp; done) | (simp; omega))) | (go_at_call 45; refine (isAverage_any _ _).mono ?_; rintro e w' ⟨rfl, rfl⟩) | (go_at_call 64; refine (areLengths_any _ _ _ l _ HL.out ((hra.out _).below hg) hn).mono ?_; rintro e w' ⟨rfl, rfl⟩))
    go_ret2
    exact NewIntsB.none_ rfl (by repeat (first | (with_reducible exact b0 _) | (with_reducible refine ba ?_ _) | (with_reducible refine bd ?_ _) | (with_reducible refine Below.drew ?_) | (with_reducible refine bs ?_ (by first | exact Nat.le_refl _ | exact Nat.le_add_right _ _ | omega) _) | (with_reducible refine bt ?_ (by assumption))))
  have hR := Lib.hid (show (aoL lo hi we mo av l, aoOk lo hi we mo av l) = (curs we av l l.length, true) by simp [aoL, aoOk, h1, h2, h3])
  have hR' := Lib.hid (Prod.mk.inj hR.out)
  rw [hR'.out.1, hR'.out.2]
  have g := good_iff.1 h1
  have g2 : 0 ≤ av ∧ av ≤ 15360 := by simpa [isAv] using h2
  have h3' := h3
  simp only [lenOk, Bool.and_eq_true, decide_eq_true_eq] at h3'
  obtain ⟨h60, hall⟩ := h3'
  rw [HL.out] at h60
  have HA := Lib.hid hall
  clear hall
  go_enter Try.func34, Try.ntmps34
  go_wp2_with (first | (go_at_call 16; refine (implIsEarly_any _ _ _ _ _).mono ?_; rintro e w1 ⟨rfl, hg⟩; have zhg := hg.size; (try simp at zhg); have c0hg := fun o => bkeep hg (w.heap.size) o (by first | omega | (simp; done) | (simp; omega)); have f0hg := fun o => bfree hg (w.heap.size) o (by first | omega | (simp; done) | (simp; omega))) | (go_at_call 45; refine (isAverage_any _ _).mono ?_; rintro e w' ⟨rfl, rfl⟩) | (go_at_call 64; refine (areLengths_any _ _ _ l _ HL.out ((hra.out _).below hg) hn).mono ?_; rintro e w' ⟨rfl, rfl⟩))
  clear c0hg f0hg
  go_loopw [1, 8, 27] (fun a v i wr => ∃ (k : Nat) (B : Option Addr) (c : Nat), k ≤ n ∧ i = .int .i64 k ∧ a = .int .i64 (cur we av l k) ∧ v = .slice B k c ∧ IOwn wr (w.alloc (.cells #[.int .i64 lo, .int .i64 hi, .int .i64 we, .int .i64 mo] 25)).heap.size wr.heap.size 3 1 B k c (curs we av l k) ∧ Below (w.alloc (.cells #[.int .i64 lo, .int .i64 hi, .int .i64 we, .int .i64 mo] 25)).heap.size (w.alloc (.cells #[.int .i64 lo, .int .i64 hi, .int .i64 we, .int .i64 mo] 25)) wr) (fun _ _ i _ => n - (intOf i).toNat)
  case atStart => exact ⟨0, _, 0, Nat.zero_le _, rfl, rfl, rfl, (IOwn.lit0 w1 _ 3 1 hg.size).here, hg.alloc hg.size _⟩
  case round =>
    obtain ⟨k, B, c, hk, rfl, rfl, rfl, hown, hb⟩ := hrel
    have HO := Lib.hid hown
    clear hown
    have zhb := hb.size; (try simp at zhb); have c0hb := fun o => bkeep hb (w.heap.size) o (by first | omega | (simp; done) | (simp; omega)); have f0hb := fun o => bfree hb (w.heap.size) o (by first | omega | (simp; done) | (simp; omega))
    have cb := cur_bound (we := we) (av := av) (l := l) (by omega) (by omega) (by omega) (by omega) HA.out k (by rw [HL.out]; exact hk)
    by_cases hlt : k < n
    · obtain ⟨g', off, rfl, hg', hc⟩ := ((hra.out _).below hb).at_ (k := k) (by rw [HL.out]; exact hlt)
      have hck := hc k (by rw [HL.out]; exact hlt)
      clear hc
      have hin := allIn_get HA.out (j := k) (by rw [HL.out]; exact hlt)
      have HS := Lib.hid (cur_succ (we := we) (av := av) (l := l) (k := k) (by rw [HL.out]; exact hlt))
      go_wp2_with (first | (go_at_call 47; refine (nextAverage_any _ _ _ _ _ _ _ (by omega) (by omega) (by omega) (by omega) (by omega) (by omega)).mono ?_; rintro e w2 ⟨rfl, hn2⟩; have z2 := hn2.size) | (at_builtin; refine append_int rfl _ _ rfl (lo := (w.alloc (.cells #[.int .i64 lo, .int .i64 hi, .int .i64 we, .int .i64 mo] 25)).heap.size) (hh := w2.heap.size + 1) (l := curs we av l k) rfl (((HO.out.below hn2 (Nat.le_refl _)).below (ba (b0 w2) _) z2).more (by omega)) w2.heap.size (nxt we (cur we av l k) (l[k]?.getD 0)) rfl (by simp) (by omega) (by simp; omega) ?_; intro B' c' w3 ho3 hb3; rw [← HS.out, ← curs_succ] at ho3; have HO3 := Lib.hid ho3; clear ho3))
      go_roundw
      case rel => exact ⟨k + 1, B', c', by omega, by go_num, by rw [HS.out], rfl, HO3.out, (bt hb (ba hn2 _)).trans hb3⟩
      case measure => simp [intOf]; omega
    · obtain rfl : k = n := by omega
      go_wp2_with fail
      go_ret2
      refine ⟨B, k, c, rfl, ?_, bt (ba (b0 _) _) hb⟩
      rw [HL.out]
      exact HO.out.lo_le (by simp)
end Go.Proofs.Ytpgddjnjojkllaa
