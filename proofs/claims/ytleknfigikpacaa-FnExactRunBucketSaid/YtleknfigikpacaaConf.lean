/- The contracts of Conforms, RunBucket and LeastCap. -/
import Derived.Test.YtleknfigikpacaaRun
namespace Go.Proofs.Ytleknfigikpacaa
open Go.ChangeShapes Go.WideShapes Go.ChangeAt Go.RowKit
set_option linter.unusedVariables false
set_option maxHeartbeats 1000000 in
theorem buRunAll_any (r c t : Int) (A : Option Addr) (n cap : Nat) (l : List Int) (w : World) (hl : l.length = n * 2) (hr : IRow w A l) (hn : n ≤ 60) (hs : Ses l n) (h1 : 0 ≤ r) (h2 : r ≤ 100000) (h3 : 0 ≤ t) (h4 : t ≤ c) (h5 : c ≤ 1000000) :
    Calls Try.prog 65 #[.agg #[.int .i64 r, .int .i64 c, .int .i64 t], .slice A n cap] w fun e w' => e = .returned (.bool (conf r c t l n)) ∧ Below w.heap.size w w' := by
  have HL := Lib.hid hl
  have HR := Lib.hid (fun (o : Obj) => hr.below (ba (b0 w) o))
  have HS := Lib.hid hs
  clear hl hr hs
  go_enter Try.func65, Try.ntmps65
  go_wp2_with fail
  refine (buRun_any _ _ _ _ _ _ l _ HL.out (HR.out _) hn HS.out h1 h2 h3 h4 h5).mono ?_
  rintro e w1 ⟨B, cp, rfl, ho, hb⟩
  have z1 := hb.size
  simp at z1
  have HO := Lib.hid (ho.alloc (.cells #[.int .i64 r, .int .i64 c, .int .i64 (tkn r c t l n)] 25)).row
  have HM := Lib.hid (snts_len r c t l n)
  have HB := Lib.hid (ba (bt (ba (b0 w) _) hb) (.cells #[.int .i64 r, .int .i64 c, .int .i64 (tkn r c t l n)] 25))
  clear ho hb
  generalize tkn r c t l n = t9 at *
  go_wp2_with fail
  generalize (w1.alloc _) = w2 at *
  go_loop [17] (fun i => ∃ k : Nat, k ≤ n ∧ i = .int .i64 k ∧ allS r c t l k) (fun i => n - (intOf i).toNat)
  case atStart => exact ⟨0, Nat.zero_le _, rfl, fun i hi => by omega⟩
  case round =>
    obtain ⟨k, hk, rfl, hall⟩ := hrel
    have HA := Lib.hid hall
    clear hall
    by_cases hlt : k < n
    · obtain ⟨g, off, rfl, hg, hc⟩ := HO.out.at_ (k := k) (by rw [HM.out]; exact hlt)
      have hck := hc k (by rw [HM.out]; exact hlt)
      rw [snts_get hlt] at hck
      clear hc
      rcases hsn : snt r c t l k with _ | _
      · rw [hsn] at hck
        have hR := Lib.hid (conf_false hlt hsn)
        clear hsn
        go_wp2_with fail
        go_ret
        exact ⟨by rw [hR.out]; rfl, HB.out⟩
      · rw [hsn] at hck
        have hR := Lib.hid (allS_succ HA.out hsn)
        clear hsn
        go_wp2_with fail
        go_round
        case rel => exact ⟨k + 1, by omega, by go_num, hR.out⟩
        case measure => simp [intOf]; omega
    · obtain rfl : k = n := by omega
      have hR := Lib.hid (conf_true HA.out)
      go_wp2_with fail
      go_ret
      exact ⟨by rw [hR.out]; rfl, HB.out⟩
set_option maxHeartbeats 1000000 in
theorem runSendsAll_any (r c t : Int) (A : Option Addr) (n cap : Nat) (l : List Int) (w : World) (hl : l.length = n * 2) (hr : IRow w A l) (hn : n ≤ 60) (hs : Ses l n) (h1 : 0 ≤ r) (h2 : r ≤ 100000) (h3 : 0 ≤ t) (h4 : t ≤ c) (h5 : c ≤ 1000000) :
    Calls Try.prog 64 #[.agg #[.int .i64 r, .int .i64 c, .int .i64 t], .slice A n cap] w fun e w' => e = .returned (.bool (conf r c t l n)) ∧ Below w.heap.size w w' := by
  have HL := Lib.hid hl
  have HR := Lib.hid (fun (o : Obj) => hr.below (ba (b0 w) o))
  have HS := Lib.hid hs
  clear hl hr hs
  go_enter Try.func64, Try.ntmps64
  go_wp2_with fail
  refine (runSends_any _ _ _ _ _ _ l _ HL.out (HR.out _) hn HS.out h1 h2 h3 h4 h5).mono ?_
  rintro e w1 ⟨B, cp, rfl, ho, hb⟩
  have z1 := hb.size
  simp at z1
  have HO := Lib.hid (ho.alloc (.cells #[.int .i64 r, .int .i64 c, .int .i64 (tkn r c t l n)] 25)).row
  have HM := Lib.hid (snts_len r c t l n)
  have HB := Lib.hid (ba (bt (ba (b0 w) _) hb) (.cells #[.int .i64 r, .int .i64 c, .int .i64 (tkn r c t l n)] 25))
  clear ho hb
  generalize tkn r c t l n = t9 at *
  go_wp2_with fail
  generalize (w1.alloc _) = w2 at *
  go_loop [17] (fun i => ∃ k : Nat, k ≤ n ∧ i = .int .i64 k ∧ allS r c t l k) (fun i => n - (intOf i).toNat)
  case atStart => exact ⟨0, Nat.zero_le _, rfl, fun i hi => by omega⟩
  case round =>
    obtain ⟨k, hk, rfl, hall⟩ := hrel
    have HA := Lib.hid hall
    clear hall
    by_cases hlt : k < n
    · obtain ⟨g, off, rfl, hg, hc⟩ := HO.out.at_ (k := k) (by rw [HM.out]; exact hlt)
      have hck := hc k (by rw [HM.out]; exact hlt)
      rw [snts_get hlt] at hck
      clear hc
      rcases hsn : snt r c t l k with _ | _
      · rw [hsn] at hck
        have hR := Lib.hid (conf_false hlt hsn)
        clear hsn
        go_wp2_with fail
        go_ret
        exact ⟨by rw [hR.out]; rfl, HB.out⟩
      · rw [hsn] at hck
        have hR := Lib.hid (allS_succ HA.out hsn)
        clear hsn
        go_wp2_with fail
        go_round
        case rel => exact ⟨k + 1, by omega, by go_num, hR.out⟩
        case measure => simp [intOf]; omega
    · obtain rfl : k = n := by omega
      have hR := Lib.hid (conf_true HA.out)
      go_wp2_with fail
      go_ret
      exact ⟨by rw [hR.out]; rfl, HB.out⟩
/-! ### Conforms -/
noncomputable def rbok (r c t : Int) (l : List Int) (n : Nat) : Bool := bok r c t && sesB l n
noncomputable def cnR (r c t : Int) (l : List Int) (n : Nat) : Bool := rbok r c t l n && conf r c t l n
set_option maxHeartbeats 1000000 in
theorem specConforms_any (r c t : Int) (A : Option Addr) (n cap : Nat) (l : List Int) (w : World) (hl : l.length = n * 2) (hr : IRow w A l) (hn : n ≤ 1099511627776) :
    Calls Try.prog 37 #[.agg #[.int .i64 r, .int .i64 c, .int .i64 t], .slice A n cap] w fun e w' => e = .returned (.tuple #[.bool (cnR r c t l n), .bool (rbok r c t l n)]) ∧ Below w.heap.size w w' := by
  have HL := Lib.hid hl
  have HR := Lib.hid (fun (o : Obj) => hr.below (ba (b0 w) o))
  clear hl hr
  rcases hb0 : bok r c t with _ | _
  · have hR := Lib.hid (show rbok r c t l n = false by simp [rbok, hb0])
    have hR2 := Lib.hid (show cnR r c t l n = false by simp [cnR, rbok, hb0])
    go_enter Try.func37, Try.ntmps37
    go_wp2_with (go_at_call 45; refine (buGood_any _ _ _ _).mono ?_; rw [hb0]; rintro e w1 ⟨rfl, hg⟩; have zhg := hg.size; (try simp at zhg); have c0hg := fun o => bkeep hg (w.heap.size) o (by first | omega | (simp; done) | (simp; omega)); have f0hg := fun o => bfree hg (w.heap.size) o (by first | omega | (simp; done) | (simp; omega)))
    go_ret2
    exact ⟨by rw [hR.out, hR2.out]; rfl, (by repeat (first | (with_reducible exact b0 _) | (with_reducible refine ba ?_ _) | (with_reducible refine bd ?_ _) | (with_reducible refine Below.drew ?_) | (with_reducible refine bs ?_ (by first | exact Nat.le_refl _ | exact Nat.le_add_right _ _ | omega) _) | (with_reducible refine bt ?_ (by assumption))))⟩
  rcases hs0 : sesB l n with _ | _
  · have hR := Lib.hid (show rbok r c t l n = false by simp [rbok, hs0])
    have hR2 := Lib.hid (show cnR r c t l n = false by simp [cnR, rbok, hs0])
    go_enter Try.func37, Try.ntmps37
    go_wp2_with (first | (go_at_call 45; refine (buGood_any _ _ _ _).mono ?_; rw [hb0]; rintro e w1 ⟨rfl, hg⟩; have zhg := hg.size; (try simp at zhg); have c0hg := fun o => bkeep hg (w.heap.size) o (by first | omega | (simp; done) | (simp; omega)); have f0hg := fun o => bfree hg (w.heap.size) o (by first | omega | (simp; done) | (simp; omega))) | (go_at_call 56; refine (buSends_any _ _ _ l _ HL.out ((HR.out _).below hg) hn).mono ?_; rw [hs0]; rintro e w2 ⟨rfl, hg2⟩; have zhg2 := hg2.size; (try simp at zhg2); have c0hg2 := fun o => bkeep hg2 (w.heap.size) o (by first | omega | (simp; done) | (simp; omega)); have f0hg2 := fun o => bfree hg2 (w.heap.size) o (by first | omega | (simp; done) | (simp; omega))))
    go_ret2
    exact ⟨by rw [hR.out, hR2.out]; rfl, (by repeat (first | (with_reducible exact b0 _) | (with_reducible refine ba ?_ _) | (with_reducible refine bd ?_ _) | (with_reducible refine Below.drew ?_) | (with_reducible refine bs ?_ (by first | exact Nat.le_refl _ | exact Nat.le_add_right _ _ | omega) _) | (with_reducible refine bt ?_ (by assumption))))⟩
  · have hR := Lib.hid (show rbok r c t l n = true by simp [rbok, hs0, hb0])
    have hR2 := Lib.hid (show cnR r c t l n = conf r c t l n by simp [cnR, rbok, hs0, hb0])
    have hx := Lib.hid (sesB_iff.1 hs0)
    have g := bok_iff.1 hb0
    go_enter Try.func37, Try.ntmps37
    go_wp2_with (first | (go_at_call 45; refine (buGood_any _ _ _ _).mono ?_; rw [hb0]; rintro e w1 ⟨rfl, hg⟩; have zhg := hg.size; (try simp at zhg); have c0hg := fun o => bkeep hg (w.heap.size) o (by first | omega | (simp; done) | (simp; omega)); have f0hg := fun o => bfree hg (w.heap.size) o (by first | omega | (simp; done) | (simp; omega))) | (go_at_call 56; refine (buSends_any _ _ _ l _ HL.out ((HR.out _).below hg) hn).mono ?_; rw [hs0]; rintro e w2 ⟨rfl, hg2⟩; have zhg2 := hg2.size; (try simp at zhg2); have c0hg2 := fun o => bkeep hg2 (w.heap.size) o (by first | omega | (simp; done) | (simp; omega)); have f0hg2 := fun o => bfree hg2 (w.heap.size) o (by first | omega | (simp; done) | (simp; omega))) | (go_at_call 65; refine (buRunAll_any _ _ _ _ _ _ l _ HL.out (((HR.out _).below hg).below hg2) hx.out.1 hx.out.2 (by omega) (by omega) (by omega) (by omega) (by omega)).mono ?_; rintro e w3 ⟨rfl, hg3⟩))
    go_ret2
    exact ⟨by rw [hR.out, hR2.out]; rfl, (by repeat (first | (with_reducible exact b0 _) | (with_reducible refine ba ?_ _) | (with_reducible refine bd ?_ _) | (with_reducible refine Below.drew ?_) | (with_reducible refine bs ?_ (by first | exact Nat.le_refl _ | exact Nat.le_add_right _ _ | omega) _) | (with_reducible refine bt ?_ (by assumption))))⟩
set_option maxHeartbeats 1000000 in
theorem implConforms_any (r c t : Int) (A : Option Addr) (n cap : Nat) (l : List Int) (w : World) (hl : l.length = n * 2) (hr : IRow w A l) (hn : n ≤ 1099511627776) :
    Calls Try.prog 38 #[.agg #[.int .i64 r, .int .i64 c, .int .i64 t], .slice A n cap] w fun e w' => e = .returned (.tuple #[.bool (cnR r c t l n), .bool (rbok r c t l n)]) ∧ Below w.heap.size w w' := by
  have HL := Lib.hid hl
  have HR := Lib.hid (fun (o : Obj) => hr.below (ba (b0 w) o))
  clear hl hr
  rcases hb0 : bok r c t with _ | _
  · have hR := Lib.hid (show rbok r c t l n = false by simp [rbok, hb0])
    have hR2 := Lib.hid (show cnR r c t l n = false by simp [cnR, rbok, hb0])
    go_enter Try.func38, Try.ntmps38
    go_wp2_with (go_at_call 16; refine (implIsBucket_any _ _ _ _).mono ?_; rw [hb0]; rintro e w1 ⟨rfl, hg⟩; have zhg := hg.size; (try simp at zhg); have c0hg := fun o => bkeep hg (w.heap.size) o (by first | omega | (simp; done) | (simp; omega)); have f0hg := fun o => bfree hg (w.heap.size) o (by first | omega | (simp; done) | (simp; omega)))
    go_ret2
    exact ⟨by rw [hR.out, hR2.out]; rfl, (by repeat (first | (with_reducible exact b0 _) | (with_reducible refine ba ?_ _) | (with_reducible refine bd ?_ _) | (with_reducible refine Below.drew ?_) | (with_reducible refine bs ?_ (by first | exact Nat.le_refl _ | exact Nat.le_add_right _ _ | omega) _) | (with_reducible refine bt ?_ (by assumption))))⟩
  rcases hs0 : sesB l n with _ | _
  · have hR := Lib.hid (show rbok r c t l n = false by simp [rbok, hs0])
    have hR2 := Lib.hid (show cnR r c t l n = false by simp [cnR, rbok, hs0])
    go_enter Try.func38, Try.ntmps38
    go_wp2_with (first | (go_at_call 16; refine (implIsBucket_any _ _ _ _).mono ?_; rw [hb0]; rintro e w1 ⟨rfl, hg⟩; have zhg := hg.size; (try simp at zhg); have c0hg := fun o => bkeep hg (w.heap.size) o (by first | omega | (simp; done) | (simp; omega)); have f0hg := fun o => bfree hg (w.heap.size) o (by first | omega | (simp; done) | (simp; omega))) | (go_at_call 59; refine (areSends_any _ _ _ l _ HL.out ((HR.out _).below hg) hn).mono ?_; rw [hs0]; rintro e w2 ⟨rfl, hg2⟩; have zhg2 := hg2.size; (try simp at zhg2); have c0hg2 := fun o => bkeep hg2 (w.heap.size) o (by first | omega | (simp; done) | (simp; omega)); have f0hg2 := fun o => bfree hg2 (w.heap.size) o (by first | omega | (simp; done) | (simp; omega))))
    go_ret2
    exact ⟨by rw [hR.out, hR2.out]; rfl, (by repeat (first | (with_reducible exact b0 _) | (with_reducible refine ba ?_ _) | (with_reducible refine bd ?_ _) | (with_reducible refine Below.drew ?_) | (with_reducible refine bs ?_ (by first | exact Nat.le_refl _ | exact Nat.le_add_right _ _ | omega) _) | (with_reducible refine bt ?_ (by assumption))))⟩
  · have hR := Lib.hid (show rbok r c t l n = true by simp [rbok, hs0, hb0])
    have hR2 := Lib.hid (show cnR r c t l n = conf r c t l n by simp [cnR, rbok, hs0, hb0])
    have hx := Lib.hid (sesB_iff.1 hs0)
    have g := bok_iff.1 hb0
    go_enter Try.func38, Try.ntmps38
    go_wp2_with (first | (go_at_call 16; refine (implIsBucket_any _ _ _ _).mono ?_; rw [hb0]; rintro e w1 ⟨rfl, hg⟩; have zhg := hg.size; (try simp at zhg); have c0hg := fun o => bkeep hg (w.heap.size) o (by first | omega | (simp; done) | (simp; omega)); have f0hg := fun o => bfree hg (w.heap.size) o (by first | omega | (simp; done) | (simp; omega))) | (go_at_call 59; refine (areSends_any _ _ _ l _ HL.out ((HR.out _).below hg) hn).mono ?_; rw [hs0]; rintro e w2 ⟨rfl, hg2⟩; have zhg2 := hg2.size; (try simp at zhg2); have c0hg2 := fun o => bkeep hg2 (w.heap.size) o (by first | omega | (simp; done) | (simp; omega)); have f0hg2 := fun o => bfree hg2 (w.heap.size) o (by first | omega | (simp; done) | (simp; omega))) | (go_at_call 64; refine (runSendsAll_any _ _ _ _ _ _ l _ HL.out (((HR.out _).below hg).below hg2) hx.out.1 hx.out.2 (by omega) (by omega) (by omega) (by omega) (by omega)).mono ?_; rintro e w3 ⟨rfl, hg3⟩))
    go_ret2
    exact ⟨by rw [hR.out, hR2.out]; rfl, (by repeat (first | (with_reducible exact b0 _) | (with_reducible refine ba ?_ _) | (with_reducible refine bd ?_ _) | (with_reducible refine Below.drew ?_) | (with_reducible refine bs ?_ (by first | exact Nat.le_refl _ | exact Nat.le_add_right _ _ | omega) _) | (with_reducible refine bt ?_ (by assumption))))⟩
/-! ### RunBucket -/
def rbx (ok : Bool) (x : Int) : Int := if ok then x else 0
def rbn (ok : Bool) (n : Nat) : Nat := if ok then n else 0
def rbl (ok : Bool) (l : List Bool) : List Bool := if ok then l else []
def NewRunB (w : World) (r c t : Int) (n : Nat) (l : List Bool) (b : Bool) (e : Ending) (w' : World) : Prop :=
  ∃ A cap, e = .returned (.tuple #[.agg #[.int .i64 r, .int .i64 c, .int .i64 t], .slice A n cap, .bool b]) ∧ BOwn w' w.heap.size w'.heap.size 4 1 A n cap l ∧ Below w.heap.size w w'
noncomputable def NewRB (w : World) (r c t : Int) (l : List Int) (n : Nat) : Ending → World → Prop := NewRunB w (rbx (rbok r c t l n) r) (rbx (rbok r c t l n) c) (rbx (rbok r c t l n) (tkn r c t l n)) (rbn (rbok r c t l n) n) (rbl (rbok r c t l n) (snts r c t l n)) (rbok r c t l n)
theorem NewRB_no {w : World} {r c t : Int} {l : List Int} {n : Nat} (h : rbok r c t l n = false) : NewRB w r c t l n = NewRunB w 0 0 0 0 [] false := by simp [NewRB, h, rbx, rbn, rbl]
theorem NewRB_yes {w : World} {r c t : Int} {l : List Int} {n : Nat} (h : rbok r c t l n = true) : NewRB w r c t l n = NewRunB w r c (tkn r c t l n) n (snts r c t l n) true := by simp [NewRB, h, rbx, rbn, rbl]
set_option maxHeartbeats 1000000 in
theorem specRunBucket_any (r c t : Int) (A : Option Addr) (n cap : Nat) (l : List Int) (w : World) (hl : l.length = n * 2) (hr : IRow w A l) (hn : n ≤ 1099511627776) :
    Calls Try.prog 39 #[.agg #[.int .i64 r, .int .i64 c, .int .i64 t], .slice A n cap] w (NewRB w r c t l n) := by
  have HL := Lib.hid hl
  have HR2 := Lib.hid (fun (o p : Obj) => hr.below (ba (ba (b0 w) o) p))
  clear hl hr
  rcases hb0 : bok r c t with _ | _
  · rw [NewRB_no (show rbok r c t l n = false by simp [rbok, hb0])]
    go_enter Try.func39, Try.ntmps39
    go_wp2_with (go_at_call 45; refine (buGood_any _ _ _ _).mono ?_; rw [hb0]; rintro e w1 ⟨rfl, hg⟩; have zhg := hg.size; (try simp at zhg); have c0hg := fun o => bkeep hg (w.heap.size) o (by first | omega | (simp; done) | (simp; omega)); have f0hg := fun o => bfree hg (w.heap.size) o (by first | omega | (simp; done) | (simp; omega)); have c1hg := fun o => bkeep hg (w.heap.size + 1) o (by first | omega | (simp; done) | (simp; omega)); have f1hg := fun o => bfree hg (w.heap.size + 1) o (by first | omega | (simp; done) | (simp; omega)))
    exact bodyPost_ret (v := .tuple #[.agg #[.int .i64 0, .int .i64 0, .int .i64 0], .slice none 0 0, .bool false]) (by simp [results, Try.results39, go_sem, c1hg]) rfl ⟨none, 0, rfl, BOwn.none_ _ _ _ _ _, (by repeat (first | (with_reducible exact b0 _) | (with_reducible refine ba ?_ _) | (with_reducible refine bd ?_ _) | (with_reducible refine Below.drew ?_) | (with_reducible refine bs ?_ (by first | exact Nat.le_refl _ | exact Nat.le_add_right _ _ | omega) _) | (with_reducible refine bt ?_ (by assumption))))⟩
  rcases hs0 : sesB l n with _ | _
  · rw [NewRB_no (show rbok r c t l n = false by simp [rbok, hs0])]
    go_enter Try.func39, Try.ntmps39
    go_wp2_with (first | (go_at_call 45; refine (buGood_any _ _ _ _).mono ?_; rw [hb0]; rintro e w1 ⟨rfl, hg⟩; have zhg := hg.size; (try simp at zhg); have c0hg := fun o => bkeep hg (w.heap.size) o (by first | omega | (simp; done) | (simp; omega)); have f0hg := fun o => bfree hg (w.heap.size) o (by first | omega | (simp; done) | (simp; omega)); have c1hg := fun o => bkeep hg (w.heap.size + 1) o (by first | omega | (simp; done) | (simp; omega)); have f1hg := fun o => bfree hg (w.heap.size + 1) o (by first | omega | (simp; done) | (simp; omega))) | (go_at_call 56; refine (buSends_any _ _ _ l _ HL.out ((HR2.out _ _).below hg) hn).mono ?_; rw [hs0]; rintro e w2 ⟨rfl, hg2⟩; have zhg2 := hg2.size; (try simp at zhg2); have c0hg2 := fun o => bkeep hg2 (w.heap.size) o (by first | omega | (simp; done) | (simp; omega)); have f0hg2 := fun o => bfree hg2 (w.heap.size) o (by first | omega | (simp; done) | (simp; omega)); have c1hg2 := fun o => bkeep hg2 (w.heap.size + 1) o (by first | omega | (simp; done) | (simp; omega)); have f1hg2 := fun o => bfree hg2 (w.heap.size + 1) o (by first | omega | (simp; done) | (simp; omega))))
    exact bodyPost_ret (v := .tuple #[.agg #[.int .i64 0, .int .i64 0, .int .i64 0], .slice none 0 0, .bool false]) (by simp [results, Try.results39, go_sem, c1hg, c1hg2]) rfl ⟨none, 0, rfl, BOwn.none_ _ _ _ _ _, (by repeat (first | (with_reducible exact b0 _) | (with_reducible refine ba ?_ _) | (with_reducible refine bd ?_ _) | (with_reducible refine Below.drew ?_) | (with_reducible refine bs ?_ (by first | exact Nat.le_refl _ | exact Nat.le_add_right _ _ | omega) _) | (with_reducible refine bt ?_ (by assumption))))⟩
  · rw [NewRB_yes (show rbok r c t l n = true by simp [rbok, hs0, hb0])]
    have hx := Lib.hid (sesB_iff.1 hs0)
    have g := bok_iff.1 hb0
    go_enter Try.func39, Try.ntmps39
    go_wp2_with (first | (go_at_call 45; refine (buGood_any _ _ _ _).mono ?_; rw [hb0]; rintro e w1 ⟨rfl, hg⟩; have zhg := hg.size; (try simp at zhg); have c0hg := fun o => bkeep hg (w.heap.size) o (by first | omega | (simp; done) | (simp; omega)); have f0hg := fun o => bfree hg (w.heap.size) o (by first | omega | (simp; done) | (simp; omega)); have c1hg := fun o => bkeep hg (w.heap.size + 1) o (by first | omega | (simp; done) | (simp; omega)); have f1hg := fun o => bfree hg (w.heap.size + 1) o (by first | omega | (simp; done) | (simp; omega))) | (go_at_call 56; refine (buSends_any _ _ _ l _ HL.out ((HR2.out _ _).below hg) hn).mono ?_; rw [hs0]; rintro e w2 ⟨rfl, hg2⟩; have zhg2 := hg2.size; (try simp at zhg2); have c0hg2 := fun o => bkeep hg2 (w.heap.size) o (by first | omega | (simp; done) | (simp; omega)); have f0hg2 := fun o => bfree hg2 (w.heap.size) o (by first | omega | (simp; done) | (simp; omega)); have c1hg2 := fun o => bkeep hg2 (w.heap.size + 1) o (by first | omega | (simp; done) | (simp; omega)); have f1hg2 := fun o => bfree hg2 (w.heap.size + 1) o (by first | omega | (simp; done) | (simp; omega))))
    refine (buRun_any _ _ _ _ _ _ l _ HL.out (((HR2.out _ _).below hg).below hg2) hx.out.1 hx.out.2 (by omega) (by omega) (by omega) (by omega) (by omega)).mono ?_
    rintro e w3 ⟨B, cp, rfl, ho, hg3⟩
    have b1 : Bk w3 (w.heap.size + 1) 25 #[.int .i64 0, .int .i64 0, .int .i64 0] := ((Bk.new_ (by simp)).old hg).old hg2 |>.old hg3
    have zl := b1.lt
    have l0 := b1.cell 0
    have l1 := b1.cell 1
    have l2 := b1.cell 2
    simp at l0 l1 l2
    have lf := b1.free
    have HG := Lib.hid (bt (bt (bt (ba (ba (b0 w) _) _) hg) hg2) hg3)
    have HO := Lib.hid (ho.lo_le (lo' := w.heap.size + 2) (by omega))
    clear ho b1 c0hg c1hg f0hg f1hg c0hg2 c1hg2 f0hg2 f1hg2 hg hg2 hg3
    generalize tkn r c t l n = t9 at *
    go_wp2_with fail
    refine bodyPost_ret (v := .tuple #[.agg #[.int .i64 r, .int .i64 c, .int .i64 t9], .slice B n cp, .bool true]) (by simp [results, Try.results39, go_sem, l0, l1, l2, zl]) rfl ⟨B, cp, rfl, ?_, ?_⟩
    · have h3 := HO.out
      have hlo : w.heap.size + 1 < w3.heap.size := zl
      exact ((((h3.far (.inl (show w.heap.size + 1 < w.heap.size + 2 by omega)) _).far (.inl (show w.heap.size + 1 < w.heap.size + 2 by omega)) _).far (.inl (show w.heap.size + 1 < w.heap.size + 2 by omega)) _).alloc _).lo_le (by omega) |>.here
    · exact ba (bs (bs (bs HG.out (Nat.le_add_right _ _) _) (Nat.le_add_right _ _) _) (Nat.le_add_right _ _) _) _
set_option maxHeartbeats 1000000 in
theorem implRunBucket_any (r c t : Int) (A : Option Addr) (n cap : Nat) (l : List Int) (w : World) (hl : l.length = n * 2) (hr : IRow w A l) (hn : n ≤ 1099511627776) :
    Calls Try.prog 40 #[.agg #[.int .i64 r, .int .i64 c, .int .i64 t], .slice A n cap] w (NewRB w r c t l n) := by
  have HL := Lib.hid hl
  have HR2 := Lib.hid (fun (o p : Obj) => hr.below (ba (ba (b0 w) o) p))
  clear hl hr
  rcases hb0 : bok r c t with _ | _
  · rw [NewRB_no (show rbok r c t l n = false by simp [rbok, hb0])]
    go_enter Try.func40, Try.ntmps40
    go_wp2_with (go_at_call 16; refine (implIsBucket_any _ _ _ _).mono ?_; rw [hb0]; rintro e w1 ⟨rfl, hg⟩; have zhg := hg.size; (try simp at zhg); have c0hg := fun o => bkeep hg (w.heap.size) o (by first | omega | (simp; done) | (simp; omega)); have f0hg := fun o => bfree hg (w.heap.size) o (by first | omega | (simp; done) | (simp; omega)); have c1hg := fun o => bkeep hg (w.heap.size + 1) o (by first | omega | (simp; done) | (simp; omega)); have f1hg := fun o => bfree hg (w.heap.size + 1) o (by first | omega | (simp; done) | (simp; omega)))
    exact bodyPost_ret (v := .tuple #[.agg #[.int .i64 0, .int .i64 0, .int .i64 0], .slice none 0 0, .bool false]) (by simp [results, Try.results40, go_sem, c1hg]) rfl ⟨none, 0, rfl, BOwn.none_ _ _ _ _ _, (by repeat (first | (with_reducible exact b0 _) | (with_reducible refine ba ?_ _) | (with_reducible refine bd ?_ _) | (with_reducible refine Below.drew ?_) | (with_reducible refine bs ?_ (by first | exact Nat.le_refl _ | exact Nat.le_add_right _ _ | omega) _) | (with_reducible refine bt ?_ (by assumption))))⟩
  rcases hs0 : sesB l n with _ | _
  · rw [NewRB_no (show rbok r c t l n = false by simp [rbok, hs0])]
    go_enter Try.func40, Try.ntmps40
    go_wp2_with (first | (go_at_call 16; refine (implIsBucket_any _ _ _ _).mono ?_; rw [hb0]; rintro e w1 ⟨rfl, hg⟩; have zhg := hg.size; (try simp at zhg); have c0hg := fun o => bkeep hg (w.heap.size) o (by first | omega | (simp; done) | (simp; omega)); have f0hg := fun o => bfree hg (w.heap.size) o (by first | omega | (simp; done) | (simp; omega)); have c1hg := fun o => bkeep hg (w.heap.size + 1) o (by first | omega | (simp; done) | (simp; omega)); have f1hg := fun o => bfree hg (w.heap.size + 1) o (by first | omega | (simp; done) | (simp; omega))) | (go_at_call 59; refine (areSends_any _ _ _ l _ HL.out ((HR2.out _ _).below hg) hn).mono ?_; rw [hs0]; rintro e w2 ⟨rfl, hg2⟩; have zhg2 := hg2.size; (try simp at zhg2); have c0hg2 := fun o => bkeep hg2 (w.heap.size) o (by first | omega | (simp; done) | (simp; omega)); have f0hg2 := fun o => bfree hg2 (w.heap.size) o (by first | omega | (simp; done) | (simp; omega)); have c1hg2 := fun o => bkeep hg2 (w.heap.size + 1) o (by first | omega | (simp; done) | (simp; omega)); have f1hg2 := fun o => bfree hg2 (w.heap.size + 1) o (by first | omega | (simp; done) | (simp; omega))))
    exact bodyPost_ret (v := .tuple #[.agg #[.int .i64 0, .int .i64 0, .int .i64 0], .slice none 0 0, .bool false]) (by simp [results, Try.results40, go_sem, c1hg, c1hg2]) rfl ⟨none, 0, rfl, BOwn.none_ _ _ _ _ _, (by repeat (first | (with_reducible exact b0 _) | (with_reducible refine ba ?_ _) | (with_reducible refine bd ?_ _) | (with_reducible refine Below.drew ?_) | (with_reducible refine bs ?_ (by first | exact Nat.le_refl _ | exact Nat.le_add_right _ _ | omega) _) | (with_reducible refine bt ?_ (by assumption))))⟩
  · rw [NewRB_yes (show rbok r c t l n = true by simp [rbok, hs0, hb0])]
    have hx := Lib.hid (sesB_iff.1 hs0)
    have g := bok_iff.1 hb0
    go_enter Try.func40, Try.ntmps40
    go_wp2_with (first | (go_at_call 16; refine (implIsBucket_any _ _ _ _).mono ?_; rw [hb0]; rintro e w1 ⟨rfl, hg⟩; have zhg := hg.size; (try simp at zhg); have c0hg := fun o => bkeep hg (w.heap.size) o (by first | omega | (simp; done) | (simp; omega)); have f0hg := fun o => bfree hg (w.heap.size) o (by first | omega | (simp; done) | (simp; omega)); have c1hg := fun o => bkeep hg (w.heap.size + 1) o (by first | omega | (simp; done) | (simp; omega)); have f1hg := fun o => bfree hg (w.heap.size + 1) o (by first | omega | (simp; done) | (simp; omega))) | (go_at_call 59; refine (areSends_any _ _ _ l _ HL.out ((HR2.out _ _).below hg) hn).mono ?_; rw [hs0]; rintro e w2 ⟨rfl, hg2⟩; have zhg2 := hg2.size; (try simp at zhg2); have c0hg2 := fun o => bkeep hg2 (w.heap.size) o (by first | omega | (simp; done) | (simp; omega)); have f0hg2 := fun o => bfree hg2 (w.heap.size) o (by first | omega | (simp; done) | (simp; omega)); have c1hg2 := fun o => bkeep hg2 (w.heap.size + 1) o (by first | omega | (simp; done) | (simp; omega)); have f1hg2 := fun o => bfree hg2 (w.heap.size + 1) o (by first | omega | (simp; done) | (simp; omega))))
    refine (runSends_any _ _ _ _ _ _ l _ HL.out (((HR2.out _ _).below hg).below hg2) hx.out.1 hx.out.2 (by omega) (by omega) (by omega) (by omega) (by omega)).mono ?_
    rintro e w3 ⟨B, cp, rfl, ho, hg3⟩
    have b1 : Bk w3 (w.heap.size + 1) 25 #[.int .i64 0, .int .i64 0, .int .i64 0] := ((Bk.new_ (by simp)).old hg).old hg2 |>.old hg3
    have zl := b1.lt
    have l0 := b1.cell 0
    have l1 := b1.cell 1
    have l2 := b1.cell 2
    simp at l0 l1 l2
    have lf := b1.free
    have HG := Lib.hid (bt (bt (bt (ba (ba (b0 w) _) _) hg) hg2) hg3)
    have HO := Lib.hid (ho.lo_le (lo' := w.heap.size + 2) (by omega))
    clear ho b1 c0hg c1hg f0hg f1hg c0hg2 c1hg2 f0hg2 f1hg2 hg hg2 hg3
    generalize tkn r c t l n = t9 at *
    go_wp2_with fail
    refine bodyPost_ret (v := .tuple #[.agg #[.int .i64 r, .int .i64 c, .int .i64 t9], .slice B n cp, .bool true]) (by simp [results, Try.results40, go_sem, l0, l1, l2, zl]) rfl ⟨B, cp, rfl, ?_, ?_⟩
    · have h3 := HO.out
      have hlo : w.heap.size + 1 < w3.heap.size := zl
      exact ((((h3.far (.inl (show w.heap.size + 1 < w.heap.size + 2 by omega)) _).far (.inl (show w.heap.size + 1 < w.heap.size + 2 by omega)) _).far (.inl (show w.heap.size + 1 < w.heap.size + 2 by omega)) _).alloc _).lo_le (by omega) |>.here
    · exact ba (bs (bs (bs HG.out (Nat.le_add_right _ _) _) (Nat.le_add_right _ _) _) (Nat.le_add_right _ _) _) _

end Go.Proofs.Ytleknfigikpacaa
