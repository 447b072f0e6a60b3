/- The contracts of QueueBytes, NewQueue and DelayOf. -/
import Derived.Test.YtgcbpooflecbpaaQuRows
namespace Go.Proofs.Ytgcbpooflecbpaa
open Go.ChangeShapes Go.WideShapes Go.ChangeAt Go.RowKit
set_option linter.unusedVariables false
theorem quGood_b {b : Bool} (li by_ : Int) (A : Option Addr) (n cap : Nat) (se dr : Int) (L : List Pk) (w : World) (hl : L.length = n) (hr : IRow w A (fl L)) (hn : n ≤ 1099511627776) (hcap : n ≤ cap) (h : qok li by_ L se dr = b) :
    Calls Try.prog 54 #[.agg #[.int .i64 li, .int .i64 by_, .slice A n cap, .int .i64 se, .int .i64 dr]] w fun e w' => e = .returned (.bool b) ∧ Below w.heap.size w w' := h ▸ quGood_any li by_ A n cap se dr L w hl hr hn
theorem isQueue_b {b : Bool} (li by_ : Int) (A : Option Addr) (n cap : Nat) (se dr : Int) (L : List Pk) (w : World) (hl : L.length = n) (hr : IRow w A (fl L)) (hn : n ≤ 1099511627776) (hcap : n ≤ cap) (h : qok li by_ L se dr = b) :
    Calls Try.prog 21 #[.agg #[.int .i64 li, .int .i64 by_, .slice A n cap, .int .i64 se, .int .i64 dr]] w fun e w' => e = .returned (.bool b) ∧ Below w.heap.size w w' := h ▸ implIsQueue_any li by_ A n cap se dr L w hl hr hn hcap
theorem qok_sz {li by_ : Int} {L : List Pk} {se dr : Int} {n : Nat} (hl : L.length = n) (h : qok li by_ L se dr = true) : n ≤ 60 ∧ SzOk L := by
  have := qok_iff.1 h
  exact ⟨by omega, apart_sz this.2.2.2.2.2.1⟩
def qbR (li by_ : Int) (L : List Pk) (se dr : Int) : Int := if qok li by_ L se dr then szs L L.length else 0
set_option maxHeartbeats 1000000 in
theorem specQueueBytes_any (li by_ : Int) (A : Option Addr) (n cap : Nat) (se dr : Int) (L : List Pk) (w : World) (hl : L.length = n) (hr : IRow w A (fl L)) (hn : n ≤ 1099511627776) (hcap : n ≤ cap) :
    Calls Try.prog 23 #[.agg #[.int .i64 li, .int .i64 by_, .slice A n cap, .int .i64 se, .int .i64 dr]] w fun e w' => e = .returned (.tuple #[.int .i64 (qbR li by_ L se dr), .bool (qok li by_ L se dr)]) ∧ Below w.heap.size w w' := by
  have HL := Lib.hid hl
  have HR := Lib.hid (fun (o : Obj) => hr.below (ba (b0 w) o))
  clear hl hr
  rcases h : qok li by_ L se dr with _ | _
  · have hR := Lib.hid (show qbR li by_ L se dr = 0 by simp [qbR, h])
    go_enter Try.func23, Try.ntmps23
    go_wp2_with (go_at_call 54; refine (quGood_b _ _ _ _ _ _ _ L _ HL.out (HR.out _) hn hcap h).mono ?_; rintro e w1 ⟨rfl, hg⟩; have zhg := hg.size; (try simp at zhg); have c0hg := fun o => bkeep hg (w.heap.size) o (by first | omega | (simp; done) | (simp; omega)); have f0hg := fun o => bfree hg (w.heap.size) o (by first | omega | (simp; done) | (simp; omega)))
    go_ret2
    exact ⟨by rw [hR.out]; rfl, (by repeat (first | (with_reducible exact b0 _) | (with_reducible refine ba ?_ _) | (with_reducible refine bd ?_ _) | (with_reducible refine Below.drew ?_) | (with_reducible refine bs ?_ (by first | exact Nat.le_refl _ | exact Nat.le_add_right _ _ | omega) _) | (with_reducible refine bt ?_ (by assumption))))⟩
  · have hR := Lib.hid (show qbR li by_ L se dr = szs L n by simp [qbR, h, HL.out])
    have hz := Lib.hid (qok_sz HL.out h)
    go_enter Try.func23, Try.ntmps23
    go_wp2_with (first | (go_at_call 54; refine (quGood_b _ _ _ _ _ _ _ L _ HL.out (HR.out _) hn hcap h).mono ?_; rintro e w1 ⟨rfl, hg⟩; have zhg := hg.size; (try simp at zhg); have c0hg := fun o => bkeep hg (w.heap.size) o (by first | omega | (simp; done) | (simp; omega)); have f0hg := fun o => bfree hg (w.heap.size) o (by first | omega | (simp; done) | (simp; omega))) | (go_at_call 58; refine (quBytes_any _ _ _ _ _ _ _ L _ HL.out ((HR.out _).below hg) hn (Nat.le_trans hz.out.1 (by omega)) hz.out.2).mono ?_; rintro e w2 ⟨rfl, hg2⟩))
    go_ret2
    exact ⟨by rw [hR.out]; rfl, (by repeat (first | (with_reducible exact b0 _) | (with_reducible refine ba ?_ _) | (with_reducible refine bd ?_ _) | (with_reducible refine Below.drew ?_) | (with_reducible refine bs ?_ (by first | exact Nat.le_refl _ | exact Nat.le_add_right _ _ | omega) _) | (with_reducible refine bt ?_ (by assumption))))⟩
set_option maxHeartbeats 1000000 in
theorem implQueueBytes_any (li by_ : Int) (A : Option Addr) (n cap : Nat) (se dr : Int) (L : List Pk) (w : World) (hl : L.length = n) (hr : IRow w A (fl L)) (hn : n ≤ 1099511627776) (hcap : n ≤ cap) :
    Calls Try.prog 24 #[.agg #[.int .i64 li, .int .i64 by_, .slice A n cap, .int .i64 se, .int .i64 dr]] w fun e w' => e = .returned (.tuple #[.int .i64 (qbR li by_ L se dr), .bool (qok li by_ L se dr)]) ∧ Below w.heap.size w w' := by
  have HL := Lib.hid hl
  have HR := Lib.hid (fun (o : Obj) => hr.below (ba (b0 w) o))
  clear hl hr
  rcases h : qok li by_ L se dr with _ | _
  · have hR := Lib.hid (show qbR li by_ L se dr = 0 by simp [qbR, h])
    go_enter Try.func24, Try.ntmps24
    go_wp2_with (go_at_call 21; refine (isQueue_b _ _ _ _ _ _ _ L _ HL.out (HR.out _) hn hcap h).mono ?_; rintro e w1 ⟨rfl, hg⟩; have zhg := hg.size; (try simp at zhg); have c0hg := fun o => bkeep hg (w.heap.size) o (by first | omega | (simp; done) | (simp; omega)); have f0hg := fun o => bfree hg (w.heap.size) o (by first | omega | (simp; done) | (simp; omega)))
    go_ret2
    exact ⟨by rw [hR.out]; rfl, (by repeat (first | (with_reducible exact b0 _) | (with_reducible refine ba ?_ _) | (with_reducible refine bd ?_ _) | (with_reducible refine Below.drew ?_) | (with_reducible refine bs ?_ (by first | exact Nat.le_refl _ | exact Nat.le_add_right _ _ | omega) _) | (with_reducible refine bt ?_ (by assumption))))⟩
  · have hR := Lib.hid (show qbR li by_ L se dr = szs L n by simp [qbR, h, HL.out])
    have hz := Lib.hid (qok_sz HL.out h)
    go_enter Try.func24, Try.ntmps24
    go_wp2_with (first | (go_at_call 21; refine (isQueue_b _ _ _ _ _ _ _ L _ HL.out (HR.out _) hn hcap h).mono ?_; rintro e w1 ⟨rfl, hg⟩; have zhg := hg.size; (try simp at zhg); have c0hg := fun o => bkeep hg (w.heap.size) o (by first | omega | (simp; done) | (simp; omega)); have f0hg := fun o => bfree hg (w.heap.size) o (by first | omega | (simp; done) | (simp; omega))) | (go_at_call 57; refine (sumSizes_any _ _ _ L _ HL.out ((HR.out _).below hg) (Nat.le_trans hz.out.1 (by omega)) hz.out.2).mono ?_; rintro e w2 ⟨rfl, hg2⟩))
    go_ret2
    exact ⟨by rw [hR.out]; rfl, (by repeat (first | (with_reducible exact b0 _) | (with_reducible refine ba ?_ _) | (with_reducible refine bd ?_ _) | (with_reducible refine Below.drew ?_) | (with_reducible refine bs ?_ (by first | exact Nat.le_refl _ | exact Nat.le_add_right _ _ | omega) _) | (with_reducible refine bt ?_ (by assumption))))⟩
def ifz (ok : Bool) (x : Int) : Int := if ok then x else 0
set_option maxHeartbeats 1000000 in
theorem specNewQueue_any (li by_ : Int) (w : World) :
    Calls Try.prog 27 #[.int .i64 li, .int .i64 by_] w fun e w' => e = .returned (.tuple #[.agg #[.int .i64 (ifz (qok li by_ [] 0 0) li), .int .i64 (ifz (qok li by_ [] 0 0) by_), .slice none 0 0, .int .i64 0, .int .i64 0], .bool (qok li by_ [] 0 0)]) ∧ Below w.heap.size w w' := by
  rcases h : qok li by_ [] 0 0 with _ | _
  · go_enter Try.func27, Try.ntmps27
    go_wp2_with (go_at_call 54; refine (quGood_b li by_ none 0 0 0 0 [] _ rfl (IRow.nil _ _) (Nat.zero_le _) (Nat.le_refl _) h).mono ?_; rintro e w1 ⟨rfl, hg⟩; have zhg := hg.size; (try simp at zhg); have c0hg := fun o => bkeep hg (w.heap.size) o (by first | omega | (simp; done) | (simp; omega)); have f0hg := fun o => bfree hg (w.heap.size) o (by first | omega | (simp; done) | (simp; omega)); have c1hg := fun o => bkeep hg (w.heap.size + 1) o (by first | omega | (simp; done) | (simp; omega)); have f1hg := fun o => bfree hg (w.heap.size + 1) o (by first | omega | (simp; done) | (simp; omega)))
    exact bodyPost_ret (v := .tuple #[.agg #[.int .i64 0, .int .i64 0, .slice none 0 0, .int .i64 0, .int .i64 0], .bool false]) (by simp [results, Try.results27, go_sem, c0hg]) rfl ⟨rfl, (by repeat (first | (with_reducible exact b0 _) | (with_reducible refine ba ?_ _) | (with_reducible refine bd ?_ _) | (with_reducible refine Below.drew ?_) | (with_reducible refine bs ?_ (by first | exact Nat.le_refl _ | exact Nat.le_add_right _ _ | omega) _) | (with_reducible refine bt ?_ (by assumption))))⟩
  · go_enter Try.func27, Try.ntmps27
    go_wp2_with (go_at_call 54; refine (quGood_b li by_ none 0 0 0 0 [] _ rfl (IRow.nil _ _) (Nat.zero_le _) (Nat.le_refl _) h).mono ?_; rintro e w1 ⟨rfl, hg⟩; have zhg := hg.size; (try simp at zhg); have c0hg := fun o => bkeep hg (w.heap.size) o (by first | omega | (simp; done) | (simp; omega)); have f0hg := fun o => bfree hg (w.heap.size) o (by first | omega | (simp; done) | (simp; omega)); have c1hg := fun o => bkeep hg (w.heap.size + 1) o (by first | omega | (simp; done) | (simp; omega)); have f1hg := fun o => bfree hg (w.heap.size + 1) o (by first | omega | (simp; done) | (simp; omega)))
    exact bodyPost_ret (v := .tuple #[.agg #[.int .i64 li, .int .i64 by_, .slice none 0 0, .int .i64 0, .int .i64 0], .bool true]) (by simp [results, Try.results27, go_sem, c0hg]) rfl ⟨rfl, (by repeat (first | (with_reducible exact b0 _) | (with_reducible refine ba ?_ _) | (with_reducible refine bd ?_ _) | (with_reducible refine Below.drew ?_) | (with_reducible refine bs ?_ (by first | exact Nat.le_refl _ | exact Nat.le_add_right _ _ | omega) _) | (with_reducible refine bt ?_ (by assumption))))⟩
set_option maxHeartbeats 1000000 in
theorem implNewQueue_any (li by_ : Int) (w : World) :
    Calls Try.prog 28 #[.int .i64 li, .int .i64 by_] w fun e w' => e = .returned (.tuple #[.agg #[.int .i64 (ifz (qok li by_ [] 0 0) li), .int .i64 (ifz (qok li by_ [] 0 0) by_), .slice none 0 0, .int .i64 0, .int .i64 0], .bool (qok li by_ [] 0 0)]) ∧ Below w.heap.size w w' := by
  rcases h : qok li by_ [] 0 0 with _ | _
  · go_enter Try.func28, Try.ntmps28
    go_wp2_with (go_at_call 21; refine (isQueue_b li by_ none 0 0 0 0 [] _ rfl (IRow.nil _ _) (Nat.zero_le _) (Nat.le_refl _) h).mono ?_; rintro e w1 ⟨rfl, hg⟩; have zhg := hg.size; (try simp at zhg); have c0hg := fun o => bkeep hg (w.heap.size) o (by first | omega | (simp; done) | (simp; omega)); have f0hg := fun o => bfree hg (w.heap.size) o (by first | omega | (simp; done) | (simp; omega)); have c1hg := fun o => bkeep hg (w.heap.size + 1) o (by first | omega | (simp; done) | (simp; omega)); have f1hg := fun o => bfree hg (w.heap.size + 1) o (by first | omega | (simp; done) | (simp; omega)))
    exact bodyPost_ret (v := .tuple #[.agg #[.int .i64 0, .int .i64 0, .slice none 0 0, .int .i64 0, .int .i64 0], .bool false]) (by simp [results, Try.results28, go_sem, c0hg]) rfl ⟨rfl, (by repeat (first | (with_reducible exact b0 _) | (with_reducible refine ba ?_ _) | (with_reducible refine bd ?_ _) | (with_reducible refine Below.drew ?_) | (with_reducible refine bs ?_ (by first | exact Nat.le_refl _ | exact Nat.le_add_right _ _ | omega) _) | (with_reducible refine bt ?_ (by assumption))))⟩
  · go_enter Try.func28, Try.ntmps28
    go_wp2_with (go_at_call 21; refine (isQueue_b li by_ none 0 0 0 0 [] _ rfl (IRow.nil _ _) (Nat.zero_le _) (Nat.le_refl _) h).mono ?_; rintro e w1 ⟨rfl, hg⟩; have zhg := hg.size; (try simp at zhg); have c0hg := fun o => bkeep hg (w.heap.size) o (by first | omega | (simp; done) | (simp; omega)); have f0hg := fun o => bfree hg (w.heap.size) o (by first | omega | (simp; done) | (simp; omega)); have c1hg := fun o => bkeep hg (w.heap.size + 1) o (by first | omega | (simp; done) | (simp; omega)); have f1hg := fun o => bfree hg (w.heap.size + 1) o (by first | omega | (simp; done) | (simp; omega)))
    exact bodyPost_ret (v := .tuple #[.agg #[.int .i64 li, .int .i64 by_, .slice none 0 0, .int .i64 0, .int .i64 0], .bool true]) (by simp [results, Try.results28, go_sem, c0hg]) rfl ⟨rfl, (by repeat (first | (with_reducible exact b0 _) | (with_reducible refine ba ?_ _) | (with_reducible refine bd ?_ _) | (with_reducible refine Below.drew ?_) | (with_reducible refine bs ?_ (by first | exact Nat.le_refl _ | exact Nat.le_add_right _ _ | omega) _) | (with_reducible refine bt ?_ (by assumption))))⟩
def doOk (li by_ : Int) (L : List Pk) (se dr id ra : Int) : Bool := qok li by_ L se dr && hasK L L.length id && decide (1 ≤ ra ∧ ra ≤ 100000)
def doR (li by_ : Int) (L : List Pk) (se dr id ra : Int) : Int := if doOk li by_ L se dr id ra then (szs L ((quI L id).toNat + 1) + ra - 1) / ra else 0
theorem szs_take (L : List Pk) (m : Nat) : szs (L.take m) m = szs L m := by simp [szs, List.take_take]
theorem quAt_v {v : Int} (A : Option Addr) (n cap : Nat) (L : List Pk) (id : Int) (w : World) (hl : L.length = n) (hr : IRow w A (fl L)) (hn : n ≤ 1099511627776) (h : quI L id = v) :
    Calls Try.prog 59 #[.slice A n cap, .int .i64 id] w fun e w' => e = .returned (.int .i64 v) ∧ Below w.heap.size w w' := h ▸ quAt_any A n cap L id w hl hr hn
theorem SzOk.take {L : List Pk} (h : SzOk L) (m : Nat) : SzOk (L.take m) := fun i p hp => by
  rw [List.getElem?_take] at hp
  split at hp
  · exact h i p hp
  · cases hp
set_option maxHeartbeats 2000000 in
theorem specDelayOf_any (li by_ : Int) (A : Option Addr) (n cap : Nat) (se dr : Int) (L : List Pk) (w : World) (id ra : Int) (hl : L.length = n) (hr : IRow w A (fl L)) (hn : n ≤ 1099511627776) (hcap : n ≤ cap) :
    Calls Try.prog 25 #[.agg #[.int .i64 li, .int .i64 by_, .slice A n cap, .int .i64 se, .int .i64 dr], .int .i64 id, .int .i64 ra] w fun e w' => e = .returned (.tuple #[.int .i64 (doR li by_ L se dr id ra), .bool (doOk li by_ L se dr id ra)]) ∧ Below w.heap.size w w' := by
  have HL := Lib.hid hl
  have HR := Lib.hid (fun (o : Obj) => hr.below (ba (b0 w) o))
  clear hl hr
  rcases h : qok li by_ L se dr with _ | _
  · have hR := Lib.hid (show doOk li by_ L se dr id ra = false by simp [doOk, h])
    have hR2 := Lib.hid (show doR li by_ L se dr id ra = 0 by simp [doR, hR.out])
    go_enter Try.func25, Try.ntmps25
    go_wp2_with (go_at_call 54; refine (quGood_b _ _ _ _ _ _ _ L _ HL.out (HR.out _) hn hcap h).mono ?_; rintro e w1 ⟨rfl, hg⟩; have zhg := hg.size; (try simp at zhg); have c0hg := fun o => bkeep hg (w.heap.size) o (by first | omega | (simp; done) | (simp; omega)); have f0hg := fun o => bfree hg (w.heap.size) o (by first | omega | (simp; done) | (simp; omega)))
    go_ret2
    exact ⟨by rw [hR.out, hR2.out]; rfl, (by repeat (first | (with_reducible exact b0 _) | (with_reducible refine ba ?_ _) | (with_reducible refine bd ?_ _) | (with_reducible refine Below.drew ?_) | (with_reducible refine bs ?_ (by first | exact Nat.le_refl _ | exact Nat.le_add_right _ _ | omega) _) | (with_reducible refine bt ?_ (by assumption))))⟩
  rcases fstI_cases L.length (hasI L id) with ⟨k, hk, h1, h2, h3⟩ | ⟨h1, h3⟩
  rotate_left
  · have hR := Lib.hid (show doOk li by_ L se dr id ra = false by simp [doOk, hasK_none h1])
    have hR2 := Lib.hid (show doR li by_ L se dr id ra = 0 by simp [doR, hR.out])
    have hq : quI L id = -1 := h3
    have HQ := Lib.hid hq
    clear h1 h3 hq
    go_enter Try.func25, Try.ntmps25
    go_wp2_with (first | (go_at_call 54; refine (quGood_b _ _ _ _ _ _ _ L _ HL.out (HR.out _) hn hcap h).mono ?_; rintro e w1 ⟨rfl, hg⟩; have zhg := hg.size; (try simp at zhg); have c0hg := fun o => bkeep hg (w.heap.size) o (by first | omega | (simp; done) | (simp; omega)); have f0hg := fun o => bfree hg (w.heap.size) o (by first | omega | (simp; done) | (simp; omega))) | (go_at_call 59; refine (quAt_v _ _ _ L _ _ HL.out ((HR.out _).below hg) hn HQ.out).mono ?_; rintro e w2 ⟨rfl, hg2⟩; have zhg2 := hg2.size; (try simp at zhg2); have c0hg2 := fun o => bkeep hg2 (w.heap.size) o (by first | omega | (simp; done) | (simp; omega)); have f0hg2 := fun o => bfree hg2 (w.heap.size) o (by first | omega | (simp; done) | (simp; omega))))
    go_ret2
    exact ⟨by rw [hR.out, hR2.out]; rfl, (by repeat (first | (with_reducible exact b0 _) | (with_reducible refine ba ?_ _) | (with_reducible refine bd ?_ _) | (with_reducible refine Below.drew ?_) | (with_reducible refine bs ?_ (by first | exact Nat.le_refl _ | exact Nat.le_add_right _ _ | omega) _) | (with_reducible refine bt ?_ (by assumption))))⟩
  have HQ := Lib.hid (show quI L id = (k : Int) from h3)
  have HK := Lib.hid (hasK_hit hk h1)
  have hkn : k < n := by have := HL.out; omega
  clear h1 h2 h3 hk
  rcases hra : decide (1 ≤ ra ∧ ra ≤ 100000) with _ | _
  · have hR := Lib.hid (show doOk li by_ L se dr id ra = false by simp only [doOk, hra, Bool.and_false])
    have hR2 := Lib.hid (show doR li by_ L se dr id ra = 0 by simp [doR, hR.out])
    go_enter Try.func25, Try.ntmps25
    go_wp2_with (first | (go_at_call 54; refine (quGood_b _ _ _ _ _ _ _ L _ HL.out (HR.out _) hn hcap h).mono ?_; rintro e w1 ⟨rfl, hg⟩; have zhg := hg.size; (try simp at zhg); have c0hg := fun o => bkeep hg (w.heap.size) o (by first | omega | (simp; done) | (simp; omega)); have f0hg := fun o => bfree hg (w.heap.size) o (by first | omega | (simp; done) | (simp; omega))) | (go_at_call 59; refine (quAt_v _ _ _ L _ _ HL.out ((HR.out _).below hg) hn HQ.out).mono ?_; rintro e w2 ⟨rfl, hg2⟩; have zhg2 := hg2.size; (try simp at zhg2); have c0hg2 := fun o => bkeep hg2 (w.heap.size) o (by first | omega | (simp; done) | (simp; omega)); have f0hg2 := fun o => bfree hg2 (w.heap.size) o (by first | omega | (simp; done) | (simp; omega))) | (go_at_call 60; refine (l1In_b hra _).mono ?_; rintro e w' ⟨rfl, rfl⟩))
    go_ret2
    exact ⟨by rw [hR.out, hR2.out]; rfl, (by repeat (first | (with_reducible exact b0 _) | (with_reducible refine ba ?_ _) | (with_reducible refine bd ?_ _) | (with_reducible refine Below.drew ?_) | (with_reducible refine bs ?_ (by first | exact Nat.le_refl _ | exact Nat.le_add_right _ _ | omega) _) | (with_reducible refine bt ?_ (by assumption))))⟩
  have g := of_decide_eq_true hra
  have hR := Lib.hid (show doOk li by_ L se dr id ra = true by simp only [doOk, h, HK.out, hra]; rfl)
  have hR2 := Lib.hid (show doR li by_ L se dr id ra = (szs L (k + 1) + ra - 1) / ra by simp only [doR, hR.out, HQ.out]; rfl)
  have hz := Lib.hid (qok_sz HL.out h)
  have hzb := szs_b hz.out.2 (k + 1) (by have := HL.out; omega)
  have hn6 := hz.out.1
  obtain ⟨g', off, p, hA, _⟩ := pk_at (HR.out (.cells #[] 0)) (k := k) (by have := HL.out; omega)
  subst hA
  go_enter Try.func25, Try.ntmps25
  go_wp2_with (first | (go_at_call 54; refine (quGood_b _ _ _ _ _ _ _ L _ HL.out (HR.out _) hn hcap h).mono ?_; rintro e w1 ⟨rfl, hg⟩; have zhg := hg.size; (try simp at zhg); have c0hg := fun o => bkeep hg (w.heap.size) o (by first | omega | (simp; done) | (simp; omega)); have f0hg := fun o => bfree hg (w.heap.size) o (by first | omega | (simp; done) | (simp; omega))) | (go_at_call 59; refine (quAt_v _ _ _ L _ _ HL.out ((HR.out _).below hg) hn HQ.out).mono ?_; rintro e w2 ⟨rfl, hg2⟩) | (go_at_call 60; refine (l1In_b hra _).mono ?_; rintro e w' ⟨rfl, rfl⟩))
  have b2 : Bk w2 w.heap.size 36 #[.int .i64 li, .int .i64 by_, .slice (some ⟨g', off, none⟩) n cap, .int .i64 se, .int .i64 dr] := ((Bk.new_ (by simp)).old hg).old hg2
  have q2 : ∀ u : Gr w2, u.v.cell? ⟨w.heap.size, 2, none⟩ = some (.slice (some ⟨g', off, none⟩) n cap) := gr_cell (b2.cell 2)
  have HRW := Lib.hid (fun (u : Gr w2) => (((HR.out _).below hg).below hg2).below u.h)
  have HTL := Lib.hid (show (L.take (k + 1)).length = k + 1 by simp; have := HL.out; omega)
  have HTR := Lib.hid (fun (u : Gr w2) => show IRow u.v (some ⟨g', off, none⟩) (fl (L.take (k + 1))) by rw [← fl_take]; exact (HRW.out u).take _)
  have HT := Lib.hid (szs_take L (k + 1))
  have HBB := Lib.hid (bt (bt (ba (b0 w) _) hg) hg2)
  clear b2 c0hg f0hg hg hg2
  have i0 : IntKind.i64.wrap ((k : Int) + 1) = (k : Int) + 1 := IntWalk.i64_in _ (by omega)
  have i1 : (0 : Int) ≤ (k : Int) + 1 := by omega
  have i2 : (k : Int) + 1 ≤ (cap : Int) := by omega
  have i3 : ((k : Int) + 1).toNat = k + 1 := by omega
  refine wp_region_gr (by kernel_rfl) (by kernel_rfl) ?_
  repeat (go_big_quiet_step ((first | (go_at_call 59; exact gr_of (quAt_v _ _ _ L _ _ HL.out (HRW.out _) hn HQ.out)) | (go_at_call 61; exact gr_of (pkSum_any _ _ _ (L.take (k + 1)) _ HTL.out (HTR.out _) (by omega) (hz.out.2.take _))))))
  refine wpQuiet_nil ?_
  intro _ hw'
  obtain ⟨pq, hw''⟩ := hw'
  subst hw''
  clear i0 i1 i2 i3
  rw [HT.out]
  generalize szs L (k + 1) = s at *
  go_wp2_with fail
  go_ret2
  exact ⟨by rw [hR.out, hR2.out]; rfl, bt HBB.out pq.h⟩
set_option maxHeartbeats 2000000 in
theorem implDelayOf_any (li by_ : Int) (A : Option Addr) (n cap : Nat) (se dr : Int) (L : List Pk) (w : World) (id ra : Int) (hl : L.length = n) (hr : IRow w A (fl L)) (hn : n ≤ 1099511627776) (hcap : n ≤ cap) :
    Calls Try.prog 26 #[.agg #[.int .i64 li, .int .i64 by_, .slice A n cap, .int .i64 se, .int .i64 dr], .int .i64 id, .int .i64 ra] w fun e w' => e = .returned (.tuple #[.int .i64 (doR li by_ L se dr id ra), .bool (doOk li by_ L se dr id ra)]) ∧ Below w.heap.size w w' := by
  have HL := Lib.hid hl
  have HR := Lib.hid (fun (o : Obj) => hr.below (ba (b0 w) o))
  clear hl hr
  rcases h : qok li by_ L se dr with _ | _
  · have hR := Lib.hid (show doOk li by_ L se dr id ra = false by simp [doOk, h])
    have hR2 := Lib.hid (show doR li by_ L se dr id ra = 0 by simp [doR, hR.out])
    go_enter Try.func26, Try.ntmps26
    go_wp2_with (go_at_call 21; refine (isQueue_b _ _ _ _ _ _ _ L _ HL.out (HR.out _) hn hcap h).mono ?_; rintro e w1 ⟨rfl, hg⟩; have zhg := hg.size; (try simp at zhg); have c0hg := fun o => bkeep hg (w.heap.size) o (by first | omega | (simp; done) | (simp; omega)); have f0hg := fun o => bfree hg (w.heap.size) o (by first | omega | (simp; done) | (simp; omega)))
    go_ret2
    exact ⟨by rw [hR.out, hR2.out]; rfl, (by repeat (first | (with_reducible exact b0 _) | (with_reducible refine ba ?_ _) | (with_reducible refine bd ?_ _) | (with_reducible refine Below.drew ?_) | (with_reducible refine bs ?_ (by first | exact Nat.le_refl _ | exact Nat.le_add_right _ _ | omega) _) | (with_reducible refine bt ?_ (by assumption))))⟩
  by_cases hra : 1 ≤ ra ∧ ra ≤ 100000
  rotate_left
  · have hR := Lib.hid (show doOk li by_ L se dr id ra = false by simp only [doOk, decide_eq_false hra, Bool.and_false])
    have hR2 := Lib.hid (show doR li by_ L se dr id ra = 0 by simp [doR, hR.out])
    by_cases hlo : ra < 1
    · go_enter Try.func26, Try.ntmps26
      go_wp2_with (go_at_call 21; refine (isQueue_b _ _ _ _ _ _ _ L _ HL.out (HR.out _) hn hcap h).mono ?_; rintro e w1 ⟨rfl, hg⟩; have zhg := hg.size; (try simp at zhg); have c0hg := fun o => bkeep hg (w.heap.size) o (by first | omega | (simp; done) | (simp; omega)); have f0hg := fun o => bfree hg (w.heap.size) o (by first | omega | (simp; done) | (simp; omega)))
      go_ret2
      exact ⟨by rw [hR.out, hR2.out]; rfl, (by repeat (first | (with_reducible exact b0 _) | (with_reducible refine ba ?_ _) | (with_reducible refine bd ?_ _) | (with_reducible refine Below.drew ?_) | (with_reducible refine bs ?_ (by first | exact Nat.le_refl _ | exact Nat.le_add_right _ _ | omega) _) | (with_reducible refine bt ?_ (by assumption))))⟩
    · have hhi : 100000 < ra := by omega
      go_enter Try.func26, Try.ntmps26
      go_wp2_with (go_at_call 21; refine (isQueue_b _ _ _ _ _ _ _ L _ HL.out (HR.out _) hn hcap h).mono ?_; rintro e w1 ⟨rfl, hg⟩; have zhg := hg.size; (try simp at zhg); have c0hg := fun o => bkeep hg (w.heap.size) o (by first | omega | (simp; done) | (simp; omega)); have f0hg := fun o => bfree hg (w.heap.size) o (by first | omega | (simp; done) | (simp; omega)))
      go_ret2
      exact ⟨by rw [hR.out, hR2.out]; rfl, (by repeat (first | (with_reducible exact b0 _) | (with_reducible refine ba ?_ _) | (with_reducible refine bd ?_ _) | (with_reducible refine Below.drew ?_) | (with_reducible refine bs ?_ (by first | exact Nat.le_refl _ | exact Nat.le_add_right _ _ | omega) _) | (with_reducible refine bt ?_ (by assumption))))⟩
  obtain ⟨r1, r2⟩ := hra
  have r1' : ¬ ra < 1 := by omega
  have r2' : ¬ 100000 < ra := by omega
  have hz := Lib.hid (qok_sz HL.out h)
  have hn6 := hz.out.1
  go_enter Try.func26, Try.ntmps26
  go_wp2_with (go_at_call 21; refine (isQueue_b _ _ _ _ _ _ _ L _ HL.out (HR.out _) hn hcap h).mono ?_; rintro e w1 ⟨rfl, hg⟩; have zhg := hg.size; (try simp at zhg); have c0hg := fun o => bkeep hg (w.heap.size) o (by first | omega | (simp; done) | (simp; omega)); have f0hg := fun o => bfree hg (w.heap.size) o (by first | omega | (simp; done) | (simp; omega)))
  have HRW := Lib.hid ((HR.out (.cells #[.int .i64 li, .int .i64 by_, .slice A n cap, .int .i64 se, .int .i64 dr] 36)).below hg)
  have HBB := Lib.hid (bt (ba (b0 w) _) hg)
  clear c0hg f0hg
  go_loopw [8, 25] (fun a i wr => ∃ k : Nat, k ≤ n ∧ i = .int .i64 k ∧ a = .int .i64 (szs L k) ∧ (∀ j, j < k → hasI L id j = false) ∧ Below w1.heap.size w1 wr) (fun _ i _ => n - (intOf i).toNat)
  case atStart => exact ⟨0, Nat.zero_le _, rfl, by simp [szs_zero], none_zero, b0 _⟩
  case round =>
    obtain ⟨k, hk, rfl, rfl, hall, hbw⟩ := hrel
    have HA := Lib.hid hall
    clear hall
    by_cases hlt : k < n
    · obtain ⟨g, off, p, rfl, hgg, hpk, c0, c1, c2, c3, c4, c5⟩ := pk_at (HRW.out.below hbw) (k := k) (by have := HL.out; omega)
      have HP := Lib.hid (hasI_of (id := id) hpk)
      have HE := Lib.hid (szs_succ hpk)
      have hb := szs_b hz.out.2 k (by have := HL.out; omega)
      have hzz := hz.out.2 k p hpk
      have hb2 := szs_b hz.out.2 (k + 1) (by have := HL.out; omega)
      rw [HE.out] at hb2
      clear hpk
      by_cases he : p.id = id
      · have he' : (p.id == id) = true := by simpa using he
        have HQ := Lib.hid (show quI L id = (k : Int) from fstI_hit (by have := HL.out; omega) HA.out (by rw [HP.out]; simp [he]))
        have HK := Lib.hid (show hasK L L.length id = true from hasK_hit (k := k) (by have := HL.out; omega) (by rw [HP.out]; simp [he]))
        have hR := Lib.hid (show doOk li by_ L se dr id ra = true by simp only [doOk, h, HK.out, decide_eq_true (show 1 ≤ ra ∧ ra ≤ 100000 from ⟨r1, r2⟩)]; rfl)
        have hR2 := Lib.hid (show doR li by_ L se dr id ra = (szs L k + p.si + ra - 1) / ra by simp only [doR, hR.out, HQ.out]; rw [← HE.out]; rfl)
        clear he
        generalize szs L k = a at *
        go_wp2_with fail
        go_ret2
        exact ⟨by rw [hR.out, hR2.out]; rfl, bt HBB.out (ba hbw _)⟩
      · have he' : (p.id == id) = false := by simpa using he
        have hR := Lib.hid (none_succ HA.out (by rw [HP.out]; simp [he]))
        clear he
        generalize szs L k = a at *
        go_wp2_with fail
        go_roundw
        case rel => exact ⟨k + 1, by omega, by go_num, by rw [HE.out], hR.out, ba hbw _⟩
        case measure => simp [intOf]; omega
    · obtain rfl : k = n := by omega
      have hR := Lib.hid (show doOk li by_ L se dr id ra = false by simp only [doOk, hasK_none (show ∀ i, i < L.length → hasI L id i = false by rw [HL.out]; exact HA.out), Bool.and_false, Bool.false_and])
      have hR2 := Lib.hid (show doR li by_ L se dr id ra = 0 by simp [doR, hR.out])
      go_wp2_with fail
      go_ret2
      exact ⟨by rw [hR.out, hR2.out]; rfl, bt HBB.out hbw⟩
end Go.Proofs.Ytgcbpooflecbpaa
