/- The contracts of what puts a packet into a queue. -/
import Derived.Test.YtgdldmeeaejjpaaTakeAll
namespace Go.Proofs.Ytgdldmeeaejjpaa
open Go.ChangeShapes Go.WideShapes Go.ChangeAt Go.RowKit
set_option linter.unusedVariables false
/-- Whether there is room for a packet. -/
def room (li by_ : Int) (L : List Pk) (p : Pk) : Bool := decide ((L.length : Int) < li) && decide (szs L L.length + p.si ≤ by_)
set_option maxHeartbeats 2000000 in
theorem quRoom_any (li by_ : Int) (A : Option Addr) (n cap : Nat) (se dr : Int) (L : List Pk) (p : Pk) (w : World) (hl : L.length = n) (hr : IRow w A (fl L)) (hn : n ≤ 1048576) (hz : SzOk L) (h60 : n ≤ 1000) (hp : 0 ≤ p.si ∧ p.si ≤ 1500) :
    Calls Try.prog 50 #[.agg #[.int .i64 li, .int .i64 by_, .slice A n cap, .int .i64 se, .int .i64 dr], .agg #[.int .i64 (p.id), .int .i64 (p.so), .int .i64 (p.de), .int .i64 (p.po), .int .i64 (p.ma), .int .i64 (p.si)]] w fun e w' => e = .returned (.bool (room li by_ L p)) ∧ Below w.heap.size w w' := by
  have hR := Lib.hid (show room li by_ L p = (decide ((n : Int) < li) && decide (szs L n + p.si ≤ by_)) by rw [room, hl])
  have hb := szs_b hz n (by omega)
  have HL := Lib.hid hl
  have HZ := Lib.hid hz
  have HRW := Lib.hid (fun (u : Gr ((w.alloc (.cells #[.int .i64 li, .int .i64 by_, .slice A n cap, .int .i64 se, .int .i64 dr] 30)).alloc (.cells #[.int .i64 p.id, .int .i64 p.so, .int .i64 p.de, .int .i64 p.po, .int .i64 p.ma, .int .i64 p.si] 35))) => (hr.below (ba (ba (b0 w) _) _)).below u.h)
  clear hl hr hz
  have B1 := Lib.hid (show Bk ((w.alloc (.cells #[.int .i64 li, .int .i64 by_, .slice A n cap, .int .i64 se, .int .i64 dr] 30)).alloc (.cells #[.int .i64 p.id, .int .i64 p.so, .int .i64 p.de, .int .i64 p.po, .int .i64 p.ma, .int .i64 p.si] 35)) w.heap.size 30 #[.int .i64 li, .int .i64 by_, .slice A n cap, .int .i64 se, .int .i64 dr] from (Bk.new w _ _).alloc _)
  have B2 := Lib.hid (show Bk ((w.alloc (.cells #[.int .i64 li, .int .i64 by_, .slice A n cap, .int .i64 se, .int .i64 dr] 30)).alloc (.cells #[.int .i64 p.id, .int .i64 p.so, .int .i64 p.de, .int .i64 p.po, .int .i64 p.ma, .int .i64 p.si] 35)) (w.heap.size + 1) 35 #[.int .i64 p.id, .int .i64 p.so, .int .i64 p.de, .int .i64 p.po, .int .i64 p.ma, .int .i64 p.si] from Bk.new_ (by simp))
  have q0 : ∀ u : Gr ((w.alloc (.cells #[.int .i64 li, .int .i64 by_, .slice A n cap, .int .i64 se, .int .i64 dr] 30)).alloc (.cells #[.int .i64 p.id, .int .i64 p.so, .int .i64 p.de, .int .i64 p.po, .int .i64 p.ma, .int .i64 p.si] 35)), u.v.cell? ⟨w.heap.size, 0, none⟩ = some (.int .i64 li) := gr_cell (B1.out.cell 0)
  have q1 : ∀ u : Gr ((w.alloc (.cells #[.int .i64 li, .int .i64 by_, .slice A n cap, .int .i64 se, .int .i64 dr] 30)).alloc (.cells #[.int .i64 p.id, .int .i64 p.so, .int .i64 p.de, .int .i64 p.po, .int .i64 p.ma, .int .i64 p.si] 35)), u.v.cell? ⟨w.heap.size, 1, none⟩ = some (.int .i64 by_) := gr_cell (B1.out.cell 1)
  have q2 : ∀ u : Gr ((w.alloc (.cells #[.int .i64 li, .int .i64 by_, .slice A n cap, .int .i64 se, .int .i64 dr] 30)).alloc (.cells #[.int .i64 p.id, .int .i64 p.so, .int .i64 p.de, .int .i64 p.po, .int .i64 p.ma, .int .i64 p.si] 35)), u.v.cell? ⟨w.heap.size, 2, none⟩ = some (.slice A n cap) := gr_cell (B1.out.cell 2)
  have q3 : ∀ u : Gr ((w.alloc (.cells #[.int .i64 li, .int .i64 by_, .slice A n cap, .int .i64 se, .int .i64 dr] 30)).alloc (.cells #[.int .i64 p.id, .int .i64 p.so, .int .i64 p.de, .int .i64 p.po, .int .i64 p.ma, .int .i64 p.si] 35)), u.v.cell? ⟨w.heap.size, 3, none⟩ = some (.int .i64 se) := gr_cell (B1.out.cell 3)
  have q4 : ∀ u : Gr ((w.alloc (.cells #[.int .i64 li, .int .i64 by_, .slice A n cap, .int .i64 se, .int .i64 dr] 30)).alloc (.cells #[.int .i64 p.id, .int .i64 p.so, .int .i64 p.de, .int .i64 p.po, .int .i64 p.ma, .int .i64 p.si] 35)), u.v.cell? ⟨w.heap.size, 4, none⟩ = some (.int .i64 dr) := gr_cell (B1.out.cell 4)
  have q5 : ∀ u : Gr ((w.alloc (.cells #[.int .i64 li, .int .i64 by_, .slice A n cap, .int .i64 se, .int .i64 dr] 30)).alloc (.cells #[.int .i64 p.id, .int .i64 p.so, .int .i64 p.de, .int .i64 p.po, .int .i64 p.ma, .int .i64 p.si] 35)), u.v.cell? ⟨w.heap.size + 1, 5, none⟩ = some (.int .i64 p.si) := gr_cell (B2.out.cell 5)
  by_cases h1 : (n : Int) < li
  rotate_left
  · have h1' : decide ((n : Int) < li) = false := decide_eq_false h1
    have hR2 := Lib.hid (show room li by_ L p = false by rw [hR.out, h1']; rfl)
    go_enter Try.func50, Try.ntmps50
    go_wp2_with fail
    refine wp_region_gr (by kernel_rfl) (by kernel_rfl) ?_
    repeat (go_big_quiet_step (fail))
    refine wpQuiet_nil ?_
    intro _ hw'
    obtain ⟨pq, hw''⟩ := hw'
    subst hw''
    go_wp2_with fail
    go_ret
    exact ⟨by rw [hR2.out]; rfl, bt (ba (ba (b0 w) _) _) pq.h⟩
  have h1' : decide ((n : Int) < li) = true := decide_eq_true h1
  have ws : IntKind.i64.wrap (szs L n + p.si) = szs L n + p.si := IntWalk.i64_in _ (by omega)
  rcases h2 : decide (szs L n + p.si ≤ by_) with _ | _
  all_goals
    have hR2 := Lib.hid (show room li by_ L p = _ by rw [hR.out, h1', h2])
    go_enter Try.func50, Try.ntmps50
    go_wp2_with fail
    refine wp_region_gr (by kernel_rfl) (by kernel_rfl) ?_
    repeat (go_big_quiet_step ((go_at_call 92; exact gr_of (quBytes_any _ _ _ _ _ _ _ L _ HL.out (HRW.out _) (by omega) (by omega) HZ.out))))
    refine wpQuiet_nil ?_
    intro _ hw'
    obtain ⟨pq, hw''⟩ := hw'
    subst hw''
    clear ws
    go_wp2_with fail
    go_ret
    exact ⟨by rw [hR2.out]; rfl, bt (ba (ba (b0 w) _) _) pq.h⟩
set_option maxHeartbeats 2000000 in
theorem hasRoom_any (li by_ : Int) (A : Option Addr) (n cap : Nat) (se dr : Int) (L : List Pk) (p : Pk) (w : World) (hl : L.length = n) (hr : IRow w A (fl L)) (hn : n ≤ 1048576) (hz : SzOk L) (h60 : n ≤ 1000) (hp : 0 ≤ p.si ∧ p.si ≤ 1500) :
    Calls Try.prog 56 #[.agg #[.int .i64 li, .int .i64 by_, .slice A n cap, .int .i64 se, .int .i64 dr], .agg #[.int .i64 (p.id), .int .i64 (p.so), .int .i64 (p.de), .int .i64 (p.po), .int .i64 (p.ma), .int .i64 (p.si)]] w fun e w' => e = .returned (.bool (room li by_ L p)) ∧ Below w.heap.size w w' := by
  have hR := Lib.hid (show room li by_ L p = (decide ((n : Int) < li) && decide (szs L n + p.si ≤ by_)) by rw [room, hl])
  have hb := szs_b hz n (by omega)
  have HL := Lib.hid hl
  have HZ := Lib.hid hz
  have HRW := Lib.hid (fun (u : Gr ((w.alloc (.cells #[.int .i64 li, .int .i64 by_, .slice A n cap, .int .i64 se, .int .i64 dr] 30)).alloc (.cells #[.int .i64 p.id, .int .i64 p.so, .int .i64 p.de, .int .i64 p.po, .int .i64 p.ma, .int .i64 p.si] 35))) => (hr.below (ba (ba (b0 w) _) _)).below u.h)
  clear hl hr hz
  have B1 := Lib.hid (show Bk ((w.alloc (.cells #[.int .i64 li, .int .i64 by_, .slice A n cap, .int .i64 se, .int .i64 dr] 30)).alloc (.cells #[.int .i64 p.id, .int .i64 p.so, .int .i64 p.de, .int .i64 p.po, .int .i64 p.ma, .int .i64 p.si] 35)) w.heap.size 30 #[.int .i64 li, .int .i64 by_, .slice A n cap, .int .i64 se, .int .i64 dr] from (Bk.new w _ _).alloc _)
  have B2 := Lib.hid (show Bk ((w.alloc (.cells #[.int .i64 li, .int .i64 by_, .slice A n cap, .int .i64 se, .int .i64 dr] 30)).alloc (.cells #[.int .i64 p.id, .int .i64 p.so, .int .i64 p.de, .int .i64 p.po, .int .i64 p.ma, .int .i64 p.si] 35)) (w.heap.size + 1) 35 #[.int .i64 p.id, .int .i64 p.so, .int .i64 p.de, .int .i64 p.po, .int .i64 p.ma, .int .i64 p.si] from Bk.new_ (by simp))
  have q0 : ∀ u : Gr ((w.alloc (.cells #[.int .i64 li, .int .i64 by_, .slice A n cap, .int .i64 se, .int .i64 dr] 30)).alloc (.cells #[.int .i64 p.id, .int .i64 p.so, .int .i64 p.de, .int .i64 p.po, .int .i64 p.ma, .int .i64 p.si] 35)), u.v.cell? ⟨w.heap.size, 0, none⟩ = some (.int .i64 li) := gr_cell (B1.out.cell 0)
  have q1 : ∀ u : Gr ((w.alloc (.cells #[.int .i64 li, .int .i64 by_, .slice A n cap, .int .i64 se, .int .i64 dr] 30)).alloc (.cells #[.int .i64 p.id, .int .i64 p.so, .int .i64 p.de, .int .i64 p.po, .int .i64 p.ma, .int .i64 p.si] 35)), u.v.cell? ⟨w.heap.size, 1, none⟩ = some (.int .i64 by_) := gr_cell (B1.out.cell 1)
  have q2 : ∀ u : Gr ((w.alloc (.cells #[.int .i64 li, .int .i64 by_, .slice A n cap, .int .i64 se, .int .i64 dr] 30)).alloc (.cells #[.int .i64 p.id, .int .i64 p.so, .int .i64 p.de, .int .i64 p.po, .int .i64 p.ma, .int .i64 p.si] 35)), u.v.cell? ⟨w.heap.size, 2, none⟩ = some (.slice A n cap) := gr_cell (B1.out.cell 2)
  have q3 : ∀ u : Gr ((w.alloc (.cells #[.int .i64 li, .int .i64 by_, .slice A n cap, .int .i64 se, .int .i64 dr] 30)).alloc (.cells #[.int .i64 p.id, .int .i64 p.so, .int .i64 p.de, .int .i64 p.po, .int .i64 p.ma, .int .i64 p.si] 35)), u.v.cell? ⟨w.heap.size, 3, none⟩ = some (.int .i64 se) := gr_cell (B1.out.cell 3)
  have q4 : ∀ u : Gr ((w.alloc (.cells #[.int .i64 li, .int .i64 by_, .slice A n cap, .int .i64 se, .int .i64 dr] 30)).alloc (.cells #[.int .i64 p.id, .int .i64 p.so, .int .i64 p.de, .int .i64 p.po, .int .i64 p.ma, .int .i64 p.si] 35)), u.v.cell? ⟨w.heap.size, 4, none⟩ = some (.int .i64 dr) := gr_cell (B1.out.cell 4)
  have q5 : ∀ u : Gr ((w.alloc (.cells #[.int .i64 li, .int .i64 by_, .slice A n cap, .int .i64 se, .int .i64 dr] 30)).alloc (.cells #[.int .i64 p.id, .int .i64 p.so, .int .i64 p.de, .int .i64 p.po, .int .i64 p.ma, .int .i64 p.si] 35)), u.v.cell? ⟨w.heap.size + 1, 5, none⟩ = some (.int .i64 p.si) := gr_cell (B2.out.cell 5)
  by_cases h1 : (n : Int) < li
  rotate_left
  · have h1' : decide ((n : Int) < li) = false := decide_eq_false h1
    have hR2 := Lib.hid (show room li by_ L p = false by rw [hR.out, h1']; rfl)
    go_enter Try.func56, Try.ntmps56
    go_wp2_with fail
    refine wp_region_gr (by kernel_rfl) (by kernel_rfl) ?_
    repeat (go_big_quiet_step (fail))
    refine wpQuiet_nil ?_
    intro _ hw'
    obtain ⟨pq, hw''⟩ := hw'
    subst hw''
    go_wp2_with fail
    go_ret
    exact ⟨by rw [hR2.out]; rfl, bt (ba (ba (b0 w) _) _) pq.h⟩
  have h1' : decide ((n : Int) < li) = true := decide_eq_true h1
  have ws : IntKind.i64.wrap (szs L n + p.si) = szs L n + p.si := IntWalk.i64_in _ (by omega)
  rcases h2 : decide (szs L n + p.si ≤ by_) with _ | _
  all_goals
    have hR2 := Lib.hid (show room li by_ L p = _ by rw [hR.out, h1', h2])
    go_enter Try.func56, Try.ntmps56
    go_wp2_with fail
    refine wp_region_gr (by kernel_rfl) (by kernel_rfl) ?_
    repeat (go_big_quiet_step ((go_at_call 85; exact gr_of (sumSizes_any _ _ _ L _ HL.out (HRW.out _) (by omega) HZ.out))))
    refine wpQuiet_nil ?_
    intro _ hw'
    obtain ⟨pq, hw''⟩ := hw'
    subst hw''
    clear ws
    go_wp2_with fail
    go_ret
    exact ⟨by rw [hR2.out]; rfl, bt (ba (ba (b0 w) _) _) pq.h⟩
/-- Whether a packet may be put into a queue. -/
def askd (li by_ : Int) (L : List Pk) (se dr : Int) (p : Pk) : Bool := qok li by_ L se dr && p.ok && !hasK L L.length p.id
set_option maxHeartbeats 2000000 in
theorem quAsked_any (li by_ : Int) (A : Option Addr) (n cap : Nat) (se dr : Int) (L : List Pk) (p : Pk) (w : World) (hl : L.length = n) (hr : IRow w A (fl L)) (hn : n ≤ 1048576) (hcap : n ≤ cap) :
    Calls Try.prog 48 #[.agg #[.int .i64 li, .int .i64 by_, .slice A n cap, .int .i64 se, .int .i64 dr], .agg #[.int .i64 (p.id), .int .i64 (p.so), .int .i64 (p.de), .int .i64 (p.po), .int .i64 (p.ma), .int .i64 (p.si)]] w fun e w' => e = .returned (.bool (askd li by_ L se dr p)) ∧ Below w.heap.size w w' := by
  have HL := Lib.hid hl
  have HR := Lib.hid (fun (W : World) (hb : Below w.heap.size w W) => hr.below hb)
  have HA := Lib.hid (show askd li by_ L se dr p = (qok li by_ L se dr && p.ok && !hasK L n p.id) by rw [askd, hl])
  have HQ := Lib.hid (show decide (quI L p.id < 0) = !hasK L n p.id by have h := quI_neg (L := L) (id := p.id); rwa [hl] at h)
  clear hl hr
  rcases h1 : qok li by_ L se dr with _ | _
  · have hR := Lib.hid (show askd li by_ L se dr p = false by rw [HA.out, h1]; rfl)
    go_enter Try.func48, Try.ntmps48
    go_wp2_with (go_at_call 60; refine (quGood_b _ _ _ _ _ _ _ L _ HL.out (HR.out _ (ba (ba (b0 w) _) _)) (by omega) hcap h1).mono ?_; rintro e w1 ⟨rfl, hg⟩; have zhg := hg.size; (try simp at zhg); have c0hg := fun o => bkeep hg (w.heap.size) o (by first | omega | (simp; done) | (simp; omega)); have f0hg := fun o => bfree hg (w.heap.size) o (by first | omega | (simp; done) | (simp; omega)); have c1hg := fun o => bkeep hg (w.heap.size + 1) o (by first | omega | (simp; done) | (simp; omega)); have f1hg := fun o => bfree hg (w.heap.size + 1) o (by first | omega | (simp; done) | (simp; omega)))
    go_ret
    exact ⟨by rw [hR.out]; rfl, (by repeat (first | (with_reducible exact b0 _) | (with_reducible refine ba ?_ _) | (with_reducible refine bd ?_ _) | (with_reducible refine Below.drew ?_) | (with_reducible refine bs ?_ (by first | exact Nat.le_refl _ | exact Nat.le_add_right _ _ | omega) _) | (with_reducible refine bt ?_ (by assumption))))⟩
  rcases h2 : p.ok with _ | _
  · have hR := Lib.hid (show askd li by_ L se dr p = false by rw [HA.out, h1, h2]; rfl)
    go_enter Try.func48, Try.ntmps48
    go_wp2_with (first | (go_at_call 60; refine (quGood_b _ _ _ _ _ _ _ L _ HL.out (HR.out _ (ba (ba (b0 w) _) _)) (by omega) hcap h1).mono ?_; rintro e w1 ⟨rfl, hg⟩; have zhg := hg.size; (try simp at zhg); have c0hg := fun o => bkeep hg (w.heap.size) o (by first | omega | (simp; done) | (simp; omega)); have f0hg := fun o => bfree hg (w.heap.size) o (by first | omega | (simp; done) | (simp; omega)); have c1hg := fun o => bkeep hg (w.heap.size + 1) o (by first | omega | (simp; done) | (simp; omega)); have f1hg := fun o => bfree hg (w.heap.size + 1) o (by first | omega | (simp; done) | (simp; omega))) | (go_at_call 62; refine (pkGood_b h2 _).mono ?_; rintro e w2 ⟨rfl, hg2⟩; have zhg2 := hg2.size; (try simp at zhg2); have c0hg2 := fun o => bkeep hg2 (w.heap.size) o (by first | omega | (simp; done) | (simp; omega)); have f0hg2 := fun o => bfree hg2 (w.heap.size) o (by first | omega | (simp; done) | (simp; omega)); have c1hg2 := fun o => bkeep hg2 (w.heap.size + 1) o (by first | omega | (simp; done) | (simp; omega)); have f1hg2 := fun o => bfree hg2 (w.heap.size + 1) o (by first | omega | (simp; done) | (simp; omega))))
    go_ret
    exact ⟨by rw [hR.out]; rfl, (by repeat (first | (with_reducible exact b0 _) | (with_reducible refine ba ?_ _) | (with_reducible refine bd ?_ _) | (with_reducible refine Below.drew ?_) | (with_reducible refine bs ?_ (by first | exact Nat.le_refl _ | exact Nat.le_add_right _ _ | omega) _) | (with_reducible refine bt ?_ (by assumption))))⟩
  · have hR := Lib.hid (show askd li by_ L se dr p = !hasK L n p.id by rw [HA.out, h1, h2]; rfl)
    go_enter Try.func48, Try.ntmps48
    go_wp2_with (first | (go_at_call 60; refine (quGood_b _ _ _ _ _ _ _ L _ HL.out (HR.out _ (ba (ba (b0 w) _) _)) (by omega) hcap h1).mono ?_; rintro e w1 ⟨rfl, hg⟩; have zhg := hg.size; (try simp at zhg); have c0hg := fun o => bkeep hg (w.heap.size) o (by first | omega | (simp; done) | (simp; omega)); have f0hg := fun o => bfree hg (w.heap.size) o (by first | omega | (simp; done) | (simp; omega)); have c1hg := fun o => bkeep hg (w.heap.size + 1) o (by first | omega | (simp; done) | (simp; omega)); have f1hg := fun o => bfree hg (w.heap.size + 1) o (by first | omega | (simp; done) | (simp; omega))) | (go_at_call 62; refine (pkGood_b h2 _).mono ?_; rintro e w2 ⟨rfl, hg2⟩; have zhg2 := hg2.size; (try simp at zhg2); have c0hg2 := fun o => bkeep hg2 (w.heap.size) o (by first | omega | (simp; done) | (simp; omega)); have f0hg2 := fun o => bfree hg2 (w.heap.size) o (by first | omega | (simp; done) | (simp; omega)); have c1hg2 := fun o => bkeep hg2 (w.heap.size + 1) o (by first | omega | (simp; done) | (simp; omega)); have f1hg2 := fun o => bfree hg2 (w.heap.size + 1) o (by first | omega | (simp; done) | (simp; omega))) | (go_at_call 63; refine (quAt_any _ _ _ L _ _ HL.out (HR.out _ (bt (bt (ba (ba (b0 w) _) _) hg) hg2)) (by omega)).mono ?_; rintro e w3 ⟨rfl, hg3⟩))
    go_ret
    exact ⟨ret_b (by rw [hR.out, ← HQ.out]), (by repeat (first | (with_reducible exact b0 _) | (with_reducible refine ba ?_ _) | (with_reducible refine bd ?_ _) | (with_reducible refine Below.drew ?_) | (with_reducible refine bs ?_ (by first | exact Nat.le_refl _ | exact Nat.le_add_right _ _ | omega) _) | (with_reducible refine bt ?_ (by assumption))))⟩
set_option maxHeartbeats 2000000 in
theorem canPut_any (li by_ : Int) (A : Option Addr) (n cap : Nat) (se dr : Int) (L : List Pk) (p : Pk) (w : World) (hl : L.length = n) (hr : IRow w A (fl L)) (hn : n ≤ 1048576) (hcap : n ≤ cap) :
    Calls Try.prog 54 #[.agg #[.int .i64 li, .int .i64 by_, .slice A n cap, .int .i64 se, .int .i64 dr], .agg #[.int .i64 (p.id), .int .i64 (p.so), .int .i64 (p.de), .int .i64 (p.po), .int .i64 (p.ma), .int .i64 (p.si)]] w fun e w' => e = .returned (.bool (askd li by_ L se dr p)) ∧ Below w.heap.size w w' := by
  have HL := Lib.hid hl
  have HR := Lib.hid (fun (W : World) (hb : Below w.heap.size w W) => hr.below hb)
  have HA := Lib.hid (show askd li by_ L se dr p = (qok li by_ L se dr && p.ok && !hasK L n p.id) by rw [askd, hl])
  have HQ := Lib.hid (show decide (quI L p.id < 0) = !hasK L n p.id by have h := quI_neg (L := L) (id := p.id); rwa [hl] at h)
  clear hl hr
  rcases h1 : qok li by_ L se dr with _ | _
  · have hR := Lib.hid (show askd li by_ L se dr p = false by rw [HA.out, h1]; rfl)
    go_enter Try.func54, Try.ntmps54
    go_wp2_with (go_at_call 64; refine (isQueue_b _ _ _ _ _ _ _ L _ HL.out (HR.out _ (ba (ba (b0 w) _) _)) (by omega) hcap h1).mono ?_; rintro e w1 ⟨rfl, hg⟩; have zhg := hg.size; (try simp at zhg); have c0hg := fun o => bkeep hg (w.heap.size) o (by first | omega | (simp; done) | (simp; omega)); have f0hg := fun o => bfree hg (w.heap.size) o (by first | omega | (simp; done) | (simp; omega)); have c1hg := fun o => bkeep hg (w.heap.size + 1) o (by first | omega | (simp; done) | (simp; omega)); have f1hg := fun o => bfree hg (w.heap.size + 1) o (by first | omega | (simp; done) | (simp; omega)))
    go_ret
    exact ⟨by rw [hR.out]; rfl, (by repeat (first | (with_reducible exact b0 _) | (with_reducible refine ba ?_ _) | (with_reducible refine bd ?_ _) | (with_reducible refine Below.drew ?_) | (with_reducible refine bs ?_ (by first | exact Nat.le_refl _ | exact Nat.le_add_right _ _ | omega) _) | (with_reducible refine bt ?_ (by assumption))))⟩
  rcases h2 : p.ok with _ | _
  · have hR := Lib.hid (show askd li by_ L se dr p = false by rw [HA.out, h1, h2]; rfl)
    go_enter Try.func54, Try.ntmps54
    go_wp2_with (first | (go_at_call 64; refine (isQueue_b _ _ _ _ _ _ _ L _ HL.out (HR.out _ (ba (ba (b0 w) _) _)) (by omega) hcap h1).mono ?_; rintro e w1 ⟨rfl, hg⟩; have zhg := hg.size; (try simp at zhg); have c0hg := fun o => bkeep hg (w.heap.size) o (by first | omega | (simp; done) | (simp; omega)); have f0hg := fun o => bfree hg (w.heap.size) o (by first | omega | (simp; done) | (simp; omega)); have c1hg := fun o => bkeep hg (w.heap.size + 1) o (by first | omega | (simp; done) | (simp; omega)); have f1hg := fun o => bfree hg (w.heap.size + 1) o (by first | omega | (simp; done) | (simp; omega))) | (go_at_call 78; refine (isPacket_b h2 _).mono ?_; rintro e w2 ⟨rfl, hg2⟩; have zhg2 := hg2.size; (try simp at zhg2); have c0hg2 := fun o => bkeep hg2 (w.heap.size) o (by first | omega | (simp; done) | (simp; omega)); have f0hg2 := fun o => bfree hg2 (w.heap.size) o (by first | omega | (simp; done) | (simp; omega)); have c1hg2 := fun o => bkeep hg2 (w.heap.size + 1) o (by first | omega | (simp; done) | (simp; omega)); have f1hg2 := fun o => bfree hg2 (w.heap.size + 1) o (by first | omega | (simp; done) | (simp; omega))))
    go_ret
    exact ⟨by rw [hR.out]; rfl, (by repeat (first | (with_reducible exact b0 _) | (with_reducible refine ba ?_ _) | (with_reducible refine bd ?_ _) | (with_reducible refine Below.drew ?_) | (with_reducible refine bs ?_ (by first | exact Nat.le_refl _ | exact Nat.le_add_right _ _ | omega) _) | (with_reducible refine bt ?_ (by assumption))))⟩
  · have hR := Lib.hid (show askd li by_ L se dr p = !hasK L n p.id by rw [HA.out, h1, h2]; rfl)
    go_enter Try.func54, Try.ntmps54
    go_wp2_with (first | (go_at_call 64; refine (isQueue_b _ _ _ _ _ _ _ L _ HL.out (HR.out _ (ba (ba (b0 w) _) _)) (by omega) hcap h1).mono ?_; rintro e w1 ⟨rfl, hg⟩; have zhg := hg.size; (try simp at zhg); have c0hg := fun o => bkeep hg (w.heap.size) o (by first | omega | (simp; done) | (simp; omega)); have f0hg := fun o => bfree hg (w.heap.size) o (by first | omega | (simp; done) | (simp; omega)); have c1hg := fun o => bkeep hg (w.heap.size + 1) o (by first | omega | (simp; done) | (simp; omega)); have f1hg := fun o => bfree hg (w.heap.size + 1) o (by first | omega | (simp; done) | (simp; omega))) | (go_at_call 78; refine (isPacket_b h2 _).mono ?_; rintro e w2 ⟨rfl, hg2⟩; have zhg2 := hg2.size; (try simp at zhg2); have c0hg2 := fun o => bkeep hg2 (w.heap.size) o (by first | omega | (simp; done) | (simp; omega)); have f0hg2 := fun o => bfree hg2 (w.heap.size) o (by first | omega | (simp; done) | (simp; omega)); have c1hg2 := fun o => bkeep hg2 (w.heap.size + 1) o (by first | omega | (simp; done) | (simp; omega)); have f1hg2 := fun o => bfree hg2 (w.heap.size + 1) o (by first | omega | (simp; done) | (simp; omega))) | (go_at_call 93; refine (hasId_any _ _ _ L _ _ HL.out (HR.out _ (bt (bt (ba (ba (b0 w) _) _) hg) hg2)) (by omega)).mono ?_; rintro e w3 ⟨rfl, hg3⟩))
    go_ret
    exact ⟨ret_b (by rw [hR.out]), (by repeat (first | (with_reducible exact b0 _) | (with_reducible refine ba ?_ _) | (with_reducible refine bd ?_ _) | (with_reducible refine Below.drew ?_) | (with_reducible refine bs ?_ (by first | exact Nat.le_refl _ | exact Nat.le_add_right _ _ | omega) _) | (with_reducible refine bt ?_ (by assumption))))⟩
end Go.Proofs.Ytgdldmeeaejjpaa
