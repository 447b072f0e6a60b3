/- The contracts of the reference's RunQueue. -/
import Derived.Test.YtgdldmeeaejjpaaRqRel
import Derived.Test.YtgdldmeeaejjpaaQuBig
import Derived.Test.YtgdldmeeaejjpaaRemove
import Derived.Test.YtgdldmeeaejjpaaTakeHead
import Derived.Deep.RegionHeld3
import Derived.Deep.DeepCutAuto
namespace Go.Proofs.Ytgdldmeeaejjpaa
open Go.ChangeShapes Go.WideShapes Go.ChangeAt Go.RowKit
set_option linter.unusedVariables false

set_option maxHeartbeats 2000000 in
theorem specRq_bad (li by_ : Int) (A : Option Addr) (n cap : Nat) (se dr : Int) (L : List Pk) (B : Option Addr) (m capp : Nat) (P : List Pk) (t : Int) (w : World) (hl : L.length = n) (hr : IRow w A (fl L)) (hn : n ≤ 1048576) (hcap : n ≤ cap) (hA : A = none → cap = 0) (hl2 : P.length = m) (hr2 : IRow w B (fl P)) (hm : m ≤ 1048576) (hcapp : m ≤ capp) (hB : B = none → capp = 0) (h : (qok li by_ L se dr && decide (0 ≤ t ∧ t ≤ 5) && decide (m ≤ 60)) = false) :
    Calls Try.prog 24 #[.agg #[.int .i64 li, .int .i64 by_, .slice A n cap, .int .i64 se, .int .i64 dr], .slice B m capp, .int .i64 t] w (RqP w li by_ L se dr P t) := by
  have HPD := Lib.hid (RqP_no (w := w) (show rqOk li by_ L se dr P t = false from rqOk_no (by unfold rqG; rw [hl2, h, Bool.false_and])))
  have HL := Lib.hid hl
  have HR_a := Lib.hid hr
  have HH := Lib.hid h
  clear hl hr h hA hl2 hr2 hB
  rcases h1 : qok li by_ L se dr with _ | _
  · skip
    go_enter Try.func24, Try.ntmps24
    go_wp2_with fail
    refine (quGood_b _ _ _ _ _ _ _ L _ HL.out (HR_a.out.below (ba (ba (b0 w) _) _)) (by omega) hcap h1).mono ?_
    rintro e w1 ⟨rfl, hb1⟩
    have z1 := hb1.size
    (try simp at z1)
    have HK_q_1 : Hid (Bk w1 (w.heap.size) 30 #[.int .i64 li, .int .i64 by_, .slice A n cap, .int .i64 se, .int .i64 dr]) := Lib.hid (((Bk.new_ (by simp) : Bk _ (w.heap.size) 30 #[.int .i64 li, .int .i64 by_, .slice A n cap, .int .i64 se, .int .i64 dr]).alloc _).old hb1)
    have zb_q : w.heap.size < w1.heap.size := HK_q_1.out.lt
    have cb_q_0 : w1.cell? ⟨w.heap.size, 0, none⟩ = some (.int .i64 li) := HK_q_1.out.cell 0
    have cb_q_1 : w1.cell? ⟨w.heap.size, 1, none⟩ = some (.int .i64 by_) := HK_q_1.out.cell 1
    have cb_q_2 : w1.cell? ⟨w.heap.size, 2, none⟩ = some (.slice A n cap) := HK_q_1.out.cell 2
    have cb_q_3 : w1.cell? ⟨w.heap.size, 3, none⟩ = some (.int .i64 se) := HK_q_1.out.cell 3
    have cb_q_4 : w1.cell? ⟨w.heap.size, 4, none⟩ = some (.int .i64 dr) := HK_q_1.out.cell 4
    have HK_r_1 : Hid (Bk w1 (w.heap.size + 1) 30 #[.int .i64 0, .int .i64 0, .slice none 0 0, .int .i64 0, .int .i64 0]) := Lib.hid ((Bk.new_ (by simp) : Bk _ (w.heap.size + 1) 30 #[.int .i64 0, .int .i64 0, .slice none 0 0, .int .i64 0, .int .i64 0]).old hb1)
    have zb_r : w.heap.size + 1 < w1.heap.size := HK_r_1.out.lt
    have cb_r_0 : w1.cell? ⟨w.heap.size + 1, 0, none⟩ = some (.int .i64 0) := HK_r_1.out.cell 0
    have cb_r_1 : w1.cell? ⟨w.heap.size + 1, 1, none⟩ = some (.int .i64 0) := HK_r_1.out.cell 1
    have cb_r_2 : w1.cell? ⟨w.heap.size + 1, 2, none⟩ = some (.slice none 0 0) := HK_r_1.out.cell 2
    have cb_r_3 : w1.cell? ⟨w.heap.size + 1, 3, none⟩ = some (.int .i64 0) := HK_r_1.out.cell 3
    have cb_r_4 : w1.cell? ⟨w.heap.size + 1, 4, none⟩ = some (.int .i64 0) := HK_r_1.out.cell 4
    have HB_1 := Lib.hid (bt (ba (ba (b0 w) _) _) hb1)
    clear hb1
    have rf := HK_r_1.out.free
    go_wp2_with fail
    exact bodyPost_ret (v := .tuple #[.agg #[.int .i64 0, .int .i64 0, .slice none 0 0, .int .i64 0, .int .i64 0], .slice none 0 0, .slice none 0 0, .bool false]) (by simp [results, Try.results24, go_sem, cb_r_0, cb_r_1, cb_r_2, cb_r_3, cb_r_4]) rfl (by rw [HPD.out]; exact NewRQ.none_ rfl (by repeat (first | (with_reducible exact HB_1.out) | (with_reducible refine ba ?_ _) | (with_reducible refine bsB ?_ (by omega)) | (with_reducible refine bd ?_ _) | (with_reducible refine Below.drew ?_))))
  · rcases h2 : decide (0 ≤ t ∧ t ≤ 5) with _ | _
    · go_enter Try.func24, Try.ntmps24
      go_wp2_with fail
      refine (quGood_b _ _ _ _ _ _ _ L _ HL.out (HR_a.out.below (ba (ba (b0 w) _) _)) (by omega) hcap h1).mono ?_
      rintro e w1 ⟨rfl, hb1⟩
      have z1 := hb1.size
      (try simp at z1)
      have HK_q_1 : Hid (Bk w1 (w.heap.size) 30 #[.int .i64 li, .int .i64 by_, .slice A n cap, .int .i64 se, .int .i64 dr]) := Lib.hid (((Bk.new_ (by simp) : Bk _ (w.heap.size) 30 #[.int .i64 li, .int .i64 by_, .slice A n cap, .int .i64 se, .int .i64 dr]).alloc _).old hb1)
      have zb_q : w.heap.size < w1.heap.size := HK_q_1.out.lt
      have cb_q_0 : w1.cell? ⟨w.heap.size, 0, none⟩ = some (.int .i64 li) := HK_q_1.out.cell 0
      have cb_q_1 : w1.cell? ⟨w.heap.size, 1, none⟩ = some (.int .i64 by_) := HK_q_1.out.cell 1
      have cb_q_2 : w1.cell? ⟨w.heap.size, 2, none⟩ = some (.slice A n cap) := HK_q_1.out.cell 2
      have cb_q_3 : w1.cell? ⟨w.heap.size, 3, none⟩ = some (.int .i64 se) := HK_q_1.out.cell 3
      have cb_q_4 : w1.cell? ⟨w.heap.size, 4, none⟩ = some (.int .i64 dr) := HK_q_1.out.cell 4
      have HK_r_1 : Hid (Bk w1 (w.heap.size + 1) 30 #[.int .i64 0, .int .i64 0, .slice none 0 0, .int .i64 0, .int .i64 0]) := Lib.hid ((Bk.new_ (by simp) : Bk _ (w.heap.size + 1) 30 #[.int .i64 0, .int .i64 0, .slice none 0 0, .int .i64 0, .int .i64 0]).old hb1)
      have zb_r : w.heap.size + 1 < w1.heap.size := HK_r_1.out.lt
      have cb_r_0 : w1.cell? ⟨w.heap.size + 1, 0, none⟩ = some (.int .i64 0) := HK_r_1.out.cell 0
      have cb_r_1 : w1.cell? ⟨w.heap.size + 1, 1, none⟩ = some (.int .i64 0) := HK_r_1.out.cell 1
      have cb_r_2 : w1.cell? ⟨w.heap.size + 1, 2, none⟩ = some (.slice none 0 0) := HK_r_1.out.cell 2
      have cb_r_3 : w1.cell? ⟨w.heap.size + 1, 3, none⟩ = some (.int .i64 0) := HK_r_1.out.cell 3
      have cb_r_4 : w1.cell? ⟨w.heap.size + 1, 4, none⟩ = some (.int .i64 0) := HK_r_1.out.cell 4
      have HB_1 := Lib.hid (bt (ba (ba (b0 w) _) _) hb1)
      clear hb1
      have rf := HK_r_1.out.free
      go_wp2_with (go_at_call 61; (with_reducible refine (l1In_b h2 _).mono ?_); rintro e w' ⟨rfl, rfl⟩)
      exact bodyPost_ret (v := .tuple #[.agg #[.int .i64 0, .int .i64 0, .slice none 0 0, .int .i64 0, .int .i64 0], .slice none 0 0, .slice none 0 0, .bool false]) (by simp [results, Try.results24, go_sem, cb_r_0, cb_r_1, cb_r_2, cb_r_3, cb_r_4]) rfl (by rw [HPD.out]; exact NewRQ.none_ rfl (by repeat (first | (with_reducible exact HB_1.out) | (with_reducible refine ba ?_ _) | (with_reducible refine bsB ?_ (by omega)) | (with_reducible refine bd ?_ _) | (with_reducible refine Below.drew ?_))))

    have h3 : ¬ m ≤ 60 := of_decide_eq_false (by have h := HH.out; rw [h1, h2] at h; exact h)
    have h4 : (60 : Int) < (m : Int) := by omega
    have h5 : decide ((60 : Int) < (m : Int)) = true := decide_eq_true h4
    go_enter Try.func24, Try.ntmps24
    go_wp2_with fail
    refine (quGood_b _ _ _ _ _ _ _ L _ HL.out (HR_a.out.below (ba (ba (b0 w) _) _)) (by omega) hcap h1).mono ?_
    rintro e w1 ⟨rfl, hb1⟩
    have z1 := hb1.size
    (try simp at z1)
    have HK_q_1 : Hid (Bk w1 (w.heap.size) 30 #[.int .i64 li, .int .i64 by_, .slice A n cap, .int .i64 se, .int .i64 dr]) := Lib.hid (((Bk.new_ (by simp) : Bk _ (w.heap.size) 30 #[.int .i64 li, .int .i64 by_, .slice A n cap, .int .i64 se, .int .i64 dr]).alloc _).old hb1)
    have zb_q : w.heap.size < w1.heap.size := HK_q_1.out.lt
    have cb_q_0 : w1.cell? ⟨w.heap.size, 0, none⟩ = some (.int .i64 li) := HK_q_1.out.cell 0
    have cb_q_1 : w1.cell? ⟨w.heap.size, 1, none⟩ = some (.int .i64 by_) := HK_q_1.out.cell 1
    have cb_q_2 : w1.cell? ⟨w.heap.size, 2, none⟩ = some (.slice A n cap) := HK_q_1.out.cell 2
    have cb_q_3 : w1.cell? ⟨w.heap.size, 3, none⟩ = some (.int .i64 se) := HK_q_1.out.cell 3
    have cb_q_4 : w1.cell? ⟨w.heap.size, 4, none⟩ = some (.int .i64 dr) := HK_q_1.out.cell 4
    have HK_r_1 : Hid (Bk w1 (w.heap.size + 1) 30 #[.int .i64 0, .int .i64 0, .slice none 0 0, .int .i64 0, .int .i64 0]) := Lib.hid ((Bk.new_ (by simp) : Bk _ (w.heap.size + 1) 30 #[.int .i64 0, .int .i64 0, .slice none 0 0, .int .i64 0, .int .i64 0]).old hb1)
    have zb_r : w.heap.size + 1 < w1.heap.size := HK_r_1.out.lt
    have cb_r_0 : w1.cell? ⟨w.heap.size + 1, 0, none⟩ = some (.int .i64 0) := HK_r_1.out.cell 0
    have cb_r_1 : w1.cell? ⟨w.heap.size + 1, 1, none⟩ = some (.int .i64 0) := HK_r_1.out.cell 1
    have cb_r_2 : w1.cell? ⟨w.heap.size + 1, 2, none⟩ = some (.slice none 0 0) := HK_r_1.out.cell 2
    have cb_r_3 : w1.cell? ⟨w.heap.size + 1, 3, none⟩ = some (.int .i64 0) := HK_r_1.out.cell 3
    have cb_r_4 : w1.cell? ⟨w.heap.size + 1, 4, none⟩ = some (.int .i64 0) := HK_r_1.out.cell 4
    have HB_1 := Lib.hid (bt (ba (ba (b0 w) _) _) hb1)
    clear hb1
    have rf := HK_r_1.out.free
    go_wp2_with (go_at_call 61; (with_reducible refine (l1In_b h2 _).mono ?_); rintro e w' ⟨rfl, rfl⟩)
    exact bodyPost_ret (v := .tuple #[.agg #[.int .i64 0, .int .i64 0, .slice none 0 0, .int .i64 0, .int .i64 0], .slice none 0 0, .slice none 0 0, .bool false]) (by simp [results, Try.results24, go_sem, cb_r_0, cb_r_1, cb_r_2, cb_r_3, cb_r_4]) rfl (by rw [HPD.out]; exact NewRQ.none_ rfl (by repeat (first | (with_reducible exact HB_1.out) | (with_reducible refine ba ?_ _) | (with_reducible refine bsB ?_ (by omega)) | (with_reducible refine bd ?_ _) | (with_reducible refine Below.drew ?_))))
set_option maxRecDepth 100000 in
set_option maxHeartbeats 8000000 in
theorem specRq_main (tt : Nat) (li by_ : Int) (A : Option Addr) (n cap : Nat) (se dr : Int) (L : List Pk) (B : Option Addr) (m capp : Nat) (P : List Pk) (w : World) (hl : L.length = n) (hr : IRow w A (fl L)) (hn : n ≤ 1048576) (hcap : n ≤ cap) (hA : A = none → cap = 0) (hl2 : P.length = m) (hr2 : IRow w B (fl P)) (hm : m ≤ 60) (ht : tt ≤ 5) (h1 : qok li by_ L se dr = true) :
    Calls Try.prog 24 #[.agg #[.int .i64 li, .int .i64 by_, .slice A n cap, .int .i64 se, .int .i64 dr], .slice B m capp, .int .i64 (tt : Int)] w (RqP w li by_ L se dr P (tt : Int)) := by
  have h2 : decide (0 ≤ (tt : Int) ∧ (tt : Int) ≤ 5) = true := decide_eq_true (by omega)
  have g1 : ¬ (60 : Int) < (m : Int) := by omega
  have g2 : decide ((60 : Int) < (m : Int)) = false := decide_eq_false g1
  have HL := Lib.hid hl
  have HLP := Lib.hid hl2
  have HR_a := Lib.hid hr
  have HR_p := Lib.hid hr2
  have HA := Lib.hid hA
  have g0 := qok_iff.1 h1
  have HBAD := Lib.hid (fun (k : Nat) (hk : k < P.length) (h : rqI L P k = false) => show rqOk li by_ L se dr P (tt : Int) = false from rqOk_no (by unfold rqG; rw [apart_rqI g0.2.2.2.2.2.1, allB_no hk h, Bool.and_false]))
  have HBD := Lib.hid (fun (k : Nat) (x : Rq) (hk : k ≤ m) (hx : x = rqRun li by_ tt ⟨L, se, dr, [], []⟩ P k) => rqRun_n (li := li) (by_ := by_) (L := L) (P := P) (t := tt) (k := k) g0.2.2.2.1 g0.2.2.2.2.1 ht (by omega) (by omega) hx)
  have HQ := Lib.hid h1
  have HAL := Lib.hid g0.2.2.2.2.2.1
  have n60 : n ≤ 60 := by omega
  clear hl hr hA hl2 hr2 g0
  go_enter Try.func24, Try.ntmps24
  go_wp2_with fail
  refine (quGood_b _ _ _ _ _ _ _ L _ HL.out (HR_a.out.below (ba (ba (b0 w) _) _)) (by omega) hcap HQ.out).mono ?_
  rintro e w1 ⟨rfl, hb1⟩
  have z1 := hb1.size
  (try simp at z1)
  have HK_q_1 : Hid (Bk w1 (w.heap.size) 30 #[.int .i64 li, .int .i64 by_, .slice A n cap, .int .i64 se, .int .i64 dr]) := Lib.hid (((Bk.new_ (by simp) : Bk _ (w.heap.size) 30 #[.int .i64 li, .int .i64 by_, .slice A n cap, .int .i64 se, .int .i64 dr]).alloc _).old hb1)
  have zb_q : w.heap.size < w1.heap.size := HK_q_1.out.lt
  have cb_q_0 : w1.cell? ⟨w.heap.size, 0, none⟩ = some (.int .i64 li) := HK_q_1.out.cell 0
  have cb_q_1 : w1.cell? ⟨w.heap.size, 1, none⟩ = some (.int .i64 by_) := HK_q_1.out.cell 1
  have cb_q_2 : w1.cell? ⟨w.heap.size, 2, none⟩ = some (.slice A n cap) := HK_q_1.out.cell 2
  have cb_q_3 : w1.cell? ⟨w.heap.size, 3, none⟩ = some (.int .i64 se) := HK_q_1.out.cell 3
  have cb_q_4 : w1.cell? ⟨w.heap.size, 4, none⟩ = some (.int .i64 dr) := HK_q_1.out.cell 4
  have HK_r_1 : Hid (Bk w1 (w.heap.size + 1) 30 #[.int .i64 0, .int .i64 0, .slice none 0 0, .int .i64 0, .int .i64 0]) := Lib.hid ((Bk.new_ (by simp) : Bk _ (w.heap.size + 1) 30 #[.int .i64 0, .int .i64 0, .slice none 0 0, .int .i64 0, .int .i64 0]).old hb1)
  have zb_r : w.heap.size + 1 < w1.heap.size := HK_r_1.out.lt
  have cb_r_0 : w1.cell? ⟨w.heap.size + 1, 0, none⟩ = some (.int .i64 0) := HK_r_1.out.cell 0
  have cb_r_1 : w1.cell? ⟨w.heap.size + 1, 1, none⟩ = some (.int .i64 0) := HK_r_1.out.cell 1
  have cb_r_2 : w1.cell? ⟨w.heap.size + 1, 2, none⟩ = some (.slice none 0 0) := HK_r_1.out.cell 2
  have cb_r_3 : w1.cell? ⟨w.heap.size + 1, 3, none⟩ = some (.int .i64 0) := HK_r_1.out.cell 3
  have cb_r_4 : w1.cell? ⟨w.heap.size + 1, 4, none⟩ = some (.int .i64 0) := HK_r_1.out.cell 4
  have HB_1 := Lib.hid (bt (ba (ba (b0 w) _) _) hb1)
  clear hb1
  go_wp2_with (go_at_call 61; (with_reducible refine (l1In_b h2 _).mono ?_); rintro e w' ⟨rfl, rfl⟩)
  go_loopw [37] (fun i wr => ∃ k : Nat, k ≤ m ∧ i = .int .i64 k ∧ (∀ j, j < k → rqI L P j = true) ∧ Below w1.heap.size w1 wr) (fun i _ => m - (intOf i).toNat)
  case atStart => exact ⟨0, Nat.zero_le _, rfl, fun j hj => by omega, Go.Proofs.Ytgdldmeeaejjpaa.b0 _⟩
  case round =>
    obtain ⟨k, hk, rfl, hall, hb2⟩ := hrel
    obtain ⟨w2, hw2⟩ : ∃ x, x = wr := ⟨_, rfl⟩
    subst hw2
    have HA2 := Lib.hid hall
    have HL2 := Lib.hid hb2
    clear hall
    have z2 := hb2.size
    (try simp at z2)
    have HK_q_2 : Hid (Bk w2 (w.heap.size) 30 #[.int .i64 li, .int .i64 by_, .slice A n cap, .int .i64 se, .int .i64 dr]) := Lib.hid (HK_q_1.out.old hb2)
    clear HK_q_1
    clear cb_q_0 cb_q_1 cb_q_2 cb_q_3 cb_q_4 zb_q
    have zb_q : w.heap.size < w2.heap.size := HK_q_2.out.lt
    have cb_q_0 : w2.cell? ⟨w.heap.size, 0, none⟩ = some (.int .i64 li) := HK_q_2.out.cell 0
    have cb_q_1 : w2.cell? ⟨w.heap.size, 1, none⟩ = some (.int .i64 by_) := HK_q_2.out.cell 1
    have cb_q_2 : w2.cell? ⟨w.heap.size, 2, none⟩ = some (.slice A n cap) := HK_q_2.out.cell 2
    have cb_q_3 : w2.cell? ⟨w.heap.size, 3, none⟩ = some (.int .i64 se) := HK_q_2.out.cell 3
    have cb_q_4 : w2.cell? ⟨w.heap.size, 4, none⟩ = some (.int .i64 dr) := HK_q_2.out.cell 4
    have HK_r_2 : Hid (Bk w2 (w.heap.size + 1) 30 #[.int .i64 0, .int .i64 0, .slice none 0 0, .int .i64 0, .int .i64 0]) := Lib.hid (HK_r_1.out.old hb2)
    clear HK_r_1
    clear cb_r_0 cb_r_1 cb_r_2 cb_r_3 cb_r_4 zb_r
    have zb_r : w.heap.size + 1 < w2.heap.size := HK_r_2.out.lt
    have cb_r_0 : w2.cell? ⟨w.heap.size + 1, 0, none⟩ = some (.int .i64 0) := HK_r_2.out.cell 0
    have cb_r_1 : w2.cell? ⟨w.heap.size + 1, 1, none⟩ = some (.int .i64 0) := HK_r_2.out.cell 1
    have cb_r_2 : w2.cell? ⟨w.heap.size + 1, 2, none⟩ = some (.slice none 0 0) := HK_r_2.out.cell 2
    have cb_r_3 : w2.cell? ⟨w.heap.size + 1, 3, none⟩ = some (.int .i64 0) := HK_r_2.out.cell 3
    have cb_r_4 : w2.cell? ⟨w.heap.size + 1, 4, none⟩ = some (.int .i64 0) := HK_r_2.out.cell 4
    have HB_2 := Lib.hid (bt HB_1.out hb2)
    clear hb2
    by_cases hlt : k < m
    · obtain ⟨g, off, x, rfl, hg, hpk, c0, c1, c2, c3, c4, c5⟩ := pk_at (HR_p.out.below HB_2.out) (k := k) (by have := HLP.out; omega)
      have hkP : k < P.length := by have := HLP.out; omega
      have HI := Lib.hid (show rqI L P k = (x.ok && !hasK P k x.id && !hasK L L.length x.id) from by simp [rqI, pat_of hpk])
      have HS := Lib.hid (show (quI P x.id = (k : Int)) ↔ hasK P k x.id = false from by have h := quI_self (L := P) (i := k) hkP; rwa [pat_of hpk] at h)
      clear hpk
      rcases hp : x.ok with _ | _
      · have HPD := Lib.hid (RqP_no (w := w) (HBAD.out k hkP (by rw [HI.out, hp]; rfl)))
        go_wp2_with fail
        refine (pkGood_b hp _).mono ?_
        rintro e w3 ⟨rfl, hb3⟩
        have HB3 := Lib.hid (bt (ba HB_2.out _) hb3)
        have HR3 := Lib.hid ((HK_r_2.out.alloc _).old hb3)
        have HQ3 := Lib.hid ((HK_q_2.out.alloc _).old hb3)
        have HX3 := Lib.hid (show Bk w3 w2.heap.size 35 #[.int .i64 x.id, .int .i64 x.so, .int .i64 x.de, .int .i64 x.po, .int .i64 x.ma, .int .i64 x.si] from (Bk.new_ rfl).old hb3)
        clear hb3 cb_r_0 cb_r_1 cb_r_2 cb_r_3 cb_r_4 cb_q_0 cb_q_1 cb_q_2 cb_q_3 cb_q_4 c0 c1 c2 c3 c4 c5
        have r : Bk w3 (w.heap.size + 1) 30 #[.int .i64 0, .int .i64 0, .slice none 0 0, .int .i64 0, .int .i64 0] := HR3.out
        have zr : w.heap.size + 1 < w3.heap.size := r.lt
        have r_0 : w3.cell? ⟨w.heap.size + 1, 0, none⟩ = some (.int .i64 0) := r.cell 0
        have r_1 : w3.cell? ⟨w.heap.size + 1, 1, none⟩ = some (.int .i64 0) := r.cell 1
        have r_2 : w3.cell? ⟨w.heap.size + 1, 2, none⟩ = some (.slice none 0 0) := r.cell 2
        have r_3 : w3.cell? ⟨w.heap.size + 1, 3, none⟩ = some (.int .i64 0) := r.cell 3
        have r_4 : w3.cell? ⟨w.heap.size + 1, 4, none⟩ = some (.int .i64 0) := r.cell 4
        have rf := r.free
        have Hr := Lib.hid r
        clear r
        go_wp2_with fail
        exact bodyPost_ret (v := .tuple #[.agg #[.int .i64 0, .int .i64 0, .slice none 0 0, .int .i64 0, .int .i64 0], .slice none 0 0, .slice none 0 0, .bool false]) (by simp [results, Try.results24, go_sem, r_0, r_1, r_2, r_3, r_4]) rfl (by rw [HPD.out]; exact NewRQ.none_ rfl (by repeat (first | (with_reducible exact HB3.out) | (with_reducible refine ba ?_ _) | (with_reducible refine bsB ?_ (by omega)) | (with_reducible refine bd ?_ _) | (with_reducible refine Below.drew ?_))))
      rcases hh : hasK P k x.id with _ | _
      rotate_left
      · have HPD := Lib.hid (RqP_no (w := w) (HBAD.out k hkP (by rw [HI.out, hp, hh]; rfl)))
        obtain ⟨v, hv⟩ : ∃ v, quI P x.id = v := ⟨_, rfl⟩
        have hne : (v != (k : Int)) = true := by rw [bne_iff_ne]; intro h; rw [HS.out.1 (hv.trans h)] at hh; cases hh
        go_wp2_with fail
        refine (pkGood_b hp _).mono ?_
        rintro e w3 ⟨rfl, hb3⟩
        have HB3 := Lib.hid (bt (ba HB_2.out _) hb3)
        have HR3 := Lib.hid ((HK_r_2.out.alloc _).old hb3)
        have HQ3 := Lib.hid ((HK_q_2.out.alloc _).old hb3)
        have HX3 := Lib.hid (show Bk w3 w2.heap.size 35 #[.int .i64 x.id, .int .i64 x.so, .int .i64 x.de, .int .i64 x.po, .int .i64 x.ma, .int .i64 x.si] from (Bk.new_ rfl).old hb3)
        clear hb3 cb_r_0 cb_r_1 cb_r_2 cb_r_3 cb_r_4 cb_q_0 cb_q_1 cb_q_2 cb_q_3 cb_q_4 c0 c1 c2 c3 c4 c5
        have b : Bk w3 (w2.heap.size) 35 #[.int .i64 x.id, .int .i64 x.so, .int .i64 x.de, .int .i64 x.po, .int .i64 x.ma, .int .i64 x.si] := HX3.out
        have zb : w2.heap.size < w3.heap.size := b.lt
        have b_0 : w3.cell? ⟨w2.heap.size, 0, none⟩ = some (.int .i64 x.id) := b.cell 0
        have b_1 : w3.cell? ⟨w2.heap.size, 1, none⟩ = some (.int .i64 x.so) := b.cell 1
        have b_2 : w3.cell? ⟨w2.heap.size, 2, none⟩ = some (.int .i64 x.de) := b.cell 2
        have b_3 : w3.cell? ⟨w2.heap.size, 3, none⟩ = some (.int .i64 x.po) := b.cell 3
        have b_4 : w3.cell? ⟨w2.heap.size, 4, none⟩ = some (.int .i64 x.ma) := b.cell 4
        have b_5 : w3.cell? ⟨w2.heap.size, 5, none⟩ = some (.int .i64 x.si) := b.cell 5
        have bf := b.free
        have Hb := Lib.hid b
        clear b
        go_wp2_with fail
        refine (quAt_v _ _ _ P _ _ HLP.out (HR_p.out.below HB3.out) (by omega) hv).mono ?_
        rintro e w4 ⟨rfl, hb4⟩
        have HB4 := Lib.hid (bt HB3.out hb4)
        have HR4 := Lib.hid (HR3.out.old hb4)
        have HQ4 := Lib.hid (HQ3.out.old hb4)
        have HX4 := Lib.hid (HX3.out.old hb4)
        clear hb4 b_0 b_1 b_2 b_3 b_4 b_5 bf zb
        have r : Bk w4 (w.heap.size + 1) 30 #[.int .i64 0, .int .i64 0, .slice none 0 0, .int .i64 0, .int .i64 0] := HR4.out
        have zr : w.heap.size + 1 < w4.heap.size := r.lt
        have r_0 : w4.cell? ⟨w.heap.size + 1, 0, none⟩ = some (.int .i64 0) := r.cell 0
        have r_1 : w4.cell? ⟨w.heap.size + 1, 1, none⟩ = some (.int .i64 0) := r.cell 1
        have r_2 : w4.cell? ⟨w.heap.size + 1, 2, none⟩ = some (.slice none 0 0) := r.cell 2
        have r_3 : w4.cell? ⟨w.heap.size + 1, 3, none⟩ = some (.int .i64 0) := r.cell 3
        have r_4 : w4.cell? ⟨w.heap.size + 1, 4, none⟩ = some (.int .i64 0) := r.cell 4
        have rf := r.free
        have Hr := Lib.hid r
        clear r
        go_wp2_with fail
        exact bodyPost_ret (v := .tuple #[.agg #[.int .i64 0, .int .i64 0, .slice none 0 0, .int .i64 0, .int .i64 0], .slice none 0 0, .slice none 0 0, .bool false]) (by simp [results, Try.results24, go_sem, r_0, r_1, r_2, r_3, r_4]) rfl (by rw [HPD.out]; exact NewRQ.none_ rfl (by repeat (first | (with_reducible exact HB4.out) | (with_reducible refine ba ?_ _) | (with_reducible refine bsB ?_ (by omega)) | (with_reducible refine bd ?_ _) | (with_reducible refine Below.drew ?_))))
      have hv := HS.out.2 hh
      obtain ⟨u, hu⟩ : ∃ u, quI L x.id = u := ⟨_, rfl⟩
      have hneg := quI_neg (L := L) (id := x.id)
      rw [hu] at hneg
      rcases hh2 : hasK L L.length x.id with _ | _
      rotate_left
      · have HPD := Lib.hid (RqP_no (w := w) (HBAD.out k hkP (by rw [HI.out, hp, hh, hh2]; rfl)))
        have hge : 0 ≤ u := by rw [hh2] at hneg; have := of_decide_eq_false hneg; omega
        have hge2 : decide (0 ≤ u) = true := decide_eq_true hge
        go_wp2_with fail
        refine (pkGood_b hp _).mono ?_
        rintro e w3 ⟨rfl, hb3⟩
        have HB3 := Lib.hid (bt (ba HB_2.out _) hb3)
        have HR3 := Lib.hid ((HK_r_2.out.alloc _).old hb3)
        have HQ3 := Lib.hid ((HK_q_2.out.alloc _).old hb3)
        have HX3 := Lib.hid (show Bk w3 w2.heap.size 35 #[.int .i64 x.id, .int .i64 x.so, .int .i64 x.de, .int .i64 x.po, .int .i64 x.ma, .int .i64 x.si] from (Bk.new_ rfl).old hb3)
        clear hb3 cb_r_0 cb_r_1 cb_r_2 cb_r_3 cb_r_4 cb_q_0 cb_q_1 cb_q_2 cb_q_3 cb_q_4 c0 c1 c2 c3 c4 c5
        have b : Bk w3 (w2.heap.size) 35 #[.int .i64 x.id, .int .i64 x.so, .int .i64 x.de, .int .i64 x.po, .int .i64 x.ma, .int .i64 x.si] := HX3.out
        have zb : w2.heap.size < w3.heap.size := b.lt
        have b_0 : w3.cell? ⟨w2.heap.size, 0, none⟩ = some (.int .i64 x.id) := b.cell 0
        have b_1 : w3.cell? ⟨w2.heap.size, 1, none⟩ = some (.int .i64 x.so) := b.cell 1
        have b_2 : w3.cell? ⟨w2.heap.size, 2, none⟩ = some (.int .i64 x.de) := b.cell 2
        have b_3 : w3.cell? ⟨w2.heap.size, 3, none⟩ = some (.int .i64 x.po) := b.cell 3
        have b_4 : w3.cell? ⟨w2.heap.size, 4, none⟩ = some (.int .i64 x.ma) := b.cell 4
        have b_5 : w3.cell? ⟨w2.heap.size, 5, none⟩ = some (.int .i64 x.si) := b.cell 5
        have bf := b.free
        have Hb := Lib.hid b
        clear b
        go_wp2_with fail
        refine (quAt_v _ _ _ P _ _ HLP.out (HR_p.out.below HB3.out) (by omega) hv).mono ?_
        rintro e w4 ⟨rfl, hb4⟩
        have HB4 := Lib.hid (bt HB3.out hb4)
        have HR4 := Lib.hid (HR3.out.old hb4)
        have HQ4 := Lib.hid (HQ3.out.old hb4)
        have HX4 := Lib.hid (HX3.out.old hb4)
        clear hb4 b_0 b_1 b_2 b_3 b_4 b_5 bf zb
        have b : Bk w4 (w2.heap.size) 35 #[.int .i64 x.id, .int .i64 x.so, .int .i64 x.de, .int .i64 x.po, .int .i64 x.ma, .int .i64 x.si] := HX4.out
        have zb : w2.heap.size < w4.heap.size := b.lt
        have b_0 : w4.cell? ⟨w2.heap.size, 0, none⟩ = some (.int .i64 x.id) := b.cell 0
        have b_1 : w4.cell? ⟨w2.heap.size, 1, none⟩ = some (.int .i64 x.so) := b.cell 1
        have b_2 : w4.cell? ⟨w2.heap.size, 2, none⟩ = some (.int .i64 x.de) := b.cell 2
        have b_3 : w4.cell? ⟨w2.heap.size, 3, none⟩ = some (.int .i64 x.po) := b.cell 3
        have b_4 : w4.cell? ⟨w2.heap.size, 4, none⟩ = some (.int .i64 x.ma) := b.cell 4
        have b_5 : w4.cell? ⟨w2.heap.size, 5, none⟩ = some (.int .i64 x.si) := b.cell 5
        have bf := b.free
        have Hb := Lib.hid b
        clear b
        have q : Bk w4 (w.heap.size) 30 #[.int .i64 li, .int .i64 by_, .slice A n cap, .int .i64 se, .int .i64 dr] := HQ4.out
        have zq : w.heap.size < w4.heap.size := q.lt
        have q_0 : w4.cell? ⟨w.heap.size, 0, none⟩ = some (.int .i64 li) := q.cell 0
        have q_1 : w4.cell? ⟨w.heap.size, 1, none⟩ = some (.int .i64 by_) := q.cell 1
        have q_2 : w4.cell? ⟨w.heap.size, 2, none⟩ = some (.slice A n cap) := q.cell 2
        have q_3 : w4.cell? ⟨w.heap.size, 3, none⟩ = some (.int .i64 se) := q.cell 3
        have q_4 : w4.cell? ⟨w.heap.size, 4, none⟩ = some (.int .i64 dr) := q.cell 4
        have qf := q.free
        have Hq := Lib.hid q
        clear q
        go_wp2_with fail
        refine (quAt_v _ _ _ L _ _ HL.out (HR_a.out.below HB4.out) (by omega) hu).mono ?_
        rintro e w5 ⟨rfl, hb5⟩
        have HB5 := Lib.hid (bt HB4.out hb5)
        have HR5 := Lib.hid (HR4.out.old hb5)
        clear b_0 b_1 b_2 b_3 b_4 b_5 bf zb q_0 q_1 q_2 q_3 q_4 qf
        clear hb5
        have r : Bk w5 (w.heap.size + 1) 30 #[.int .i64 0, .int .i64 0, .slice none 0 0, .int .i64 0, .int .i64 0] := HR5.out
        have zr : w.heap.size + 1 < w5.heap.size := r.lt
        have r_0 : w5.cell? ⟨w.heap.size + 1, 0, none⟩ = some (.int .i64 0) := r.cell 0
        have r_1 : w5.cell? ⟨w.heap.size + 1, 1, none⟩ = some (.int .i64 0) := r.cell 1
        have r_2 : w5.cell? ⟨w.heap.size + 1, 2, none⟩ = some (.slice none 0 0) := r.cell 2
        have r_3 : w5.cell? ⟨w.heap.size + 1, 3, none⟩ = some (.int .i64 0) := r.cell 3
        have r_4 : w5.cell? ⟨w.heap.size + 1, 4, none⟩ = some (.int .i64 0) := r.cell 4
        have rf := r.free
        have Hr := Lib.hid r
        clear r
        go_wp2_with fail
        exact bodyPost_ret (v := .tuple #[.agg #[.int .i64 0, .int .i64 0, .slice none 0 0, .int .i64 0, .int .i64 0], .slice none 0 0, .slice none 0 0, .bool false]) (by simp [results, Try.results24, go_sem, r_0, r_1, r_2, r_3, r_4]) rfl (by rw [HPD.out]; exact NewRQ.none_ rfl (by repeat (first | (with_reducible exact HB5.out) | (with_reducible refine ba ?_ _) | (with_reducible refine bsB ?_ (by omega)) | (with_reducible refine bd ?_ _) | (with_reducible refine Below.drew ?_))))
      have hge : ¬ 0 ≤ u := by rw [hh2] at hneg; have := of_decide_eq_true hneg; omega
      have hge2 : decide (0 ≤ u) = false := decide_eq_false hge
      have HNX := Lib.hid (all_succ HA2.out (by rw [HI.out, hp, hh, hh2]; rfl))
      go_wp2_with fail
      refine (pkGood_b hp _).mono ?_
      rintro e w3 ⟨rfl, hb3⟩
      have HB3 := Lib.hid (bt (ba HB_2.out _) hb3)
      have HR3 := Lib.hid ((HK_r_2.out.alloc _).old hb3)
      have HQ3 := Lib.hid ((HK_q_2.out.alloc _).old hb3)
      have HX3 := Lib.hid (show Bk w3 w2.heap.size 35 #[.int .i64 x.id, .int .i64 x.so, .int .i64 x.de, .int .i64 x.po, .int .i64 x.ma, .int .i64 x.si] from (Bk.new_ rfl).old hb3)
      have HW3 := Lib.hid hb3
      clear hb3 cb_r_0 cb_r_1 cb_r_2 cb_r_3 cb_r_4 cb_q_0 cb_q_1 cb_q_2 cb_q_3 cb_q_4 c0 c1 c2 c3 c4 c5
      have b : Bk w3 (w2.heap.size) 35 #[.int .i64 x.id, .int .i64 x.so, .int .i64 x.de, .int .i64 x.po, .int .i64 x.ma, .int .i64 x.si] := HX3.out
      have zb : w2.heap.size < w3.heap.size := b.lt
      have b_0 : w3.cell? ⟨w2.heap.size, 0, none⟩ = some (.int .i64 x.id) := b.cell 0
      have b_1 : w3.cell? ⟨w2.heap.size, 1, none⟩ = some (.int .i64 x.so) := b.cell 1
      have b_2 : w3.cell? ⟨w2.heap.size, 2, none⟩ = some (.int .i64 x.de) := b.cell 2
      have b_3 : w3.cell? ⟨w2.heap.size, 3, none⟩ = some (.int .i64 x.po) := b.cell 3
      have b_4 : w3.cell? ⟨w2.heap.size, 4, none⟩ = some (.int .i64 x.ma) := b.cell 4
      have b_5 : w3.cell? ⟨w2.heap.size, 5, none⟩ = some (.int .i64 x.si) := b.cell 5
      have bf := b.free
      have Hb := Lib.hid b
      clear b
      go_wp2_with fail
      refine (quAt_v _ _ _ P _ _ HLP.out (HR_p.out.below HB3.out) (by omega) hv).mono ?_
      rintro e w4 ⟨rfl, hb4⟩
      have HB4 := Lib.hid (bt HB3.out hb4)
      have HW4 := Lib.hid (bt (bt (ba HL2.out _) HW3.out) hb4)
      have HR4 := Lib.hid (HR3.out.old hb4)
      have HQ4 := Lib.hid (HQ3.out.old hb4)
      have HX4 := Lib.hid (HX3.out.old hb4)
      clear hb4 b_0 b_1 b_2 b_3 b_4 b_5 bf zb
      have b : Bk w4 (w2.heap.size) 35 #[.int .i64 x.id, .int .i64 x.so, .int .i64 x.de, .int .i64 x.po, .int .i64 x.ma, .int .i64 x.si] := HX4.out
      have zb : w2.heap.size < w4.heap.size := b.lt
      have b_0 : w4.cell? ⟨w2.heap.size, 0, none⟩ = some (.int .i64 x.id) := b.cell 0
      have b_1 : w4.cell? ⟨w2.heap.size, 1, none⟩ = some (.int .i64 x.so) := b.cell 1
      have b_2 : w4.cell? ⟨w2.heap.size, 2, none⟩ = some (.int .i64 x.de) := b.cell 2
      have b_3 : w4.cell? ⟨w2.heap.size, 3, none⟩ = some (.int .i64 x.po) := b.cell 3
      have b_4 : w4.cell? ⟨w2.heap.size, 4, none⟩ = some (.int .i64 x.ma) := b.cell 4
      have b_5 : w4.cell? ⟨w2.heap.size, 5, none⟩ = some (.int .i64 x.si) := b.cell 5
      have bf := b.free
      have Hb := Lib.hid b
      clear b
      have q : Bk w4 (w.heap.size) 30 #[.int .i64 li, .int .i64 by_, .slice A n cap, .int .i64 se, .int .i64 dr] := HQ4.out
      have zq : w.heap.size < w4.heap.size := q.lt
      have q_0 : w4.cell? ⟨w.heap.size, 0, none⟩ = some (.int .i64 li) := q.cell 0
      have q_1 : w4.cell? ⟨w.heap.size, 1, none⟩ = some (.int .i64 by_) := q.cell 1
      have q_2 : w4.cell? ⟨w.heap.size, 2, none⟩ = some (.slice A n cap) := q.cell 2
      have q_3 : w4.cell? ⟨w.heap.size, 3, none⟩ = some (.int .i64 se) := q.cell 3
      have q_4 : w4.cell? ⟨w.heap.size, 4, none⟩ = some (.int .i64 dr) := q.cell 4
      have qf := q.free
      have Hq := Lib.hid q
      clear q
      go_wp2_with fail
      refine (quAt_v _ _ _ L _ _ HL.out (HR_a.out.below HB4.out) (by omega) hu).mono ?_
      rintro e w5 ⟨rfl, hb5⟩
      have HB5 := Lib.hid (bt HB4.out hb5)
      have HR5 := Lib.hid (HR4.out.old hb5)
      clear b_0 b_1 b_2 b_3 b_4 b_5 bf zb q_0 q_1 q_2 q_3 q_4 qf
      have HW5 := Lib.hid (bt HW4.out hb5)
      clear hb5
      go_wp2_with fail
      go_roundw
      case rel => exact ⟨k + 1, by omega, by go_num, HNX.out, HW5.out⟩
      case measure => simp [intOf]; omega
    obtain rfl : m = k := by omega
    have HAP := Lib.hid (show apart (L ++ P) = true from by rw [apart_rqI HAL.out]; exact allB_yes (by rw [HLP.out]; exact HA2.out))
    have R0 := Lib.hid (show RqS w.heap.size w2.heap.size w2 L [] [] A cap none 0 0 none 0 0 w2.heap.size w2.heap.size w2.heap.size w2.heap.size from ⟨HR_a.out.below HB_2.out, OutB.old HR_a.out (by omega), OutB.old HR_a.out (by omega), OutB.old HR_a.out (Nat.le_refl _), HA.out, by have := HL.out; omega, IOwn.none_ _ _ _ _ _, IOwn.none_ _ _ _ _ _, by omega, .inl (Nat.le_refl _)⟩)
    have z2w : w.heap.size + 1 < w2.heap.size := by omega
    go_wp2_with fail
    clear HA2 HL2 HBAD cb_r_0 cb_r_1 cb_r_2 cb_r_3 cb_r_4 cb_q_0 cb_q_1 cb_q_2 cb_q_3 cb_q_4
    go_loopw [65, 12, 13] (fun z v12 v13 wr => ∃ (k : Nat) (x : Rq) (X : Option Addr) (xn xc : Nat) (TA : Option Addr) (tn tc : Nat) (DA : Option Addr) (dn dc tl th dl dh : Nat), k ≤ m ∧ z = .int .i64 k ∧ v12 = .slice TA tn tc ∧ v13 = .slice DA dn dc ∧ x = rqRun li by_ tt ⟨L, se, dr, [], []⟩ P k ∧ x.L.length = xn ∧ RqI li by_ L P k x.L ∧ RqS w.heap.size w2.heap.size wr x.L x.T x.D X xc TA tn tc DA dn dc tl th dl dh ∧ Bk wr w.heap.size 30 #[.int .i64 li, .int .i64 by_, .slice X xn xc, .int .i64 x.se, .int .i64 x.dr] ∧ Bk wr (w.heap.size + 1) 30 #[.int .i64 0, .int .i64 0, .slice none 0 0, .int .i64 0, .int .i64 0] ∧ Below w.heap.size w wr) (fun z _ _ _ => m - (intOf z).toNat)
    case atStart => exact ⟨0, ⟨L, se, dr, [], []⟩, A, n, cap, none, 0, 0, none, 0, 0, w2.heap.size, w2.heap.size, w2.heap.size, w2.heap.size, Nat.zero_le _, rfl, rfl, rfl, (rqRun_zero _ _ _ _ _).symm, HL.out, RqI.zero HQ.out, R0.out, HK_q_2.out, HK_r_2.out, HB_2.out⟩
    case round =>
      obtain ⟨k, x, X, xn, xc, TA, tn, tc, DA, dn, dc, tl, th, dl, dh, hk, rfl, rfl, rfl, hx, hxn, hri, hrs, hqb, hrb, hbw⟩ := hrel
      obtain ⟨w3, hw3⟩ : ∃ y, y = wr := ⟨_, rfl⟩
      subst hw3
      have HBX := Lib.hid (HBD.out k x hk hx)
      obtain ⟨⟨s1, s2⟩, ⟨d1, d2⟩, t1, u1⟩ := HBD.out k x hk hx
      have htn : x.T.length = tn := by have := hrs.t.len; omega
      have hdn : x.D.length = dn := by have := hrs.d.len; omega
      have hx60 : xn ≤ 60 := by have := hri.len; omega
      obtain ⟨r1, r2, r3, r4, r5, r6⟩ := hrs.r
      have rs := hrs.s
      have HX := Lib.hid hx
      have HXN := Lib.hid hxn
      have HRI := Lib.hid hri
      have HRS := Lib.hid hrs
      have HQB := Lib.hid hqb
      have HRB := Lib.hid hrb
      have HBW := Lib.hid hbw
      have zw3 := hbw.size
      clear hx hxn hri hrs hqb hrb hbw HK_q_2 HK_r_2
      have q : Bk w3 (w.heap.size) 30 #[.int .i64 li, .int .i64 by_, .slice X xn xc, .int .i64 x.se, .int .i64 x.dr] := HQB.out
      have zq : w.heap.size < w3.heap.size := q.lt
      have q_0 : w3.cell? ⟨w.heap.size, 0, none⟩ = some (.int .i64 li) := q.cell 0
      have q_1 : w3.cell? ⟨w.heap.size, 1, none⟩ = some (.int .i64 by_) := q.cell 1
      have q_2 : w3.cell? ⟨w.heap.size, 2, none⟩ = some (.slice X xn xc) := q.cell 2
      have q_3 : w3.cell? ⟨w.heap.size, 3, none⟩ = some (.int .i64 x.se) := q.cell 3
      have q_4 : w3.cell? ⟨w.heap.size, 4, none⟩ = some (.int .i64 x.dr) := q.cell 4
      have qf := q.free
      have Hq := Lib.hid q
      clear q
      by_cases hlt : k < m
      · obtain ⟨g, off, p, rfl, hg, hpk, f0, f1, f2, f3, f4, f5⟩ := pk_at (HR_p.out.below HBW.out) (k := k) (by have := HLP.out; omega)
        have HP := Lib.hid hpk
        have hpo := (HRI.out.next HAP.out hpk).1
        have ps : 0 ≤ p.si ∧ p.si ≤ 1500 := by have := Pk.ok_iff.1 hpo; omega
        have HRU := Lib.hid (rqRun_succ (li := li) (by_ := by_) (t := tt) (x := ⟨L, se, dr, [], []⟩) hpk)
        clear hpk hpo
        rcases hro : room li by_ x.L p with _ | _
        · have HY := Lib.hid (rqPut_no (x := x) hro)
          have HRY := Lib.hid (show RqI li by_ L P (k + 1) (rqPut li by_ x p).L from by rw [HY.out]; exact HRI.out.more)
          have zn : 0 ≤ x.se ∧ x.se ≤ 3000000 := by omega
          have zd : 0 ≤ x.dr ∧ x.dr ≤ 3000000 := by omega
          go_wp2_with fail
          refine (quPutB_no _ _ _ _ _ _ _ x.L p _ HXN.out (HRS.out.l.below (ba (Go.Proofs.Ytgdldmeeaejjpaa.b0 w3) _)) HRS.out.l0 (by omega) HRI.out.sz ps zn zd hro).mono ?_
          rintro e w4 ⟨A4, c4, rfl, ho4, hb4⟩
          have z4 := hb4.size
          simp at z4
          have HRS4 := Lib.hid ((HRS.out.alloc _).newL hb4 ho4 (Nat.le_refl _))
          have HQ4 := Lib.hid ((HQB.out.alloc _).old hb4)
          have HR4 := Lib.hid ((HRB.out.alloc _).old hb4)
          have HB4 := Lib.hid (bt (ba HBW.out _) hb4)
          have hy4 : Bk w4 w3.heap.size 35 #[.int .i64 p.id, .int .i64 p.so, .int .i64 p.de, .int .i64 p.po, .int .i64 p.ma, .int .i64 p.si] := (Bk.new_ rfl).old hb4
          clear hb4 ho4 q_0 q_1 q_2 q_3 q_4 qf f0 f1 f2 f3 f4 f5 hro zq
          have q : Bk w4 (w.heap.size) 30 #[.int .i64 li, .int .i64 by_, .slice X xn xc, .int .i64 x.se, .int .i64 x.dr] := HQ4.out
          have zq : w.heap.size < w4.heap.size := q.lt
          have q_0 : w4.cell? ⟨w.heap.size, 0, none⟩ = some (.int .i64 li) := q.cell 0
          have q_1 : w4.cell? ⟨w.heap.size, 1, none⟩ = some (.int .i64 by_) := q.cell 1
          have q_2 : w4.cell? ⟨w.heap.size, 2, none⟩ = some (.slice X xn xc) := q.cell 2
          have q_3 : w4.cell? ⟨w.heap.size, 3, none⟩ = some (.int .i64 x.se) := q.cell 3
          have q_4 : w4.cell? ⟨w.heap.size, 4, none⟩ = some (.int .i64 x.dr) := q.cell 4
          have qf := q.free
          have Hq := Lib.hid q
          clear q
          have y : Bk w4 (w3.heap.size) 35 #[.int .i64 p.id, .int .i64 p.so, .int .i64 p.de, .int .i64 p.po, .int .i64 p.ma, .int .i64 p.si] := hy4
          have zy : w3.heap.size < w4.heap.size := y.lt
          have y_0 : w4.cell? ⟨w3.heap.size, 0, none⟩ = some (.int .i64 p.id) := y.cell 0
          have y_1 : w4.cell? ⟨w3.heap.size, 1, none⟩ = some (.int .i64 p.so) := y.cell 1
          have y_2 : w4.cell? ⟨w3.heap.size, 2, none⟩ = some (.int .i64 p.de) := y.cell 2
          have y_3 : w4.cell? ⟨w3.heap.size, 3, none⟩ = some (.int .i64 p.po) := y.cell 3
          have y_4 : w4.cell? ⟨w3.heap.size, 4, none⟩ = some (.int .i64 p.ma) := y.cell 4
          have y_5 : w4.cell? ⟨w3.heap.size, 5, none⟩ = some (.int .i64 p.si) := y.cell 5
          have yf := y.free
          have Hy := Lib.hid y
          clear y
          clear hy4
          go_wp2_with (at_builtin; refine append_intD rfl _ _ rfl (lo := dl) (hh := dh) (l := x.D) rfl (RqS.d (b0 := w.heap.size) (s0 := w2.heap.size) (L := x.L) (T := x.T) (A := A4) (cap := c4) (TA := TA) (tn := tn) (tc := tc) (tl := tl) (th := th) (by repeat' (first | (with_reducible exact HRS4.out) | (with_reducible refine RqS.alloc ?_ _) | (with_reducible refine RqS.drew ?_) | (with_reducible refine RqS.farC ?_ ?_ ?_) | omega | (simp; omega)))) (w4.heap.size + 1) p.id rfl ((Bk.new_ (by simp)).cell 0) (by omega) (by simp; omega) ?_; intro DA5 dc5 w5 dl5 dh5 hlh ho5 hc5)
          have HRS5 := Lib.hid (RqS.addD (b0 := w.heap.size) (s0 := w2.heap.size) (L := x.L) (T := x.T) (D := x.D) (A := A4) (cap := c4) (TA := TA) (tn := tn) (tc := tc) (DA := DA) (dn := dn) (dc := dc) (tl := tl) (th := th) (by repeat' (first | (with_reducible exact HRS4.out) | (with_reducible refine RqS.alloc ?_ _) | (with_reducible refine RqS.drew ?_) | (with_reducible refine RqS.farC ?_ ?_ ?_) | omega | (simp; omega))) ho5 hc5 hlh)
          have HQ5 := Lib.hid (show Bk w5 w.heap.size 30 #[.int .i64 li, .int .i64 by_, .slice A4 xn c4, .int .i64 x.se, .int .i64 (x.dr + 1)] from Bk.chg (by repeat' (first | (with_reducible exact HQ4.out) | (with_reducible apply Bk.setx) | (with_reducible refine Bk.farB ?_ (by omega)) | (with_reducible refine Bk.alloc ?_ _) | (with_reducible refine Bk.drew ?_) | rfl)) hc5 (by omega))
          have HR5 := Lib.hid (show Bk w5 (w.heap.size + 1) 30 #[.int .i64 0, .int .i64 0, .slice none 0 0, .int .i64 0, .int .i64 0] from Bk.chg (by repeat' (first | (with_reducible exact HR4.out) | (with_reducible apply Bk.setx) | (with_reducible refine Bk.farB ?_ (by omega)) | (with_reducible refine Bk.alloc ?_ _) | (with_reducible refine Bk.drew ?_) | rfl)) hc5 (by omega))
          have HB5 := Lib.hid (show Below w.heap.size w w5 from Chg.below (by repeat (first | (with_reducible exact HB4.out) | (with_reducible refine ba ?_ _) | (with_reducible refine bsB ?_ (by omega)) | (with_reducible refine bd ?_ _) | (with_reducible refine Below.drew ?_))) hc5 (by omega))
          have z5 := hc5.size
          simp at z5 hlh
          clear ho5 hc5 y_0 y_1 y_2 y_3 y_4 y_5 yf
          clear q_0 q_1 q_2 q_3 q_4 qf
          go_loopw [18, 12] (fun z v12 wr => ∃ (j : Nat) (X : Option Addr) (xn xc : Nat) (TA : Option Addr) (tn tc tl th : Nat), j ≤ tt ∧ j ≤ (rqPut li by_ x p).L.length ∧ z = .int .i64 j ∧ v12 = .slice TA tn tc ∧ (rqTake (rqPut li by_ x p) j).L.length = xn ∧ RqS w.heap.size w2.heap.size wr (rqTake (rqPut li by_ x p) j).L (rqTake (rqPut li by_ x p) j).T (rqTake (rqPut li by_ x p) j).D X xc TA tn tc DA5 (dn + 1) dc5 tl th dl5 dh5 ∧ Bk wr w.heap.size 30 #[.int .i64 li, .int .i64 by_, .slice X xn xc, .int .i64 (rqTake (rqPut li by_ x p) j).se, .int .i64 (rqTake (rqPut li by_ x p) j).dr] ∧ Bk wr (w.heap.size + 1) 30 #[.int .i64 0, .int .i64 0, .slice none 0 0, .int .i64 0, .int .i64 0] ∧ Below w.heap.size w wr) (fun z _ _ => tt - (intOf z).toNat)
          case atStart => exact ⟨0, A4, xn, c4, TA, tn, tc, tl, th, Nat.zero_le _, Nat.zero_le _, rfl, rfl, by rw [rqTake_zero, HY.out]; have := HXN.out; simp; try omega, by simp only [rqTake_zero, HY.out]; exact HRS5.out, by simp only [rqTake_zero, HY.out]; exact HQ5.out, HR5.out, HB5.out⟩
          case round =>
            obtain ⟨j, X6, n6, c6, TA6, tn6, tc6, tl6, th6, hj, hjl, rfl, rfl, hn6, hrs6, hqb6, hrb6, hbw6⟩ := hrel
            obtain ⟨w6, hw6⟩ : ∃ y, y = wr := ⟨_, rfl⟩
            subst hw6
            obtain ⟨z6, hz6⟩ : ∃ z, z = rqTake (rqPut li by_ x p) j := ⟨_, rfl⟩
            rw [← hz6] at hn6 hrs6 hqb6
            obtain ⟨⟨e1, e2⟩, ⟨e3, e4⟩, e5, e6⟩ := rqPut_n HBX.out (by omega) hz6
            have htn6 : z6.T.length = tn6 := by have := hrs6.t.len; omega
            obtain ⟨o1, o2, o3, o4, o5, o6⟩ := hrs6.r
            have os6 := hrs6.s
            have hzL : z6.L.length = (rqPut li by_ x p).L.length - j := by rw [hz6]; simp [rqTake]
            have hRI6 : RqI li by_ L P (k + 1) z6.L := by rw [hz6]; exact HRY.out.drop j
            have n660 : n6 ≤ 60 := by have := hRI6.len; omega
            have zw6 := hbw6.size
            have HRI6 := Lib.hid hRI6
            have HZ6 := Lib.hid hz6
            have HN6 := Lib.hid hn6
            have HRS6 := Lib.hid hrs6
            have HQ6 := Lib.hid hqb6
            have HR6 := Lib.hid hrb6
            have HB6 := Lib.hid hbw6
            clear hz6 hrs6 hqb6 hrb6 hbw6 hRI6
            have q : Bk w6 (w.heap.size) 30 #[.int .i64 li, .int .i64 by_, .slice X6 n6 c6, .int .i64 z6.se, .int .i64 z6.dr] := HQ6.out
            have zq : w.heap.size < w6.heap.size := q.lt
            have q_0 : w6.cell? ⟨w.heap.size, 0, none⟩ = some (.int .i64 li) := q.cell 0
            have q_1 : w6.cell? ⟨w.heap.size, 1, none⟩ = some (.int .i64 by_) := q.cell 1
            have q_2 : w6.cell? ⟨w.heap.size, 2, none⟩ = some (.slice X6 n6 c6) := q.cell 2
            have q_3 : w6.cell? ⟨w.heap.size, 3, none⟩ = some (.int .i64 z6.se) := q.cell 3
            have q_4 : w6.cell? ⟨w.heap.size, 4, none⟩ = some (.int .i64 z6.dr) := q.cell 4
            have qf := q.free
            have Hq := Lib.hid q
            clear q
            by_cases hjt : j < tt
            rotate_left
            · have HMIN := Lib.hid (show min tt (rqPut li by_ x p).L.length = j from by omega)
              have hji : ¬ (j : Int) < (tt : Int) := by omega
              go_wp2_with fail
              go_roundw
              case rel => exact ⟨k + 1, z6, X6, n6, c6, TA6, tn6, tc6, DA5, (dn + 1), dc5, tl6, th6, dl5, dh5, by omega, by go_num, rfl, rfl, by rw [HRU.out, ← HX.out]; unfold rqStep; rw [HMIN.out]; exact HZ6.out, HN6.out, HRI6.out, HRS6.out, HQ6.out, HR6.out, HB6.out⟩
              case measure => simp [intOf]; omega
            rcases hz : z6.L with _ | ⟨p0, Tl⟩
            · have HMIN := Lib.hid (show min tt (rqPut li by_ x p).L.length = j from by rw [hz] at hzL; simp at hzL; omega)
              obtain rfl : n6 = 0 := by rw [hz] at hn6; simpa using hn6.symm
              have hji : (j : Int) < (tt : Int) := by omega
              go_wp2_with fail
              go_roundw
              case rel => exact ⟨k + 1, z6, X6, 0, c6, TA6, tn6, tc6, DA5, (dn + 1), dc5, tl6, th6, dl5, dh5, by omega, by go_num, rfl, rfl, by rw [HRU.out, ← HX.out]; unfold rqStep; rw [HMIN.out]; exact HZ6.out, HN6.out, HRI6.out, HRS6.out, HQ6.out, HR6.out, HB6.out⟩
              case measure => simp [intOf]; omega
            obtain rfl : n6 = Tl.length + 1 := by rw [hz] at hn6; simpa using hn6.symm
            obtain ⟨g6, off6, q0, hX6, hg6, hpk6, e0, -, -, -, -, -⟩ := pk_at HRS6.out.l (k := 0) (by rw [hz]; simp)
            subst hX6
            obtain rfl : p0 = q0 := by rw [hz] at hpk6; simpa using hpk6
            simp only [Nat.zero_mul, Nat.add_zero] at e0
            have HS6 := Lib.hid (show rqTake (rqPut li by_ x p) (j + 1) = ⟨Tl, z6.se + 1, z6.dr, z6.T ++ [p0.id], z6.D⟩ from by have h := HZ6.out; subst h; exact rqTake_succ hz)
            have hc6 : Tl.length + 1 ≤ c6 := by have h := HRS6.out.lc; rw [hz] at h; simpa using h
            obtain ⟨A1, hA1⟩ : ∃ A1, (if c6 = 1 then some (⟨g6, off6, none⟩ : Addr) else some ⟨g6, off6 + 6, none⟩) = some A1 := by split <;> exact ⟨_, rfl⟩
            have HA1 := Lib.hid hA1
            have HZL := Lib.hid hz
            have hji : (j : Int) < (tt : Int) := by omega
            have hjL : j < (rqPut li by_ x p).L.length := by rw [hz] at hzL; simp at hzL; omega
            have hlen0 : (0 : Int) < (Tl.length : Int) + 1 := by omega
            clear hpk6 hz hzL hn6 hA1
            go_wp2_with (at_builtin; refine append_intD rfl _ _ rfl (lo := tl6) (hh := th6) (l := z6.T) rfl (HRS6.out.alloc _).t w6.heap.size p0.id rfl ((Bk.new_ rfl).cell 0) (by omega) (by simp; omega) ?_; intro TA7 tc7 w7 tl7 th7 hlh ho7 hc7; have HRS7 := Lib.hid (RqS.addT (HRS6.out.alloc _) ho7 hc7 hlh); have hq7 := (HQ6.out.alloc _).chg hc7 (by omega); have HQ7 := Lib.hid hq7; have HR7 := Lib.hid ((HR6.out.alloc _).chg hc7 (by omega)); have HB7 := Lib.hid (Chg.below (ba HB6.out _) hc7 (by omega)); have z7 := hc7.size; simp at z7 hlh; have y0 := hq7.cell 0; have y1 := hq7.cell 1; have y2 := hq7.cell 2; have y3 := hq7.cell 3; have y4 := hq7.cell 4; simp at y0 y1 y2 y3 y4; have yf := hq7.free; have yz := hq7.lt; clear ho7 hc7 hq7 q_0 q_1 q_2 q_3 q_4 qf zq)
            have HRT := Lib.hid (fun (W : World) (hb : Below w7.heap.size w7 W) => show IRow W (some A1) (fl Tl) from by have h := row_from HRS7.out.l 1 (cap := c6) HRS7.out.lc rfl; simp only [HZL.out, Nat.one_mul, List.drop_succ_cons, List.drop_zero] at h; rw [HA1.out] at h; exact h.below hb)
            have hA1 := HA1.out
            have k1 : (1 : Int) ≤ (Tl.length : Int) + 1 := by omega
            have k2 : (1 : Int) ≤ (c6 : Int) := by omega
            have k3 : (Tl.length : Int) + 1 ≤ (c6 : Int) := by omega
            have zs : 0 ≤ z6.se ∧ z6.se ≤ 4000000 := by omega
            have zd : 0 ≤ z6.dr ∧ z6.dr ≤ 4000000 := by omega
            have yq : w.heap.size < w7.heap.size := by omega
            go_region_with (go_at_call 49; refine (quWithB_any _ _ _ _ _ _ _ _ _ _ Tl _ _ _ rfl (HRT.out _ (by repeat (first | (with_reducible exact b0 _) | (with_reducible refine ba ?_ _) | (with_reducible refine bd ?_ _) | (with_reducible refine Below.drew ?_) | (with_reducible refine bsB ?_ (by first | exact Nat.le_refl _ | exact Nat.le_add_right _ _ | omega)) | (with_reducible refine bt ?_ (by assumption))))) (fun e => by cases e) (by omega) zs zd (by omega) (by omega)).mono ?_; rintro e w8 ⟨A8, c8, rfl, ho8, hb8⟩; rw [Int.add_zero]; have r8 := fun o => bkeep hb8 w.heap.size o (by first | omega | (simp; done) | (simp; omega)); have rf8 := fun o => bfree hb8 w.heap.size o (by first | omega | (simp; done) | (simp; omega)))
            all_goals
              have HRS8 := Lib.hid (RqS.newL (b0 := w.heap.size) (s0 := w2.heap.size) (L := z6.L) (T := z6.T ++ [p0.id]) (D := z6.D) (A := some ⟨g6, off6, none⟩) (cap := c6) (TA := TA7) (tn := tn6 + 1) (tc := tc7) (DA := DA5) (dn := (dn + 1)) (dc := dc5) (tl := tl7) (th := th7) (dl := dl5) (dh := dh5) (by repeat' (first | (with_reducible exact HRS7.out) | (with_reducible refine RqS.alloc ?_ _) | (with_reducible refine RqS.drew ?_) | (with_reducible refine RqS.farC ?_ ?_ ?_) | omega | (simp; omega))) hb8 ho8 (Nat.le_refl _))
              have HQ8 := Lib.hid (show Bk w8 w.heap.size 30 #[.int .i64 li, .int .i64 by_, .slice (some ⟨g6, off6, none⟩) (Tl.length + 1) c6, .int .i64 z6.se, .int .i64 z6.dr] from Bk.old (by repeat' (first | (with_reducible exact HQ7.out) | (with_reducible apply Bk.setx) | (with_reducible refine Bk.farB ?_ (by omega)) | (with_reducible refine Bk.alloc ?_ _) | (with_reducible refine Bk.drew ?_) | rfl)) hb8)
              have HR8 := Lib.hid (show Bk w8 (w.heap.size + 1) 30 #[.int .i64 0, .int .i64 0, .slice none 0 0, .int .i64 0, .int .i64 0] from Bk.old (by repeat' (first | (with_reducible exact HR7.out) | (with_reducible apply Bk.setx) | (with_reducible refine Bk.farB ?_ (by omega)) | (with_reducible refine Bk.alloc ?_ _) | (with_reducible refine Bk.drew ?_) | rfl)) hb8)
              have HB8 := Lib.hid (show Below w.heap.size w w8 from bt (by repeat (first | (with_reducible exact HB7.out) | (with_reducible refine ba ?_ _) | (with_reducible refine bsB ?_ (by omega)) | (with_reducible refine bd ?_ _) | (with_reducible refine Below.drew ?_))) hb8)
              go_wp2_with fail
              go_roundw
              case rel => exact ⟨j + 1, A8, Tl.length, c8, TA7, tn6 + 1, tc7, tl7, th7, by omega, by omega, by go_num, rfl, by rw [HS6.out], by rw [HS6.out]; exact (by repeat' (first | (with_reducible exact HRS8.out) | (with_reducible refine RqS.alloc ?_ _) | (with_reducible refine RqS.drew ?_) | (with_reducible refine RqS.farC ?_ ?_ ?_) | omega | (simp; omega))), by rw [HS6.out]; exact (by repeat' (first | (with_reducible exact HQ8.out) | (with_reducible apply Bk.setx) | (with_reducible refine Bk.farB ?_ (by omega)) | (with_reducible refine Bk.alloc ?_ _) | (with_reducible refine Bk.drew ?_) | rfl)), (by repeat' (first | (with_reducible exact HR8.out) | (with_reducible apply Bk.setx) | (with_reducible refine Bk.farB ?_ (by omega)) | (with_reducible refine Bk.alloc ?_ _) | (with_reducible refine Bk.drew ?_) | rfl)), (by repeat (first | (with_reducible exact HB8.out) | (with_reducible refine ba ?_ _) | (with_reducible refine bsB ?_ (by omega)) | (with_reducible refine bd ?_ _) | (with_reducible refine Below.drew ?_)))⟩
              case measure => simp [intOf]; omega
        · have HY := Lib.hid (rqPut_yes (x := x) hro)
          have HRY := Lib.hid (show RqI li by_ L P (k + 1) (rqPut li by_ x p).L from by rw [HY.out]; exact HRI.out.put HAP.out HP.out hro)
          have zn : 0 ≤ x.se ∧ x.se ≤ 3000000 := by omega
          have zd : 0 ≤ x.dr ∧ x.dr ≤ 3000000 := by omega
          go_wp2_with fail
          refine (quPutB_yes _ _ _ _ _ _ _ x.L p _ HXN.out (HRS.out.l.below (ba (Go.Proofs.Ytgdldmeeaejjpaa.b0 w3) _)) HRS.out.l0 (by omega) HRI.out.sz ps zn zd hro).mono ?_
          rintro e w4 ⟨A4, c4, rfl, ho4, hb4⟩
          have z4 := hb4.size
          simp at z4
          have HRS4 := Lib.hid ((HRS.out.alloc _).newL hb4 ho4 (Nat.le_refl _))
          have HQ4 := Lib.hid ((HQB.out.alloc _).old hb4)
          have HR4 := Lib.hid ((HRB.out.alloc _).old hb4)
          have HB4 := Lib.hid (bt (ba HBW.out _) hb4)
          have hy4 : Bk w4 w3.heap.size 35 #[.int .i64 p.id, .int .i64 p.so, .int .i64 p.de, .int .i64 p.po, .int .i64 p.ma, .int .i64 p.si] := (Bk.new_ rfl).old hb4
          clear hb4 ho4 q_0 q_1 q_2 q_3 q_4 qf f0 f1 f2 f3 f4 f5 hro zq
          have q : Bk w4 (w.heap.size) 30 #[.int .i64 li, .int .i64 by_, .slice X xn xc, .int .i64 x.se, .int .i64 x.dr] := HQ4.out
          have zq : w.heap.size < w4.heap.size := q.lt
          have q_0 : w4.cell? ⟨w.heap.size, 0, none⟩ = some (.int .i64 li) := q.cell 0
          have q_1 : w4.cell? ⟨w.heap.size, 1, none⟩ = some (.int .i64 by_) := q.cell 1
          have q_2 : w4.cell? ⟨w.heap.size, 2, none⟩ = some (.slice X xn xc) := q.cell 2
          have q_3 : w4.cell? ⟨w.heap.size, 3, none⟩ = some (.int .i64 x.se) := q.cell 3
          have q_4 : w4.cell? ⟨w.heap.size, 4, none⟩ = some (.int .i64 x.dr) := q.cell 4
          have qf := q.free
          have Hq := Lib.hid q
          clear q
          clear hy4
          go_wp2_with fail
          clear q_0 q_1 q_2 q_3 q_4 qf
          go_loopw [18, 12] (fun z v12 wr => ∃ (j : Nat) (X : Option Addr) (xn xc : Nat) (TA : Option Addr) (tn tc tl th : Nat), j ≤ tt ∧ j ≤ (rqPut li by_ x p).L.length ∧ z = .int .i64 j ∧ v12 = .slice TA tn tc ∧ (rqTake (rqPut li by_ x p) j).L.length = xn ∧ RqS w.heap.size w2.heap.size wr (rqTake (rqPut li by_ x p) j).L (rqTake (rqPut li by_ x p) j).T (rqTake (rqPut li by_ x p) j).D X xc TA tn tc DA dn dc tl th dl dh ∧ Bk wr w.heap.size 30 #[.int .i64 li, .int .i64 by_, .slice X xn xc, .int .i64 (rqTake (rqPut li by_ x p) j).se, .int .i64 (rqTake (rqPut li by_ x p) j).dr] ∧ Bk wr (w.heap.size + 1) 30 #[.int .i64 0, .int .i64 0, .slice none 0 0, .int .i64 0, .int .i64 0] ∧ Below w.heap.size w wr) (fun z _ _ => tt - (intOf z).toNat)
          case atStart => exact ⟨0, A4, (xn + 1), c4, TA, tn, tc, tl, th, Nat.zero_le _, Nat.zero_le _, rfl, rfl, by rw [rqTake_zero, HY.out]; have := HXN.out; simp; try omega, by simp only [rqTake_zero, HY.out]; exact (by repeat' (first | (with_reducible exact HRS4.out) | (with_reducible refine RqS.alloc ?_ _) | (with_reducible refine RqS.drew ?_) | (with_reducible refine RqS.farC ?_ ?_ ?_) | omega | (simp; omega))), by simp only [rqTake_zero, HY.out]; exact (by repeat' (first | (with_reducible exact HQ4.out) | (with_reducible apply Bk.setx) | (with_reducible refine Bk.farB ?_ (by omega)) | (with_reducible refine Bk.alloc ?_ _) | (with_reducible refine Bk.drew ?_) | rfl)), (by repeat' (first | (with_reducible exact HR4.out) | (with_reducible apply Bk.setx) | (with_reducible refine Bk.farB ?_ (by omega)) | (with_reducible refine Bk.alloc ?_ _) | (with_reducible refine Bk.drew ?_) | rfl)), (by repeat (first | (with_reducible exact HB4.out) | (with_reducible refine ba ?_ _) | (with_reducible refine bsB ?_ (by omega)) | (with_reducible refine bd ?_ _) | (with_reducible refine Below.drew ?_)))⟩
          case round =>
            obtain ⟨j, X6, n6, c6, TA6, tn6, tc6, tl6, th6, hj, hjl, rfl, rfl, hn6, hrs6, hqb6, hrb6, hbw6⟩ := hrel
            obtain ⟨w6, hw6⟩ : ∃ y, y = wr := ⟨_, rfl⟩
            subst hw6
            obtain ⟨z6, hz6⟩ : ∃ z, z = rqTake (rqPut li by_ x p) j := ⟨_, rfl⟩
            rw [← hz6] at hn6 hrs6 hqb6
            obtain ⟨⟨e1, e2⟩, ⟨e3, e4⟩, e5, e6⟩ := rqPut_n HBX.out (by omega) hz6
            have htn6 : z6.T.length = tn6 := by have := hrs6.t.len; omega
            obtain ⟨o1, o2, o3, o4, o5, o6⟩ := hrs6.r
            have os6 := hrs6.s
            have hzL : z6.L.length = (rqPut li by_ x p).L.length - j := by rw [hz6]; simp [rqTake]
            have hRI6 : RqI li by_ L P (k + 1) z6.L := by rw [hz6]; exact HRY.out.drop j
            have n660 : n6 ≤ 60 := by have := hRI6.len; omega
            have zw6 := hbw6.size
            have HRI6 := Lib.hid hRI6
            have HZ6 := Lib.hid hz6
            have HN6 := Lib.hid hn6
            have HRS6 := Lib.hid hrs6
            have HQ6 := Lib.hid hqb6
            have HR6 := Lib.hid hrb6
            have HB6 := Lib.hid hbw6
            clear hz6 hrs6 hqb6 hrb6 hbw6 hRI6
            have q : Bk w6 (w.heap.size) 30 #[.int .i64 li, .int .i64 by_, .slice X6 n6 c6, .int .i64 z6.se, .int .i64 z6.dr] := HQ6.out
            have zq : w.heap.size < w6.heap.size := q.lt
            have q_0 : w6.cell? ⟨w.heap.size, 0, none⟩ = some (.int .i64 li) := q.cell 0
            have q_1 : w6.cell? ⟨w.heap.size, 1, none⟩ = some (.int .i64 by_) := q.cell 1
            have q_2 : w6.cell? ⟨w.heap.size, 2, none⟩ = some (.slice X6 n6 c6) := q.cell 2
            have q_3 : w6.cell? ⟨w.heap.size, 3, none⟩ = some (.int .i64 z6.se) := q.cell 3
            have q_4 : w6.cell? ⟨w.heap.size, 4, none⟩ = some (.int .i64 z6.dr) := q.cell 4
            have qf := q.free
            have Hq := Lib.hid q
            clear q
            by_cases hjt : j < tt
            rotate_left
            · have HMIN := Lib.hid (show min tt (rqPut li by_ x p).L.length = j from by omega)
              have hji : ¬ (j : Int) < (tt : Int) := by omega
              go_wp2_with fail
              go_roundw
              case rel => exact ⟨k + 1, z6, X6, n6, c6, TA6, tn6, tc6, DA, dn, dc, tl6, th6, dl, dh, by omega, by go_num, rfl, rfl, by rw [HRU.out, ← HX.out]; unfold rqStep; rw [HMIN.out]; exact HZ6.out, HN6.out, HRI6.out, HRS6.out, HQ6.out, HR6.out, HB6.out⟩
              case measure => simp [intOf]; omega
            rcases hz : z6.L with _ | ⟨p0, Tl⟩
            · have HMIN := Lib.hid (show min tt (rqPut li by_ x p).L.length = j from by rw [hz] at hzL; simp at hzL; omega)
              obtain rfl : n6 = 0 := by rw [hz] at hn6; simpa using hn6.symm
              have hji : (j : Int) < (tt : Int) := by omega
              go_wp2_with fail
              go_roundw
              case rel => exact ⟨k + 1, z6, X6, 0, c6, TA6, tn6, tc6, DA, dn, dc, tl6, th6, dl, dh, by omega, by go_num, rfl, rfl, by rw [HRU.out, ← HX.out]; unfold rqStep; rw [HMIN.out]; exact HZ6.out, HN6.out, HRI6.out, HRS6.out, HQ6.out, HR6.out, HB6.out⟩
              case measure => simp [intOf]; omega
            obtain rfl : n6 = Tl.length + 1 := by rw [hz] at hn6; simpa using hn6.symm
            obtain ⟨g6, off6, q0, hX6, hg6, hpk6, e0, -, -, -, -, -⟩ := pk_at HRS6.out.l (k := 0) (by rw [hz]; simp)
            subst hX6
            obtain rfl : p0 = q0 := by rw [hz] at hpk6; simpa using hpk6
            simp only [Nat.zero_mul, Nat.add_zero] at e0
            have HS6 := Lib.hid (show rqTake (rqPut li by_ x p) (j + 1) = ⟨Tl, z6.se + 1, z6.dr, z6.T ++ [p0.id], z6.D⟩ from by have h := HZ6.out; subst h; exact rqTake_succ hz)
            have hc6 : Tl.length + 1 ≤ c6 := by have h := HRS6.out.lc; rw [hz] at h; simpa using h
            obtain ⟨A1, hA1⟩ : ∃ A1, (if c6 = 1 then some (⟨g6, off6, none⟩ : Addr) else some ⟨g6, off6 + 6, none⟩) = some A1 := by split <;> exact ⟨_, rfl⟩
            have HA1 := Lib.hid hA1
            have HZL := Lib.hid hz
            have hji : (j : Int) < (tt : Int) := by omega
            have hjL : j < (rqPut li by_ x p).L.length := by rw [hz] at hzL; simp at hzL; omega
            have hlen0 : (0 : Int) < (Tl.length : Int) + 1 := by omega
            clear hpk6 hz hzL hn6 hA1
            go_wp2_with (at_builtin; refine append_intD rfl _ _ rfl (lo := tl6) (hh := th6) (l := z6.T) rfl (HRS6.out.alloc _).t w6.heap.size p0.id rfl ((Bk.new_ rfl).cell 0) (by omega) (by simp; omega) ?_; intro TA7 tc7 w7 tl7 th7 hlh ho7 hc7; have HRS7 := Lib.hid (RqS.addT (HRS6.out.alloc _) ho7 hc7 hlh); have hq7 := (HQ6.out.alloc _).chg hc7 (by omega); have HQ7 := Lib.hid hq7; have HR7 := Lib.hid ((HR6.out.alloc _).chg hc7 (by omega)); have HB7 := Lib.hid (Chg.below (ba HB6.out _) hc7 (by omega)); have z7 := hc7.size; simp at z7 hlh; have y0 := hq7.cell 0; have y1 := hq7.cell 1; have y2 := hq7.cell 2; have y3 := hq7.cell 3; have y4 := hq7.cell 4; simp at y0 y1 y2 y3 y4; have yf := hq7.free; have yz := hq7.lt; clear ho7 hc7 hq7 q_0 q_1 q_2 q_3 q_4 qf zq)
            have HRT := Lib.hid (fun (W : World) (hb : Below w7.heap.size w7 W) => show IRow W (some A1) (fl Tl) from by have h := row_from HRS7.out.l 1 (cap := c6) HRS7.out.lc rfl; simp only [HZL.out, Nat.one_mul, List.drop_succ_cons, List.drop_zero] at h; rw [HA1.out] at h; exact h.below hb)
            have hA1 := HA1.out
            have k1 : (1 : Int) ≤ (Tl.length : Int) + 1 := by omega
            have k2 : (1 : Int) ≤ (c6 : Int) := by omega
            have k3 : (Tl.length : Int) + 1 ≤ (c6 : Int) := by omega
            have zs : 0 ≤ z6.se ∧ z6.se ≤ 4000000 := by omega
            have zd : 0 ≤ z6.dr ∧ z6.dr ≤ 4000000 := by omega
            have yq : w.heap.size < w7.heap.size := by omega
            go_region_with (go_at_call 49; refine (quWithB_any _ _ _ _ _ _ _ _ _ _ Tl _ _ _ rfl (HRT.out _ (by repeat (first | (with_reducible exact b0 _) | (with_reducible refine ba ?_ _) | (with_reducible refine bd ?_ _) | (with_reducible refine Below.drew ?_) | (with_reducible refine bsB ?_ (by first | exact Nat.le_refl _ | exact Nat.le_add_right _ _ | omega)) | (with_reducible refine bt ?_ (by assumption))))) (fun e => by cases e) (by omega) zs zd (by omega) (by omega)).mono ?_; rintro e w8 ⟨A8, c8, rfl, ho8, hb8⟩; rw [Int.add_zero]; have r8 := fun o => bkeep hb8 w.heap.size o (by first | omega | (simp; done) | (simp; omega)); have rf8 := fun o => bfree hb8 w.heap.size o (by first | omega | (simp; done) | (simp; omega)))
            all_goals
              have HRS8 := Lib.hid (RqS.newL (b0 := w.heap.size) (s0 := w2.heap.size) (L := z6.L) (T := z6.T ++ [p0.id]) (D := z6.D) (A := some ⟨g6, off6, none⟩) (cap := c6) (TA := TA7) (tn := tn6 + 1) (tc := tc7) (DA := DA) (dn := dn) (dc := dc) (tl := tl7) (th := th7) (dl := dl) (dh := dh) (by repeat' (first | (with_reducible exact HRS7.out) | (with_reducible refine RqS.alloc ?_ _) | (with_reducible refine RqS.drew ?_) | (with_reducible refine RqS.farC ?_ ?_ ?_) | omega | (simp; omega))) hb8 ho8 (Nat.le_refl _))
              have HQ8 := Lib.hid (show Bk w8 w.heap.size 30 #[.int .i64 li, .int .i64 by_, .slice (some ⟨g6, off6, none⟩) (Tl.length + 1) c6, .int .i64 z6.se, .int .i64 z6.dr] from Bk.old (by repeat' (first | (with_reducible exact HQ7.out) | (with_reducible apply Bk.setx) | (with_reducible refine Bk.farB ?_ (by omega)) | (with_reducible refine Bk.alloc ?_ _) | (with_reducible refine Bk.drew ?_) | rfl)) hb8)
              have HR8 := Lib.hid (show Bk w8 (w.heap.size + 1) 30 #[.int .i64 0, .int .i64 0, .slice none 0 0, .int .i64 0, .int .i64 0] from Bk.old (by repeat' (first | (with_reducible exact HR7.out) | (with_reducible apply Bk.setx) | (with_reducible refine Bk.farB ?_ (by omega)) | (with_reducible refine Bk.alloc ?_ _) | (with_reducible refine Bk.drew ?_) | rfl)) hb8)
              have HB8 := Lib.hid (show Below w.heap.size w w8 from bt (by repeat (first | (with_reducible exact HB7.out) | (with_reducible refine ba ?_ _) | (with_reducible refine bsB ?_ (by omega)) | (with_reducible refine bd ?_ _) | (with_reducible refine Below.drew ?_))) hb8)
              go_wp2_with fail
              go_roundw
              case rel => exact ⟨j + 1, A8, Tl.length, c8, TA7, tn6 + 1, tc7, tl7, th7, by omega, by omega, by go_num, rfl, by rw [HS6.out], by rw [HS6.out]; exact (by repeat' (first | (with_reducible exact HRS8.out) | (with_reducible refine RqS.alloc ?_ _) | (with_reducible refine RqS.drew ?_) | (with_reducible refine RqS.farC ?_ ?_ ?_) | omega | (simp; omega))), by rw [HS6.out]; exact (by repeat' (first | (with_reducible exact HQ8.out) | (with_reducible apply Bk.setx) | (with_reducible refine Bk.farB ?_ (by omega)) | (with_reducible refine Bk.alloc ?_ _) | (with_reducible refine Bk.drew ?_) | rfl)), (by repeat' (first | (with_reducible exact HR8.out) | (with_reducible apply Bk.setx) | (with_reducible refine Bk.farB ?_ (by omega)) | (with_reducible refine Bk.alloc ?_ _) | (with_reducible refine Bk.drew ?_) | rfl)), (by repeat (first | (with_reducible exact HB8.out) | (with_reducible refine ba ?_ _) | (with_reducible refine bsB ?_ (by omega)) | (with_reducible refine bd ?_ _) | (with_reducible refine Below.drew ?_)))⟩
              case measure => simp [intOf]; omega
      obtain rfl : m = k := by omega
      have HXE := Lib.hid (show x = rqE li by_ L se dr P (tt : Int) from by rw [rqE_run, HLP.out]; exact HX.out)
      have HG := Lib.hid (show rqG li by_ L se dr P (tt : Int) = true from rqG_iff.2 ⟨HQ.out, by omega, by have := HLP.out; omega, HAP.out⟩)
      have zs : 0 ≤ x.se ∧ x.se ≤ 4000000 := by omega
      have zd : 0 ≤ x.dr ∧ x.dr ≤ 4000000 := by omega
      go_wp2_with fail
      refine (quWithB_any _ _ _ _ _ _ _ _ _ _ x.L _ _ _ HXN.out HRS.out.l HRS.out.l0 (by omega) zs zd (by omega) (by omega)).mono ?_
      rintro e w4 ⟨A4, c4, rfl, ho4, hb4⟩
      rw [Int.add_zero, Int.add_zero]
      have HO4 := Lib.hid ho4
      have HR4 := Lib.hid (HRB.out.old hb4)
      have HB4 := Lib.hid (bt HBW.out hb4)
      have HT4 := Lib.hid (HRS.out.t.old hb4)
      have HD4 := Lib.hid (HRS.out.d.old hb4)
      have z4 := hb4.size
      clear hb4 ho4 q_0 q_1 q_2 q_3 q_4 qf zq
      rcases hc : (cnt x.se && cnt x.dr) with _ | _
      · have HPD := Lib.hid (RqP_no (w := w) (show rqOk li by_ L se dr P (tt : Int) = false from by unfold rqOk; rw [HG.out, ← HXE.out, hc]; rfl))
        go_wp2_with fail
        refine (quIf_no _ _ _ xn _ _ _ x.L _ HXN.out HO4.out.row (by omega) (by rw [HRI.out.cnt, hc])).mono ?_
        rintro e w5 ⟨rfl, hb5⟩
        have HB5 := Lib.hid (bt HB4.out hb5)
        have r : Bk w5 (w.heap.size + 1) 30 #[.int .i64 0, .int .i64 0, .slice none 0 0, .int .i64 0, .int .i64 0] := HR4.out.old hb5
        have zr : w.heap.size + 1 < w5.heap.size := r.lt
        have r_0 : w5.cell? ⟨w.heap.size + 1, 0, none⟩ = some (.int .i64 0) := r.cell 0
        have r_1 : w5.cell? ⟨w.heap.size + 1, 1, none⟩ = some (.int .i64 0) := r.cell 1
        have r_2 : w5.cell? ⟨w.heap.size + 1, 2, none⟩ = some (.slice none 0 0) := r.cell 2
        have r_3 : w5.cell? ⟨w.heap.size + 1, 3, none⟩ = some (.int .i64 0) := r.cell 3
        have r_4 : w5.cell? ⟨w.heap.size + 1, 4, none⟩ = some (.int .i64 0) := r.cell 4
        have rf := r.free
        have Hr := Lib.hid r
        clear r
        clear hb5
        go_wp2_with fail
        exact bodyPost_ret (v := .tuple #[.agg #[.int .i64 0, .int .i64 0, .slice none 0 0, .int .i64 0, .int .i64 0], .slice none 0 0, .slice none 0 0, .bool false]) (by simp [results, Try.results24, go_sem, r_0, r_1, r_2, r_3, r_4, zr]) rfl (by rw [HPD.out]; exact NewRQ.none_ rfl (by repeat (first | (with_reducible exact HB5.out) | (with_reducible refine ba ?_ _) | (with_reducible refine bsB ?_ (by omega)) | (with_reducible refine bd ?_ _) | (with_reducible refine Below.drew ?_))))
      have HPD := Lib.hid (RqP_yes (w := w) (show rqOk li by_ L se dr P (tt : Int) = true from by unfold rqOk; rw [HG.out, ← HXE.out, hc]; rfl))
      go_wp2_with fail
      refine (quIf_yes _ _ _ xn _ _ _ x.L _ HXN.out HO4.out.row (by omega) (by rw [HRI.out.cnt, hc])).mono ?_
      rintro e w5 ⟨rfl, hb5⟩
      have HB5 := Lib.hid (bt HB4.out hb5)
      have HO5 := Lib.hid (HO4.out.old hb5)
      have HT5 := Lib.hid (HT4.out.old hb5)
      have HD5 := Lib.hid (HD4.out.old hb5)
      have z5 := hb5.size
      have r : Bk w5 (w.heap.size + 1) 30 #[.int .i64 0, .int .i64 0, .slice none 0 0, .int .i64 0, .int .i64 0] := HR4.out.old hb5
      have zr : w.heap.size + 1 < w5.heap.size := r.lt
      have r_0 : w5.cell? ⟨w.heap.size + 1, 0, none⟩ = some (.int .i64 0) := r.cell 0
      have r_1 : w5.cell? ⟨w.heap.size + 1, 1, none⟩ = some (.int .i64 0) := r.cell 1
      have r_2 : w5.cell? ⟨w.heap.size + 1, 2, none⟩ = some (.slice none 0 0) := r.cell 2
      have r_3 : w5.cell? ⟨w.heap.size + 1, 3, none⟩ = some (.int .i64 0) := r.cell 3
      have r_4 : w5.cell? ⟨w.heap.size + 1, 4, none⟩ = some (.int .i64 0) := r.cell 4
      have rf := r.free
      have Hr := Lib.hid r
      clear r
      clear hb5 hc
      go_wp2_with fail
      refine bodyPost_ret (v := .tuple #[.agg #[.int .i64 li, .int .i64 by_, .slice A4 xn c4, .int .i64 x.se, .int .i64 x.dr], .slice TA tn tc, .slice DA dn dc, .bool true]) (by simp [results, Try.results24, go_sem, r_0, r_1, r_2, r_3, r_4, zr]) rfl ?_
      rw [HPD.out, ← HXE.out, HXN.out]
      refine ⟨A4, c4, TA, tn, tc, DA, dn, dc, w3.heap.size, w4.heap.size, tl, th, dl, dh, rfl, ?_, ?_, ?_, ?_, ?_, ?_⟩
      · repeat' (first | (with_reducible exact HO5.out) | (with_reducible refine IOwn.alloc ?_ _) | (with_reducible refine IOwn.farC ?_ (by omega)))
      · repeat' (first | (with_reducible exact HT5.out) | (with_reducible refine IOwn.alloc ?_ _) | (with_reducible refine IOwn.farC ?_ (by omega)))
      · repeat' (first | (with_reducible exact HD5.out) | (with_reducible refine IOwn.alloc ?_ _) | (with_reducible refine IOwn.farC ?_ (by omega)))
      · simp only [setCell_size, World.size_alloc]
        omega
      · omega
      · exact (by repeat (first | (with_reducible exact HB5.out) | (with_reducible refine ba ?_ _) | (with_reducible refine bsB ?_ (by omega)) | (with_reducible refine bd ?_ _) | (with_reducible refine Below.drew ?_)))
theorem specRunQueue_any (li by_ : Int) (A : Option Addr) (n cap : Nat) (se dr : Int) (L : List Pk) (B : Option Addr) (m capp : Nat) (P : List Pk) (t : Int) (w : World) (hl : L.length = n) (hr : IRow w A (fl L)) (hn : n ≤ 1048576) (hcap : n ≤ cap) (hA : A = none → cap = 0) (hl2 : P.length = m) (hr2 : IRow w B (fl P)) (hm : m ≤ 1048576) (hcapp : m ≤ capp) (hB : B = none → capp = 0) :
    Calls Try.prog 24 #[.agg #[.int .i64 li, .int .i64 by_, .slice A n cap, .int .i64 se, .int .i64 dr], .slice B m capp, .int .i64 t] w (RqP w li by_ L se dr P t) := by
  rcases h : (qok li by_ L se dr && decide (0 ≤ t ∧ t ≤ 5) && decide (m ≤ 60)) with _ | _
  · exact specRq_bad li by_ A n cap se dr L B m capp P t w hl hr hn hcap hA hl2 hr2 hm hcapp hB h
  · simp only [Bool.and_eq_true, decide_eq_true_eq] at h
    obtain ⟨tt, rfl⟩ : ∃ tt : Nat, t = (tt : Int) := ⟨t.toNat, by omega⟩
    exact specRq_main tt li by_ A n cap se dr L B m capp P w hl hr hn hcap hA hl2 hr2 h.2 (by omega) h.1.1
end Go.Proofs.Ytgdldmeeaejjpaa
