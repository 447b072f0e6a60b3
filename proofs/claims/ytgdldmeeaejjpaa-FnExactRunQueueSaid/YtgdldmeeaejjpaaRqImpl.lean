/- The contracts of the program's RunQueue. -/
import Derived.Test.YtgdldmeeaejjpaaRqRel
import Derived.Test.YtgdldmeeaejjpaaQuBig
import Derived.Test.YtgdldmeeaejjpaaRemove
import Derived.Test.YtgdldmeeaejjpaaTakeHead
import Derived.Test.YtgdldmeeaejjpaaPutTail3
import Derived.Test.YtgdldmeeaejjpaaPdImpl
import Derived.Deep.RegionHeld3
import Derived.Deep.DeepCutAuto
namespace Go.Proofs.Ytgdldmeeaejjpaa
open Go.ChangeShapes Go.WideShapes Go.ChangeAt Go.RowKit
set_option linter.unusedVariables false

theorem concat_two (A : Option Addr) (L P : List Pk) (w : World) (hr : NRow w A ([L, P].map fl)) (ht : L.length + P.length ≤ 1048576) :
    Calls Try.prog 66 #[.slice A 2 2] w (NewPacketS w (fl (L ++ P))) := by
  have h := concat_any A 2 2 [L, P] w rfl hr (by omega) (by simp; omega)
  rwa [show [L, P].flatten = L ++ P by simp] at h
set_option maxHeartbeats 2000000 in
theorem implRq_q (li by_ : Int) (A : Option Addr) (n cap : Nat) (se dr : Int) (L : List Pk) (B : Option Addr) (m capp : Nat) (P : List Pk) (t : Int) (w : World) (hl : L.length = n) (hr : IRow w A (fl L)) (hn : n ≤ 1048576) (hcap : n ≤ cap) (hA : A = none → cap = 0) (hl2 : P.length = m) (hr2 : IRow w B (fl P)) (hm : m ≤ 1048576) (hcapp : m ≤ capp) (hB : B = none → capp = 0) (h1 : qok li by_ L se dr = false) (HG : rqG li by_ L se dr P t = false) :
    Calls Try.prog 26 #[.agg #[.int .i64 li, .int .i64 by_, .slice A n cap, .int .i64 se, .int .i64 dr], .slice B m capp, .int .i64 t] w (RqP w li by_ L se dr P t) := by
  have HPD := Lib.hid (RqP_no (w := w) (show rqOk li by_ L se dr P t = false from rqOk_no HG))
  have HL := Lib.hid hl
  have HLP := Lib.hid hl2
  have HA := Lib.hid hA
  have HB := Lib.hid hB
  have HR_a := Lib.hid hr
  have HR_p := Lib.hid hr2
  clear hl hr hA hl2 hr2 hB HG
  go_enter Try.func26, Try.ntmps26
  go_wp2_with fail
  refine (isQueue_b _ _ _ _ _ _ _ L _ HL.out (HR_a.out.below (ba (ba (b0 w) _) _)) (by omega) hcap h1).mono ?_
  rintro e w1 ⟨rfl, hb1⟩
  have z1 := hb1.size
  (try simp at z1)
  have HK_q_1 : Hid (Bk w1 (w.heap.size) 30 #[.int .i64 li, .int .i64 by_, .slice A n cap, .int .i64 se, .int .i64 dr]) := Lib.hid (((Bk.new_ (by simp) : Bk _ (w.heap.size) 30 #[.int .i64 li, .int .i64 by_, .slice A n cap, .int .i64 se, .int .i64 dr]).alloc _).old hb1)
  have zb_q : w.heap.size < w1.heap.size := HK_q_1.out.lt
  have cb_q_0 : w1.cell? ⟨w.heap.size, 0, none⟩ = some (.int .i64 li) := HK_q_1.out.cell 0
  have cb_q_1 : w1.cell? ⟨w.heap.size, 1, none⟩ = some (.int .i64 by_) := HK_q_1.out.cell 1
  have cb_q_2 : w1.cell? ⟨w.heap.size, 2, none⟩ = some (.slice A n cap) := HK_q_1.out.cell 2
  have cb_q_3 : w1.cell? ⟨w.heap.size, 3, none⟩ = some (.int .i64 se) := HK_q_1.out.cell 3
  have cb_q_4 : w1.cell? ⟨w.heap.size, 4, none⟩ = some (.int .i64 dr) := HK_q_1.out.cell 4
  have HK_r_1 : Hid (Bk w1 (w.heap.size + 1) 30 #[.int .i64 0, .int .i64 0, .slice none 0 0, .int .i64 0, .int .i64 0]) := Lib.hid ((Bk.new_ (by simp) : Bk _ (w.heap.size + 1) 30 #[.int .i64 0, .int .i64 0, .slice none 0 0, .int .i64 0, .int .i64 0]).old hb1)
  have zb_r : w.heap.size + 1 < w1.heap.size := HK_r_1.out.lt
  have cb_r_0 : w1.cell? ⟨w.heap.size + 1, 0, none⟩ = some (.int .i64 0) := HK_r_1.out.cell 0
  have cb_r_1 : w1.cell? ⟨w.heap.size + 1, 1, none⟩ = some (.int .i64 0) := HK_r_1.out.cell 1
  have cb_r_2 : w1.cell? ⟨w.heap.size + 1, 2, none⟩ = some (.slice none 0 0) := HK_r_1.out.cell 2
  have cb_r_3 : w1.cell? ⟨w.heap.size + 1, 3, none⟩ = some (.int .i64 0) := HK_r_1.out.cell 3
  have cb_r_4 : w1.cell? ⟨w.heap.size + 1, 4, none⟩ = some (.int .i64 0) := HK_r_1.out.cell 4
  have HB_1 := Lib.hid (bt (ba (ba (b0 w) _) _) hb1)
  clear hb1
  have rf := HK_r_1.out.free
  go_wp2_with fail
  exact bodyPost_ret (v := .tuple #[.agg #[.int .i64 0, .int .i64 0, .slice none 0 0, .int .i64 0, .int .i64 0], .slice none 0 0, .slice none 0 0, .bool false]) (by simp [results, Try.results26, go_sem, cb_r_0, cb_r_1, cb_r_2, cb_r_3, cb_r_4]) rfl (by rw [HPD.out]; exact NewRQ.none_ rfl (by repeat (first | (with_reducible exact HB_1.out) | (with_reducible refine ba ?_ _) | (with_reducible refine bsB ?_ (by omega)) | (with_reducible refine bd ?_ _) | (with_reducible refine Below.drew ?_))))
set_option maxHeartbeats 2000000 in
theorem implRq_m (li by_ : Int) (A : Option Addr) (n cap : Nat) (se dr : Int) (L : List Pk) (B : Option Addr) (m capp : Nat) (P : List Pk) (t : Int) (w : World) (hl : L.length = n) (hr : IRow w A (fl L)) (hn : n ≤ 1048576) (hcap : n ≤ cap) (hA : A = none → cap = 0) (hl2 : P.length = m) (hr2 : IRow w B (fl P)) (hm : m ≤ 1048576) (hcapp : m ≤ capp) (hB : B = none → capp = 0) (h1 : qok li by_ L se dr = true) (h2 : 60 < m) (HG : rqG li by_ L se dr P t = false) :
    Calls Try.prog 26 #[.agg #[.int .i64 li, .int .i64 by_, .slice A n cap, .int .i64 se, .int .i64 dr], .slice B m capp, .int .i64 t] w (RqP w li by_ L se dr P t) := by
  have HPD := Lib.hid (RqP_no (w := w) (show rqOk li by_ L se dr P t = false from rqOk_no HG))
  have HL := Lib.hid hl
  have HLP := Lib.hid hl2
  have HA := Lib.hid hA
  have HB := Lib.hid hB
  have HR_a := Lib.hid hr
  have HR_p := Lib.hid hr2
  clear hl hr hA hl2 hr2 hB HG
  have g1 : (60 : Int) < (m : Int) := by omega
  have g2 : decide ((60 : Int) < (m : Int)) = true := decide_eq_true g1
  go_enter Try.func26, Try.ntmps26
  go_wp2_with fail
  refine (isQueue_b _ _ _ _ _ _ _ L _ HL.out (HR_a.out.below (ba (ba (b0 w) _) _)) (by omega) hcap h1).mono ?_
  rintro e w1 ⟨rfl, hb1⟩
  have z1 := hb1.size
  (try simp at z1)
  have HK_q_1 : Hid (Bk w1 (w.heap.size) 30 #[.int .i64 li, .int .i64 by_, .slice A n cap, .int .i64 se, .int .i64 dr]) := Lib.hid (((Bk.new_ (by simp) : Bk _ (w.heap.size) 30 #[.int .i64 li, .int .i64 by_, .slice A n cap, .int .i64 se, .int .i64 dr]).alloc _).old hb1)
  have zb_q : w.heap.size < w1.heap.size := HK_q_1.out.lt
  have cb_q_0 : w1.cell? ⟨w.heap.size, 0, none⟩ = some (.int .i64 li) := HK_q_1.out.cell 0
  have cb_q_1 : w1.cell? ⟨w.heap.size, 1, none⟩ = some (.int .i64 by_) := HK_q_1.out.cell 1
  have cb_q_2 : w1.cell? ⟨w.heap.size, 2, none⟩ = some (.slice A n cap) := HK_q_1.out.cell 2
  have cb_q_3 : w1.cell? ⟨w.heap.size, 3, none⟩ = some (.int .i64 se) := HK_q_1.out.cell 3
  have cb_q_4 : w1.cell? ⟨w.heap.size, 4, none⟩ = some (.int .i64 dr) := HK_q_1.out.cell 4
  have HK_r_1 : Hid (Bk w1 (w.heap.size + 1) 30 #[.int .i64 0, .int .i64 0, .slice none 0 0, .int .i64 0, .int .i64 0]) := Lib.hid ((Bk.new_ (by simp) : Bk _ (w.heap.size + 1) 30 #[.int .i64 0, .int .i64 0, .slice none 0 0, .int .i64 0, .int .i64 0]).old hb1)
  have zb_r : w.heap.size + 1 < w1.heap.size := HK_r_1.out.lt
  have cb_r_0 : w1.cell? ⟨w.heap.size + 1, 0, none⟩ = some (.int .i64 0) := HK_r_1.out.cell 0
  have cb_r_1 : w1.cell? ⟨w.heap.size + 1, 1, none⟩ = some (.int .i64 0) := HK_r_1.out.cell 1
  have cb_r_2 : w1.cell? ⟨w.heap.size + 1, 2, none⟩ = some (.slice none 0 0) := HK_r_1.out.cell 2
  have cb_r_3 : w1.cell? ⟨w.heap.size + 1, 3, none⟩ = some (.int .i64 0) := HK_r_1.out.cell 3
  have cb_r_4 : w1.cell? ⟨w.heap.size + 1, 4, none⟩ = some (.int .i64 0) := HK_r_1.out.cell 4
  have HB_1 := Lib.hid (bt (ba (ba (b0 w) _) _) hb1)
  clear hb1
  have rf := HK_r_1.out.free
  go_wp2_with fail
  exact bodyPost_ret (v := .tuple #[.agg #[.int .i64 0, .int .i64 0, .slice none 0 0, .int .i64 0, .int .i64 0], .slice none 0 0, .slice none 0 0, .bool false]) (by simp [results, Try.results26, go_sem, cb_r_0, cb_r_1, cb_r_2, cb_r_3, cb_r_4]) rfl (by rw [HPD.out]; exact NewRQ.none_ rfl (by repeat (first | (with_reducible exact HB_1.out) | (with_reducible refine ba ?_ _) | (with_reducible refine bsB ?_ (by omega)) | (with_reducible refine bd ?_ _) | (with_reducible refine Below.drew ?_))))
set_option maxHeartbeats 2000000 in
theorem implRq_t0 (li by_ : Int) (A : Option Addr) (n cap : Nat) (se dr : Int) (L : List Pk) (B : Option Addr) (m capp : Nat) (P : List Pk) (t : Int) (w : World) (hl : L.length = n) (hr : IRow w A (fl L)) (hn : n ≤ 1048576) (hcap : n ≤ cap) (hA : A = none → cap = 0) (hl2 : P.length = m) (hr2 : IRow w B (fl P)) (hm : m ≤ 1048576) (hcapp : m ≤ capp) (hB : B = none → capp = 0) (h1 : qok li by_ L se dr = true) (h2 : m ≤ 60) (h3 : t < 0) (HG : rqG li by_ L se dr P t = false) :
    Calls Try.prog 26 #[.agg #[.int .i64 li, .int .i64 by_, .slice A n cap, .int .i64 se, .int .i64 dr], .slice B m capp, .int .i64 t] w (RqP w li by_ L se dr P t) := by
  have HPD := Lib.hid (RqP_no (w := w) (show rqOk li by_ L se dr P t = false from rqOk_no HG))
  have HL := Lib.hid hl
  have HLP := Lib.hid hl2
  have HA := Lib.hid hA
  have HB := Lib.hid hB
  have HR_a := Lib.hid hr
  have HR_p := Lib.hid hr2
  clear hl hr hA hl2 hr2 hB HG
  have g1 : ¬ (60 : Int) < (m : Int) := by omega
  have g2 : decide ((60 : Int) < (m : Int)) = false := decide_eq_false g1
  have g3 : decide (t < 0) = true := decide_eq_true h3
  go_enter Try.func26, Try.ntmps26
  go_wp2_with fail
  refine (isQueue_b _ _ _ _ _ _ _ L _ HL.out (HR_a.out.below (ba (ba (b0 w) _) _)) (by omega) hcap h1).mono ?_
  rintro e w1 ⟨rfl, hb1⟩
  have z1 := hb1.size
  (try simp at z1)
  have HK_q_1 : Hid (Bk w1 (w.heap.size) 30 #[.int .i64 li, .int .i64 by_, .slice A n cap, .int .i64 se, .int .i64 dr]) := Lib.hid (((Bk.new_ (by simp) : Bk _ (w.heap.size) 30 #[.int .i64 li, .int .i64 by_, .slice A n cap, .int .i64 se, .int .i64 dr]).alloc _).old hb1)
  have zb_q : w.heap.size < w1.heap.size := HK_q_1.out.lt
  have cb_q_0 : w1.cell? ⟨w.heap.size, 0, none⟩ = some (.int .i64 li) := HK_q_1.out.cell 0
  have cb_q_1 : w1.cell? ⟨w.heap.size, 1, none⟩ = some (.int .i64 by_) := HK_q_1.out.cell 1
  have cb_q_2 : w1.cell? ⟨w.heap.size, 2, none⟩ = some (.slice A n cap) := HK_q_1.out.cell 2
  have cb_q_3 : w1.cell? ⟨w.heap.size, 3, none⟩ = some (.int .i64 se) := HK_q_1.out.cell 3
  have cb_q_4 : w1.cell? ⟨w.heap.size, 4, none⟩ = some (.int .i64 dr) := HK_q_1.out.cell 4
  have HK_r_1 : Hid (Bk w1 (w.heap.size + 1) 30 #[.int .i64 0, .int .i64 0, .slice none 0 0, .int .i64 0, .int .i64 0]) := Lib.hid ((Bk.new_ (by simp) : Bk _ (w.heap.size + 1) 30 #[.int .i64 0, .int .i64 0, .slice none 0 0, .int .i64 0, .int .i64 0]).old hb1)
  have zb_r : w.heap.size + 1 < w1.heap.size := HK_r_1.out.lt
  have cb_r_0 : w1.cell? ⟨w.heap.size + 1, 0, none⟩ = some (.int .i64 0) := HK_r_1.out.cell 0
  have cb_r_1 : w1.cell? ⟨w.heap.size + 1, 1, none⟩ = some (.int .i64 0) := HK_r_1.out.cell 1
  have cb_r_2 : w1.cell? ⟨w.heap.size + 1, 2, none⟩ = some (.slice none 0 0) := HK_r_1.out.cell 2
  have cb_r_3 : w1.cell? ⟨w.heap.size + 1, 3, none⟩ = some (.int .i64 0) := HK_r_1.out.cell 3
  have cb_r_4 : w1.cell? ⟨w.heap.size + 1, 4, none⟩ = some (.int .i64 0) := HK_r_1.out.cell 4
  have HB_1 := Lib.hid (bt (ba (ba (b0 w) _) _) hb1)
  clear hb1
  have rf := HK_r_1.out.free
  go_wp2_with fail
  exact bodyPost_ret (v := .tuple #[.agg #[.int .i64 0, .int .i64 0, .slice none 0 0, .int .i64 0, .int .i64 0], .slice none 0 0, .slice none 0 0, .bool false]) (by simp [results, Try.results26, go_sem, cb_r_0, cb_r_1, cb_r_2, cb_r_3, cb_r_4]) rfl (by rw [HPD.out]; exact NewRQ.none_ rfl (by repeat (first | (with_reducible exact HB_1.out) | (with_reducible refine ba ?_ _) | (with_reducible refine bsB ?_ (by omega)) | (with_reducible refine bd ?_ _) | (with_reducible refine Below.drew ?_))))
set_option maxHeartbeats 2000000 in
theorem implRq_t5 (li by_ : Int) (A : Option Addr) (n cap : Nat) (se dr : Int) (L : List Pk) (B : Option Addr) (m capp : Nat) (P : List Pk) (t : Int) (w : World) (hl : L.length = n) (hr : IRow w A (fl L)) (hn : n ≤ 1048576) (hcap : n ≤ cap) (hA : A = none → cap = 0) (hl2 : P.length = m) (hr2 : IRow w B (fl P)) (hm : m ≤ 1048576) (hcapp : m ≤ capp) (hB : B = none → capp = 0) (h1 : qok li by_ L se dr = true) (h2 : m ≤ 60) (h3 : 0 ≤ t) (h4 : 5 < t) (HG : rqG li by_ L se dr P t = false) :
    Calls Try.prog 26 #[.agg #[.int .i64 li, .int .i64 by_, .slice A n cap, .int .i64 se, .int .i64 dr], .slice B m capp, .int .i64 t] w (RqP w li by_ L se dr P t) := by
  have HPD := Lib.hid (RqP_no (w := w) (show rqOk li by_ L se dr P t = false from rqOk_no HG))
  have HL := Lib.hid hl
  have HLP := Lib.hid hl2
  have HA := Lib.hid hA
  have HB := Lib.hid hB
  have HR_a := Lib.hid hr
  have HR_p := Lib.hid hr2
  clear hl hr hA hl2 hr2 hB HG
  have g1 : ¬ (60 : Int) < (m : Int) := by omega
  have g2 : decide ((60 : Int) < (m : Int)) = false := decide_eq_false g1
  have g3 : ¬ t < 0 := by omega
  have g4 : decide (t < 0) = false := decide_eq_false g3
  have g5 : decide (5 < t) = true := decide_eq_true h4
  go_enter Try.func26, Try.ntmps26
  go_wp2_with fail
  refine (isQueue_b _ _ _ _ _ _ _ L _ HL.out (HR_a.out.below (ba (ba (b0 w) _) _)) (by omega) hcap h1).mono ?_
  rintro e w1 ⟨rfl, hb1⟩
  have z1 := hb1.size
  (try simp at z1)
  have HK_q_1 : Hid (Bk w1 (w.heap.size) 30 #[.int .i64 li, .int .i64 by_, .slice A n cap, .int .i64 se, .int .i64 dr]) := Lib.hid (((Bk.new_ (by simp) : Bk _ (w.heap.size) 30 #[.int .i64 li, .int .i64 by_, .slice A n cap, .int .i64 se, .int .i64 dr]).alloc _).old hb1)
  have zb_q : w.heap.size < w1.heap.size := HK_q_1.out.lt
  have cb_q_0 : w1.cell? ⟨w.heap.size, 0, none⟩ = some (.int .i64 li) := HK_q_1.out.cell 0
  have cb_q_1 : w1.cell? ⟨w.heap.size, 1, none⟩ = some (.int .i64 by_) := HK_q_1.out.cell 1
  have cb_q_2 : w1.cell? ⟨w.heap.size, 2, none⟩ = some (.slice A n cap) := HK_q_1.out.cell 2
  have cb_q_3 : w1.cell? ⟨w.heap.size, 3, none⟩ = some (.int .i64 se) := HK_q_1.out.cell 3
  have cb_q_4 : w1.cell? ⟨w.heap.size, 4, none⟩ = some (.int .i64 dr) := HK_q_1.out.cell 4
  have HK_r_1 : Hid (Bk w1 (w.heap.size + 1) 30 #[.int .i64 0, .int .i64 0, .slice none 0 0, .int .i64 0, .int .i64 0]) := Lib.hid ((Bk.new_ (by simp) : Bk _ (w.heap.size + 1) 30 #[.int .i64 0, .int .i64 0, .slice none 0 0, .int .i64 0, .int .i64 0]).old hb1)
  have zb_r : w.heap.size + 1 < w1.heap.size := HK_r_1.out.lt
  have cb_r_0 : w1.cell? ⟨w.heap.size + 1, 0, none⟩ = some (.int .i64 0) := HK_r_1.out.cell 0
  have cb_r_1 : w1.cell? ⟨w.heap.size + 1, 1, none⟩ = some (.int .i64 0) := HK_r_1.out.cell 1
  have cb_r_2 : w1.cell? ⟨w.heap.size + 1, 2, none⟩ = some (.slice none 0 0) := HK_r_1.out.cell 2
  have cb_r_3 : w1.cell? ⟨w.heap.size + 1, 3, none⟩ = some (.int .i64 0) := HK_r_1.out.cell 3
  have cb_r_4 : w1.cell? ⟨w.heap.size + 1, 4, none⟩ = some (.int .i64 0) := HK_r_1.out.cell 4
  have HB_1 := Lib.hid (bt (ba (ba (b0 w) _) _) hb1)
  clear hb1
  have rf := HK_r_1.out.free
  go_wp2_with fail
  exact bodyPost_ret (v := .tuple #[.agg #[.int .i64 0, .int .i64 0, .slice none 0 0, .int .i64 0, .int .i64 0], .slice none 0 0, .slice none 0 0, .bool false]) (by simp [results, Try.results26, go_sem, cb_r_0, cb_r_1, cb_r_2, cb_r_3, cb_r_4]) rfl (by rw [HPD.out]; exact NewRQ.none_ rfl (by repeat (first | (with_reducible exact HB_1.out) | (with_reducible refine ba ?_ _) | (with_reducible refine bsB ?_ (by omega)) | (with_reducible refine bd ?_ _) | (with_reducible refine Below.drew ?_))))
set_option maxHeartbeats 2000000 in
theorem implRq_ap (li by_ : Int) (A : Option Addr) (n cap : Nat) (se dr : Int) (L : List Pk) (B : Option Addr) (m capp : Nat) (P : List Pk) (t : Int) (w : World) (hl : L.length = n) (hr : IRow w A (fl L)) (hn : n ≤ 1048576) (hcap : n ≤ cap) (hA : A = none → cap = 0) (hl2 : P.length = m) (hr2 : IRow w B (fl P)) (hm : m ≤ 1048576) (hcapp : m ≤ capp) (hB : B = none → capp = 0) (h1 : qok li by_ L se dr = true) (h2 : m ≤ 60) (h3 : 0 ≤ t) (h4 : t ≤ 5) (h5 : apart (L ++ P) = false) (HG : rqG li by_ L se dr P t = false) :
    Calls Try.prog 26 #[.agg #[.int .i64 li, .int .i64 by_, .slice A n cap, .int .i64 se, .int .i64 dr], .slice B m capp, .int .i64 t] w (RqP w li by_ L se dr P t) := by
  have HPD := Lib.hid (RqP_no (w := w) (show rqOk li by_ L se dr P t = false from rqOk_no HG))
  have HL := Lib.hid hl
  have HLP := Lib.hid hl2
  have HA := Lib.hid hA
  have HB := Lib.hid hB
  have HR_a := Lib.hid hr
  have HR_p := Lib.hid hr2
  clear hl hr hA hl2 hr2 hB HG
  have g1 : ¬ (60 : Int) < (m : Int) := by omega
  have g2 : decide ((60 : Int) < (m : Int)) = false := decide_eq_false g1
  have g3 : ¬ t < 0 := by omega
  have g4 : decide (t < 0) = false := decide_eq_false g3
  have g5 : ¬ 5 < t := by omega
  have g6 : decide (5 < t) = false := decide_eq_false g5
  have n60 : n ≤ 60 := by have g := qok_iff.1 h1; have := HL.out; omega
  go_enter Try.func26, Try.ntmps26
  go_wp2_with fail
  refine (isQueue_b _ _ _ _ _ _ _ L _ HL.out (HR_a.out.below (ba (ba (b0 w) _) _)) (by omega) hcap h1).mono ?_
  rintro e w1 ⟨rfl, hb1⟩
  have z1 := hb1.size
  (try simp at z1)
  have HK_q_1 : Hid (Bk w1 (w.heap.size) 30 #[.int .i64 li, .int .i64 by_, .slice A n cap, .int .i64 se, .int .i64 dr]) := Lib.hid (((Bk.new_ (by simp) : Bk _ (w.heap.size) 30 #[.int .i64 li, .int .i64 by_, .slice A n cap, .int .i64 se, .int .i64 dr]).alloc _).old hb1)
  have zb_q : w.heap.size < w1.heap.size := HK_q_1.out.lt
  have cb_q_0 : w1.cell? ⟨w.heap.size, 0, none⟩ = some (.int .i64 li) := HK_q_1.out.cell 0
  have cb_q_1 : w1.cell? ⟨w.heap.size, 1, none⟩ = some (.int .i64 by_) := HK_q_1.out.cell 1
  have cb_q_2 : w1.cell? ⟨w.heap.size, 2, none⟩ = some (.slice A n cap) := HK_q_1.out.cell 2
  have cb_q_3 : w1.cell? ⟨w.heap.size, 3, none⟩ = some (.int .i64 se) := HK_q_1.out.cell 3
  have cb_q_4 : w1.cell? ⟨w.heap.size, 4, none⟩ = some (.int .i64 dr) := HK_q_1.out.cell 4
  have HK_r_1 : Hid (Bk w1 (w.heap.size + 1) 30 #[.int .i64 0, .int .i64 0, .slice none 0 0, .int .i64 0, .int .i64 0]) := Lib.hid ((Bk.new_ (by simp) : Bk _ (w.heap.size + 1) 30 #[.int .i64 0, .int .i64 0, .slice none 0 0, .int .i64 0, .int .i64 0]).old hb1)
  have zb_r : w.heap.size + 1 < w1.heap.size := HK_r_1.out.lt
  have cb_r_0 : w1.cell? ⟨w.heap.size + 1, 0, none⟩ = some (.int .i64 0) := HK_r_1.out.cell 0
  have cb_r_1 : w1.cell? ⟨w.heap.size + 1, 1, none⟩ = some (.int .i64 0) := HK_r_1.out.cell 1
  have cb_r_2 : w1.cell? ⟨w.heap.size + 1, 2, none⟩ = some (.slice none 0 0) := HK_r_1.out.cell 2
  have cb_r_3 : w1.cell? ⟨w.heap.size + 1, 3, none⟩ = some (.int .i64 0) := HK_r_1.out.cell 3
  have cb_r_4 : w1.cell? ⟨w.heap.size + 1, 4, none⟩ = some (.int .i64 0) := HK_r_1.out.cell 4
  have HB_1 := Lib.hid (bt (ba (ba (b0 w) _) _) hb1)
  clear hb1
  go_wp2_with fail
  refine (concat_two _ L P _ (nrow_two (Bk.new_ rfl) HL.out (HR_a.out.below (ba HB_1.out _)) hcap HA.out HLP.out (HR_p.out.below (ba HB_1.out _)) hcapp HB.out) (by have := HL.out; have := HLP.out; omega)).mono ?_
  rintro e w2 ⟨A_c, n_c, cap_c, rfl, ho_c, hb2⟩
  have HN_c := Lib.hid ho_c.len
  have HO_c_2 := Lib.hid ho_c
  clear ho_c
  have z2 := hb2.size
  (try simp at z2)
  have HK_q_2 : Hid (Bk w2 (w.heap.size) 30 #[.int .i64 li, .int .i64 by_, .slice A n cap, .int .i64 se, .int .i64 dr]) := Lib.hid ((HK_q_1.out.alloc _).old hb2)
  clear HK_q_1
  clear cb_q_0 cb_q_1 cb_q_2 cb_q_3 cb_q_4 zb_q
  have zb_q : w.heap.size < w2.heap.size := HK_q_2.out.lt
  have cb_q_0 : w2.cell? ⟨w.heap.size, 0, none⟩ = some (.int .i64 li) := HK_q_2.out.cell 0
  have cb_q_1 : w2.cell? ⟨w.heap.size, 1, none⟩ = some (.int .i64 by_) := HK_q_2.out.cell 1
  have cb_q_2 : w2.cell? ⟨w.heap.size, 2, none⟩ = some (.slice A n cap) := HK_q_2.out.cell 2
  have cb_q_3 : w2.cell? ⟨w.heap.size, 3, none⟩ = some (.int .i64 se) := HK_q_2.out.cell 3
  have cb_q_4 : w2.cell? ⟨w.heap.size, 4, none⟩ = some (.int .i64 dr) := HK_q_2.out.cell 4
  have HK_r_2 : Hid (Bk w2 (w.heap.size + 1) 30 #[.int .i64 0, .int .i64 0, .slice none 0 0, .int .i64 0, .int .i64 0]) := Lib.hid ((HK_r_1.out.alloc _).old hb2)
  clear HK_r_1
  clear cb_r_0 cb_r_1 cb_r_2 cb_r_3 cb_r_4 zb_r
  have zb_r : w.heap.size + 1 < w2.heap.size := HK_r_2.out.lt
  have cb_r_0 : w2.cell? ⟨w.heap.size + 1, 0, none⟩ = some (.int .i64 0) := HK_r_2.out.cell 0
  have cb_r_1 : w2.cell? ⟨w.heap.size + 1, 1, none⟩ = some (.int .i64 0) := HK_r_2.out.cell 1
  have cb_r_2 : w2.cell? ⟨w.heap.size + 1, 2, none⟩ = some (.slice none 0 0) := HK_r_2.out.cell 2
  have cb_r_3 : w2.cell? ⟨w.heap.size + 1, 3, none⟩ = some (.int .i64 0) := HK_r_2.out.cell 3
  have cb_r_4 : w2.cell? ⟨w.heap.size + 1, 4, none⟩ = some (.int .i64 0) := HK_r_2.out.cell 4
  have HK_l_2 : Hid (Bk w2 (w1.heap.size) 28 #[.slice A n cap, .slice B m capp]) := Lib.hid ((Bk.new_ (by simp) : Bk _ (w1.heap.size) 28 #[.slice A n cap, .slice B m capp]).old hb2)
  have zb_l : w1.heap.size < w2.heap.size := HK_l_2.out.lt
  have cb_l_0 : w2.cell? ⟨w1.heap.size, 0, none⟩ = some (.slice A n cap) := HK_l_2.out.cell 0
  have cb_l_1 : w2.cell? ⟨w1.heap.size, 1, none⟩ = some (.slice B m capp) := HK_l_2.out.cell 1
  have HB_2 := Lib.hid (bt (ba HB_1.out _) hb2)
  clear hb2
  have hnc : (L ++ P).length = n_c := by have := HN_c.out; rw [fl_len] at this; omega
  have hnc2 : n_c ≤ 120 := by rw [List.length_append] at hnc; have := HL.out; have := HLP.out; omega
  go_wp2_with fail
  refine (apartIds_b _ _ _ (L ++ P) _ hnc HO_c_2.out.row (by omega) HO_c_2.out.cap h5).mono ?_
  rintro e w3 ⟨rfl, hb3⟩
  have z3 := hb3.size
  (try simp at z3)
  have HK_q_3 : Hid (Bk w3 (w.heap.size) 30 #[.int .i64 li, .int .i64 by_, .slice A n cap, .int .i64 se, .int .i64 dr]) := Lib.hid (HK_q_2.out.old hb3)
  clear HK_q_2
  clear cb_q_0 cb_q_1 cb_q_2 cb_q_3 cb_q_4 zb_q
  have zb_q : w.heap.size < w3.heap.size := HK_q_3.out.lt
  have cb_q_0 : w3.cell? ⟨w.heap.size, 0, none⟩ = some (.int .i64 li) := HK_q_3.out.cell 0
  have cb_q_1 : w3.cell? ⟨w.heap.size, 1, none⟩ = some (.int .i64 by_) := HK_q_3.out.cell 1
  have cb_q_2 : w3.cell? ⟨w.heap.size, 2, none⟩ = some (.slice A n cap) := HK_q_3.out.cell 2
  have cb_q_3 : w3.cell? ⟨w.heap.size, 3, none⟩ = some (.int .i64 se) := HK_q_3.out.cell 3
  have cb_q_4 : w3.cell? ⟨w.heap.size, 4, none⟩ = some (.int .i64 dr) := HK_q_3.out.cell 4
  have HK_r_3 : Hid (Bk w3 (w.heap.size + 1) 30 #[.int .i64 0, .int .i64 0, .slice none 0 0, .int .i64 0, .int .i64 0]) := Lib.hid (HK_r_2.out.old hb3)
  clear HK_r_2
  clear cb_r_0 cb_r_1 cb_r_2 cb_r_3 cb_r_4 zb_r
  have zb_r : w.heap.size + 1 < w3.heap.size := HK_r_3.out.lt
  have cb_r_0 : w3.cell? ⟨w.heap.size + 1, 0, none⟩ = some (.int .i64 0) := HK_r_3.out.cell 0
  have cb_r_1 : w3.cell? ⟨w.heap.size + 1, 1, none⟩ = some (.int .i64 0) := HK_r_3.out.cell 1
  have cb_r_2 : w3.cell? ⟨w.heap.size + 1, 2, none⟩ = some (.slice none 0 0) := HK_r_3.out.cell 2
  have cb_r_3 : w3.cell? ⟨w.heap.size + 1, 3, none⟩ = some (.int .i64 0) := HK_r_3.out.cell 3
  have cb_r_4 : w3.cell? ⟨w.heap.size + 1, 4, none⟩ = some (.int .i64 0) := HK_r_3.out.cell 4
  have HK_l_3 : Hid (Bk w3 (w1.heap.size) 28 #[.slice A n cap, .slice B m capp]) := Lib.hid (HK_l_2.out.old hb3)
  clear HK_l_2
  clear cb_l_0 cb_l_1 zb_l
  have zb_l : w1.heap.size < w3.heap.size := HK_l_3.out.lt
  have cb_l_0 : w3.cell? ⟨w1.heap.size, 0, none⟩ = some (.slice A n cap) := HK_l_3.out.cell 0
  have cb_l_1 : w3.cell? ⟨w1.heap.size, 1, none⟩ = some (.slice B m capp) := HK_l_3.out.cell 1
  have HO_c_3 := Lib.hid (HO_c_2.out.old hb3)
  clear HO_c_2
  have HB_3 := Lib.hid (bt HB_2.out hb3)
  clear hb3
  have rf := HK_r_3.out.free
  go_wp2_with fail
  exact bodyPost_ret (v := .tuple #[.agg #[.int .i64 0, .int .i64 0, .slice none 0 0, .int .i64 0, .int .i64 0], .slice none 0 0, .slice none 0 0, .bool false]) (by simp [results, Try.results26, go_sem, cb_r_0, cb_r_1, cb_r_2, cb_r_3, cb_r_4]) rfl (by rw [HPD.out]; exact NewRQ.none_ rfl (by repeat (first | (with_reducible exact HB_3.out) | (with_reducible refine ba ?_ _) | (with_reducible refine bsB ?_ (by omega)) | (with_reducible refine bd ?_ _) | (with_reducible refine Below.drew ?_))))
set_option maxRecDepth 100000 in
set_option maxHeartbeats 8000000 in
theorem implRq_main (tt : Nat) (li by_ : Int) (A : Option Addr) (n cap : Nat) (se dr : Int) (L : List Pk) (B : Option Addr) (m capp : Nat) (P : List Pk) (w : World) (hl : L.length = n) (hr : IRow w A (fl L)) (hn : n ≤ 1048576) (hcap : n ≤ cap) (hA : A = none → cap = 0) (hl2 : P.length = m) (hr2 : IRow w B (fl P)) (h2 : m ≤ 60) (hcapp : m ≤ capp) (hB : B = none → capp = 0) (ht : tt ≤ 5) (h1 : qok li by_ L se dr = true) (h5 : apart (L ++ P) = true) :
    Calls Try.prog 26 #[.agg #[.int .i64 li, .int .i64 by_, .slice A n cap, .int .i64 se, .int .i64 dr], .slice B m capp, .int .i64 (tt : Int)] w (RqP w li by_ L se dr P (tt : Int)) := by
  have HL := Lib.hid hl
  have HLP := Lib.hid hl2
  have HR_a := Lib.hid hr
  have HR_p := Lib.hid hr2
  have HA := Lib.hid hA
  have HB := Lib.hid hB
  have g1 : ¬ (60 : Int) < (m : Int) := by omega
  have g2 : decide ((60 : Int) < (m : Int)) = false := decide_eq_false g1
  have g3 : ¬ (tt : Int) < 0 := by omega
  have g4 : decide ((tt : Int) < 0) = false := decide_eq_false g3
  have g5 : ¬ 5 < (tt : Int) := by omega
  have g6 : decide (5 < (tt : Int)) = false := decide_eq_false g5
  have n60 : n ≤ 60 := by have g := qok_iff.1 h1; have := HL.out; omega
  have g0 := qok_iff.1 h1
  have HBD := Lib.hid (fun (k : Nat) (x : Rq) (hk : k ≤ m) (hx : x = rqRun li by_ tt ⟨L, se, dr, [], []⟩ P k) => rqRun_n (li := li) (by_ := by_) (L := L) (P := P) (t := tt) (k := k) g0.2.2.2.1 g0.2.2.2.2.1 ht (by omega) (by omega) hx)
  have HOV := Lib.hid (fun (k : Nat) (hk : k ≤ m) (h : 1000000 < (rqRun li by_ tt ⟨L, se, dr, [], []⟩ P k).se ∨ 1000000 < (rqRun li by_ tt ⟨L, se, dr, [], []⟩ P k).dr) => RqP_no (w := w) (rqOk_over (li := li) (by_ := by_) (L := L) (se := se) (dr := dr) (P := P) (t := (tt : Int)) (k := k) (by omega) (by rw [Int.toNat_natCast]; exact h)))
  have HQ := Lib.hid h1
  have HAP := Lib.hid h5
  clear hl hr hA hl2 hr2 hB g0
  go_enter Try.func26, Try.ntmps26
  go_wp2_with fail
  refine (isQueue_b _ _ _ _ _ _ _ L _ HL.out (HR_a.out.below (ba (ba (b0 w) _) _)) (by omega) hcap HQ.out).mono ?_
  rintro e w1 ⟨rfl, hb1⟩
  have z1 := hb1.size
  (try simp at z1)
  have HK_q_1 : Hid (Bk w1 (w.heap.size) 30 #[.int .i64 li, .int .i64 by_, .slice A n cap, .int .i64 se, .int .i64 dr]) := Lib.hid (((Bk.new_ (by simp) : Bk _ (w.heap.size) 30 #[.int .i64 li, .int .i64 by_, .slice A n cap, .int .i64 se, .int .i64 dr]).alloc _).old hb1)
  have zb_q : w.heap.size < w1.heap.size := HK_q_1.out.lt
  have cb_q_0 : w1.cell? ⟨w.heap.size, 0, none⟩ = some (.int .i64 li) := HK_q_1.out.cell 0
  have cb_q_1 : w1.cell? ⟨w.heap.size, 1, none⟩ = some (.int .i64 by_) := HK_q_1.out.cell 1
  have cb_q_2 : w1.cell? ⟨w.heap.size, 2, none⟩ = some (.slice A n cap) := HK_q_1.out.cell 2
  have cb_q_3 : w1.cell? ⟨w.heap.size, 3, none⟩ = some (.int .i64 se) := HK_q_1.out.cell 3
  have cb_q_4 : w1.cell? ⟨w.heap.size, 4, none⟩ = some (.int .i64 dr) := HK_q_1.out.cell 4
  have HK_r_1 : Hid (Bk w1 (w.heap.size + 1) 30 #[.int .i64 0, .int .i64 0, .slice none 0 0, .int .i64 0, .int .i64 0]) := Lib.hid ((Bk.new_ (by simp) : Bk _ (w.heap.size + 1) 30 #[.int .i64 0, .int .i64 0, .slice none 0 0, .int .i64 0, .int .i64 0]).old hb1)
  have zb_r : w.heap.size + 1 < w1.heap.size := HK_r_1.out.lt
  have cb_r_0 : w1.cell? ⟨w.heap.size + 1, 0, none⟩ = some (.int .i64 0) := HK_r_1.out.cell 0
  have cb_r_1 : w1.cell? ⟨w.heap.size + 1, 1, none⟩ = some (.int .i64 0) := HK_r_1.out.cell 1
  have cb_r_2 : w1.cell? ⟨w.heap.size + 1, 2, none⟩ = some (.slice none 0 0) := HK_r_1.out.cell 2
  have cb_r_3 : w1.cell? ⟨w.heap.size + 1, 3, none⟩ = some (.int .i64 0) := HK_r_1.out.cell 3
  have cb_r_4 : w1.cell? ⟨w.heap.size + 1, 4, none⟩ = some (.int .i64 0) := HK_r_1.out.cell 4
  have HB_1 := Lib.hid (bt (ba (ba (b0 w) _) _) hb1)
  clear hb1
  go_wp2_with fail
  refine (concat_two _ L P _ (nrow_two (Bk.new_ rfl) HL.out (HR_a.out.below (ba HB_1.out _)) hcap HA.out HLP.out (HR_p.out.below (ba HB_1.out _)) hcapp HB.out) (by have := HL.out; have := HLP.out; omega)).mono ?_
  rintro e w2 ⟨A_c, n_c, cap_c, rfl, ho_c, hb2⟩
  have HN_c := Lib.hid ho_c.len
  have HO_c_2 := Lib.hid ho_c
  clear ho_c
  have z2 := hb2.size
  (try simp at z2)
  have HK_q_2 : Hid (Bk w2 (w.heap.size) 30 #[.int .i64 li, .int .i64 by_, .slice A n cap, .int .i64 se, .int .i64 dr]) := Lib.hid ((HK_q_1.out.alloc _).old hb2)
  clear HK_q_1
  clear cb_q_0 cb_q_1 cb_q_2 cb_q_3 cb_q_4 zb_q
  have zb_q : w.heap.size < w2.heap.size := HK_q_2.out.lt
  have cb_q_0 : w2.cell? ⟨w.heap.size, 0, none⟩ = some (.int .i64 li) := HK_q_2.out.cell 0
  have cb_q_1 : w2.cell? ⟨w.heap.size, 1, none⟩ = some (.int .i64 by_) := HK_q_2.out.cell 1
  have cb_q_2 : w2.cell? ⟨w.heap.size, 2, none⟩ = some (.slice A n cap) := HK_q_2.out.cell 2
  have cb_q_3 : w2.cell? ⟨w.heap.size, 3, none⟩ = some (.int .i64 se) := HK_q_2.out.cell 3
  have cb_q_4 : w2.cell? ⟨w.heap.size, 4, none⟩ = some (.int .i64 dr) := HK_q_2.out.cell 4
  have HK_r_2 : Hid (Bk w2 (w.heap.size + 1) 30 #[.int .i64 0, .int .i64 0, .slice none 0 0, .int .i64 0, .int .i64 0]) := Lib.hid ((HK_r_1.out.alloc _).old hb2)
  clear HK_r_1
  clear cb_r_0 cb_r_1 cb_r_2 cb_r_3 cb_r_4 zb_r
  have zb_r : w.heap.size + 1 < w2.heap.size := HK_r_2.out.lt
  have cb_r_0 : w2.cell? ⟨w.heap.size + 1, 0, none⟩ = some (.int .i64 0) := HK_r_2.out.cell 0
  have cb_r_1 : w2.cell? ⟨w.heap.size + 1, 1, none⟩ = some (.int .i64 0) := HK_r_2.out.cell 1
  have cb_r_2 : w2.cell? ⟨w.heap.size + 1, 2, none⟩ = some (.slice none 0 0) := HK_r_2.out.cell 2
  have cb_r_3 : w2.cell? ⟨w.heap.size + 1, 3, none⟩ = some (.int .i64 0) := HK_r_2.out.cell 3
  have cb_r_4 : w2.cell? ⟨w.heap.size + 1, 4, none⟩ = some (.int .i64 0) := HK_r_2.out.cell 4
  have HK_l_2 : Hid (Bk w2 (w1.heap.size) 28 #[.slice A n cap, .slice B m capp]) := Lib.hid ((Bk.new_ (by simp) : Bk _ (w1.heap.size) 28 #[.slice A n cap, .slice B m capp]).old hb2)
  have zb_l : w1.heap.size < w2.heap.size := HK_l_2.out.lt
  have cb_l_0 : w2.cell? ⟨w1.heap.size, 0, none⟩ = some (.slice A n cap) := HK_l_2.out.cell 0
  have cb_l_1 : w2.cell? ⟨w1.heap.size, 1, none⟩ = some (.slice B m capp) := HK_l_2.out.cell 1
  have HB_2 := Lib.hid (bt (ba HB_1.out _) hb2)
  clear hb2
  have hnc : (L ++ P).length = n_c := by have := HN_c.out; rw [fl_len] at this; omega
  have hnc2 : n_c ≤ 120 := by rw [List.length_append] at hnc; have := HL.out; have := HLP.out; omega
  go_wp2_with fail
  refine (apartIds_b _ _ _ (L ++ P) _ hnc HO_c_2.out.row (by omega) HO_c_2.out.cap h5).mono ?_
  rintro e w3 ⟨rfl, hb3⟩
  have z3 := hb3.size
  (try simp at z3)
  have HK_q_3 : Hid (Bk w3 (w.heap.size) 30 #[.int .i64 li, .int .i64 by_, .slice A n cap, .int .i64 se, .int .i64 dr]) := Lib.hid (HK_q_2.out.old hb3)
  clear HK_q_2
  clear cb_q_0 cb_q_1 cb_q_2 cb_q_3 cb_q_4 zb_q
  have zb_q : w.heap.size < w3.heap.size := HK_q_3.out.lt
  have cb_q_0 : w3.cell? ⟨w.heap.size, 0, none⟩ = some (.int .i64 li) := HK_q_3.out.cell 0
  have cb_q_1 : w3.cell? ⟨w.heap.size, 1, none⟩ = some (.int .i64 by_) := HK_q_3.out.cell 1
  have cb_q_2 : w3.cell? ⟨w.heap.size, 2, none⟩ = some (.slice A n cap) := HK_q_3.out.cell 2
  have cb_q_3 : w3.cell? ⟨w.heap.size, 3, none⟩ = some (.int .i64 se) := HK_q_3.out.cell 3
  have cb_q_4 : w3.cell? ⟨w.heap.size, 4, none⟩ = some (.int .i64 dr) := HK_q_3.out.cell 4
  have HK_r_3 : Hid (Bk w3 (w.heap.size + 1) 30 #[.int .i64 0, .int .i64 0, .slice none 0 0, .int .i64 0, .int .i64 0]) := Lib.hid (HK_r_2.out.old hb3)
  clear HK_r_2
  clear cb_r_0 cb_r_1 cb_r_2 cb_r_3 cb_r_4 zb_r
  have zb_r : w.heap.size + 1 < w3.heap.size := HK_r_3.out.lt
  have cb_r_0 : w3.cell? ⟨w.heap.size + 1, 0, none⟩ = some (.int .i64 0) := HK_r_3.out.cell 0
  have cb_r_1 : w3.cell? ⟨w.heap.size + 1, 1, none⟩ = some (.int .i64 0) := HK_r_3.out.cell 1
  have cb_r_2 : w3.cell? ⟨w.heap.size + 1, 2, none⟩ = some (.slice none 0 0) := HK_r_3.out.cell 2
  have cb_r_3 : w3.cell? ⟨w.heap.size + 1, 3, none⟩ = some (.int .i64 0) := HK_r_3.out.cell 3
  have cb_r_4 : w3.cell? ⟨w.heap.size + 1, 4, none⟩ = some (.int .i64 0) := HK_r_3.out.cell 4
  have HK_l_3 : Hid (Bk w3 (w1.heap.size) 28 #[.slice A n cap, .slice B m capp]) := Lib.hid (HK_l_2.out.old hb3)
  clear HK_l_2
  clear cb_l_0 cb_l_1 zb_l
  have zb_l : w1.heap.size < w3.heap.size := HK_l_3.out.lt
  have cb_l_0 : w3.cell? ⟨w1.heap.size, 0, none⟩ = some (.slice A n cap) := HK_l_3.out.cell 0
  have cb_l_1 : w3.cell? ⟨w1.heap.size, 1, none⟩ = some (.slice B m capp) := HK_l_3.out.cell 1
  have HO_c_3 := Lib.hid (HO_c_2.out.old hb3)
  clear HO_c_2
  have HB_3 := Lib.hid (bt HB_2.out hb3)
  clear hb3
  go_wp2_with fail
  refine (copyQueue_any _ _ _ _ _ _ _ L _ HL.out (HR_a.out.below HB_3.out) (by omega)).mono ?_
  rintro e w4 ⟨A_v, cap_v, rfl, ho_v, hb4⟩
  have HN_v := Lib.hid ho_v.len
  have HO_v_4 := Lib.hid ho_v
  clear ho_v
  have z4 := hb4.size
  (try simp at z4)
  have HK_q_4 : Hid (Bk w4 (w.heap.size) 30 #[.int .i64 li, .int .i64 by_, .slice A n cap, .int .i64 se, .int .i64 dr]) := Lib.hid (HK_q_3.out.old hb4)
  clear HK_q_3
  clear cb_q_0 cb_q_1 cb_q_2 cb_q_3 cb_q_4 zb_q
  have zb_q : w.heap.size < w4.heap.size := HK_q_4.out.lt
  have cb_q_0 : w4.cell? ⟨w.heap.size, 0, none⟩ = some (.int .i64 li) := HK_q_4.out.cell 0
  have cb_q_1 : w4.cell? ⟨w.heap.size, 1, none⟩ = some (.int .i64 by_) := HK_q_4.out.cell 1
  have cb_q_2 : w4.cell? ⟨w.heap.size, 2, none⟩ = some (.slice A n cap) := HK_q_4.out.cell 2
  have cb_q_3 : w4.cell? ⟨w.heap.size, 3, none⟩ = some (.int .i64 se) := HK_q_4.out.cell 3
  have cb_q_4 : w4.cell? ⟨w.heap.size, 4, none⟩ = some (.int .i64 dr) := HK_q_4.out.cell 4
  have HK_r_4 : Hid (Bk w4 (w.heap.size + 1) 30 #[.int .i64 0, .int .i64 0, .slice none 0 0, .int .i64 0, .int .i64 0]) := Lib.hid (HK_r_3.out.old hb4)
  clear HK_r_3
  clear cb_r_0 cb_r_1 cb_r_2 cb_r_3 cb_r_4 zb_r
  have zb_r : w.heap.size + 1 < w4.heap.size := HK_r_4.out.lt
  have cb_r_0 : w4.cell? ⟨w.heap.size + 1, 0, none⟩ = some (.int .i64 0) := HK_r_4.out.cell 0
  have cb_r_1 : w4.cell? ⟨w.heap.size + 1, 1, none⟩ = some (.int .i64 0) := HK_r_4.out.cell 1
  have cb_r_2 : w4.cell? ⟨w.heap.size + 1, 2, none⟩ = some (.slice none 0 0) := HK_r_4.out.cell 2
  have cb_r_3 : w4.cell? ⟨w.heap.size + 1, 3, none⟩ = some (.int .i64 0) := HK_r_4.out.cell 3
  have cb_r_4 : w4.cell? ⟨w.heap.size + 1, 4, none⟩ = some (.int .i64 0) := HK_r_4.out.cell 4
  have HK_l_4 : Hid (Bk w4 (w1.heap.size) 28 #[.slice A n cap, .slice B m capp]) := Lib.hid (HK_l_3.out.old hb4)
  clear HK_l_3
  clear cb_l_0 cb_l_1 zb_l
  have zb_l : w1.heap.size < w4.heap.size := HK_l_4.out.lt
  have cb_l_0 : w4.cell? ⟨w1.heap.size, 0, none⟩ = some (.slice A n cap) := HK_l_4.out.cell 0
  have cb_l_1 : w4.cell? ⟨w1.heap.size, 1, none⟩ = some (.slice B m capp) := HK_l_4.out.cell 1
  have HO_c_4 := Lib.hid (HO_c_3.out.old hb4)
  clear HO_c_3
  have HB_4 := Lib.hid (bt HB_3.out hb4)
  clear hb4
  go_wp2_with fail
  obtain ⟨w5, hW⟩ : ∃ x, x = ((w4.alloc (.cells #[.int .i64 li, .int .i64 by_, .slice A_v n cap_v, .int .i64 se, .int .i64 dr] 30)).alloc (.cells #[] 3)).alloc (.cells #[] 3) := ⟨_, rfl⟩
  rw [← hW]
  have O5 := Lib.hid (show Bk w5 w4.heap.size 30 #[.int .i64 li, .int .i64 by_, .slice A_v n cap_v, .int .i64 se, .int .i64 dr] from by rw [hW]; exact ((Bk.new w4 _ _).alloc _).alloc _)
  have R5 := Lib.hid (show Bk w5 (w.heap.size + 1) 30 #[.int .i64 0, .int .i64 0, .slice none 0 0, .int .i64 0, .int .i64 0] from by rw [hW]; exact ((HK_r_4.out.alloc _).alloc _).alloc _)
  have z5 : w5.heap.size = w4.heap.size + 1 + 1 + 1 := by rw [hW]; simp
  have S5 := Lib.hid (show RqO (w.heap.size + 1 + 1) w4.heap.size w5 L [] [] A_v cap_v (some ⟨w4.heap.size + 1, 0, none⟩) 0 0 (some ⟨w4.heap.size + 1 + 1, 0, none⟩) 0 0 w3.heap.size w4.heap.size (w4.heap.size + 1) (w4.heap.size + 1 + 1) (w4.heap.size + 1 + 1) (w4.heap.size + 1 + 1 + 1) from by
    have hl := HL.out
    subst hl
    refine ⟨?_, ?_, ?_, by omega, by omega, by omega⟩
    · rw [hW]; exact ((HO_v_4.out.alloc _).alloc _).alloc _
    · rw [hW]
      have h := (IOwn.lit0 (w4.alloc (.cells #[.int .i64 li, .int .i64 by_, .slice A_v L.length cap_v, .int .i64 se, .int .i64 dr] 30)) (w4.heap.size + 1) 3 1 (by simp)).alloc (.cells #[] 3)
      simpa using h
    · rw [hW]
      have h := IOwn.lit0 ((w4.alloc (.cells #[.int .i64 li, .int .i64 by_, .slice A_v L.length cap_v, .int .i64 se, .int .i64 dr] 30)).alloc (.cells #[] 3)) (w4.heap.size + 1 + 1) 3 1 (by simp)
      simpa using h)
  have B5 := Lib.hid (show Below w.heap.size w w5 from by rw [hW]; exact ba (ba (ba HB_4.out _) _) _)
  have zlo : w.heap.size + 1 + 1 ≤ w3.heap.size := by omega
  have zn4 : w.heap.size + 1 + 1 ≤ w4.heap.size := by omega
  clear hW cb_r_0 cb_r_1 cb_r_2 cb_r_3 cb_r_4 cb_q_0 cb_q_1 cb_q_2 cb_q_3 cb_q_4 cb_l_0 cb_l_1 HK_q_4 HK_r_4 HK_l_4 HO_v_4 HO_c_4
  go_loopw [54, 11, 12] (fun z v11 v12 wr => ∃ (k : Nat) (x : Rq) (X : Option Addr) (xn xc : Nat) (TA : Option Addr) (tn tc : Nat) (DA : Option Addr) (dn dc ll lh tl th dl dh : Nat), k ≤ m ∧ z = .int .i64 k ∧ v11 = .slice TA tn tc ∧ v12 = .slice DA dn dc ∧ x = rqRun li by_ tt ⟨L, se, dr, [], []⟩ P k ∧ x.L.length = xn ∧ (cnt x.se && cnt x.dr) = true ∧ RqI li by_ L P k x.L ∧ RqO (w.heap.size + 1 + 1) w4.heap.size wr x.L x.T x.D X xc TA tn tc DA dn dc ll lh tl th dl dh ∧ Bk wr w4.heap.size 30 #[.int .i64 li, .int .i64 by_, .slice X xn xc, .int .i64 x.se, .int .i64 x.dr] ∧ Bk wr (w.heap.size + 1) 30 #[.int .i64 0, .int .i64 0, .slice none 0 0, .int .i64 0, .int .i64 0] ∧ Below w.heap.size w wr) (fun z _ _ _ => m - (intOf z).toNat)
  case atStart => exact ⟨0, ⟨L, se, dr, [], []⟩, A_v, n, cap_v, some ⟨w4.heap.size + 1, 0, none⟩, 0, 0, some ⟨w4.heap.size + 1 + 1, 0, none⟩, 0, 0, w3.heap.size, w4.heap.size, w4.heap.size + 1, w4.heap.size + 1 + 1, w4.heap.size + 1 + 1, w4.heap.size + 1 + 1 + 1, Nat.zero_le _, rfl, rfl, rfl, (rqRun_zero _ _ _ _ _).symm, HL.out, by have g := qok_iff.1 HQ.out; rw [cnt_iff.2 g.2.2.2.1, cnt_iff.2 g.2.2.2.2.1]; rfl, RqI.zero HQ.out, S5.out, O5.out, R5.out, B5.out⟩
  case round =>
    obtain ⟨k, x, X, xn, xc, TA, tn, tc, DA, dn, dc, ll, lh, tl, th, dl, dh, hk, rfl, rfl, rfl, hx, hxn, hcn, hri, hrs, hqb, hrb, hbw⟩ := hrel
    obtain ⟨w6, hw6⟩ : ∃ y, y = wr := ⟨_, rfl⟩
    subst hw6
    have HBX := Lib.hid (HBD.out k x hk hx)
    obtain ⟨⟨s1, s2⟩, ⟨d1, d2⟩, t1, u1⟩ := HBD.out k x hk hx
    have htn : x.T.length = tn := by have := hrs.t.len; omega
    have hdn : x.D.length = dn := by have := hrs.d.len; omega
    have hx60 : xn ≤ 60 := by have := hri.len; omega
    obtain ⟨r1, r2, r3, r4, r5, r6, r7, r8, r9⟩ := hrs.r
    obtain ⟨rs1, rs2, rs3⟩ := hrs.s
    obtain ⟨rb1, rb2, rb3⟩ := hrs.b
    have HX := Lib.hid hx
    have HXN := Lib.hid hxn
    have HCN := Lib.hid hcn
    have HRI := Lib.hid hri
    have HRS := Lib.hid hrs
    have HQB := Lib.hid hqb
    have HRB := Lib.hid hrb
    have HBW := Lib.hid hbw
    have zw6 := hbw.size
    clear hx hxn hcn hri hrs hqb hrb hbw
    have q : Bk w6 (w4.heap.size) 30 #[.int .i64 li, .int .i64 by_, .slice X xn xc, .int .i64 x.se, .int .i64 x.dr] := HQB.out
    have zq : w4.heap.size < w6.heap.size := q.lt
    have q_0 : w6.cell? ⟨w4.heap.size, 0, none⟩ = some (.int .i64 li) := q.cell 0
    have q_1 : w6.cell? ⟨w4.heap.size, 1, none⟩ = some (.int .i64 by_) := q.cell 1
    have q_2 : w6.cell? ⟨w4.heap.size, 2, none⟩ = some (.slice X xn xc) := q.cell 2
    have q_3 : w6.cell? ⟨w4.heap.size, 3, none⟩ = some (.int .i64 x.se) := q.cell 3
    have q_4 : w6.cell? ⟨w4.heap.size, 4, none⟩ = some (.int .i64 x.dr) := q.cell 4
    have qf := q.free
    have Hq := Lib.hid q
    clear q
    by_cases hlt : k < m
    · obtain ⟨g, off, p, rfl, hg, hpk, f0, f1, f2, f3, f4, f5⟩ := pk_at (HR_p.out.below HBW.out) (k := k) (by have := HLP.out; omega)
      have HP := Lib.hid hpk
      have HRU := Lib.hid (rqRun_succ (li := li) (by_ := by_) (t := tt) (x := ⟨L, se, dr, [], []⟩) hpk)
      have HAK := Lib.hid (show askd li by_ x.L x.se x.dr p = true from by obtain ⟨a1, a2, -⟩ := HRI.out.next HAP.out hpk; exact askd_iff.2 ⟨by rw [HRI.out.cnt]; exact HCN.out, a1, a2⟩)
      have HPT := Lib.hid (implPutTail_any li by_ X xn xc x.se x.dr x.L p (w6.alloc (.cells #[.int .i64 p.id, .int .i64 p.so, .int .i64 p.de, .int .i64 p.po, .int .i64 p.ma, .int .i64 p.si] 35)) HXN.out (HRS.out.l.row.below (ba (Go.Proofs.Ytgdldmeeaejjpaa.b0 w6) _)) (by omega) (by have := HRS.out.l.cap; have := HXN.out; omega) HRS.out.l.none_cap)
      clear hpk
      rcases hro : room li by_ x.L p with _ | _
      · rcases hc : cnt (x.dr + 1) with _ | _
        · have HPD := Lib.hid (HOV.out (k + 1) (by omega) (.inr (by rw [HRU.out, ← HX.out]; have hb := rqStep_b li by_ tt x p; have hp := rqTake_b (rqPut li by_ x p) (min tt (rqPut li by_ x p).L.length); unfold rqStep; rw [hp.2.1, rqPut_no hro]; have := of_decide_eq_false hc; simp only; omega)))
          have hpt := HPT.out
          rw [PtP_no (show ptOk li by_ x.L x.se x.dr p = false from by unfold ptOk; rw [hro, hc, Bool.or_self, Bool.and_false])] at hpt
          go_wp2_with fail
          refine hpt.mono ?_
          clear hpt
          rintro e w7 ⟨A7, c7, rfl, ho7, hb7⟩
          have z7 := hb7.size
          simp at z7
          have HQ7 := Lib.hid ((HQB.out.alloc _).old hb7)
          have HR7 := Lib.hid ((HRB.out.alloc _).old hb7)
          have HB7 := Lib.hid (bt (ba HBW.out _) hb7)
          have hy7 : Bk w7 w6.heap.size 35 #[.int .i64 p.id, .int .i64 p.so, .int .i64 p.de, .int .i64 p.po, .int .i64 p.ma, .int .i64 p.si] := (Bk.new_ rfl).old hb7
          clear hy7 ho7 hb7 q_0 q_1 q_2 q_3 q_4 qf f0 f1 f2 f3 f4 f5 zq
          have q : Bk w7 (w4.heap.size) 30 #[.int .i64 li, .int .i64 by_, .slice X xn xc, .int .i64 x.se, .int .i64 x.dr] := HQ7.out
          have zq : w4.heap.size < w7.heap.size := q.lt
          have q_0 : w7.cell? ⟨w4.heap.size, 0, none⟩ = some (.int .i64 li) := q.cell 0
          have q_1 : w7.cell? ⟨w4.heap.size, 1, none⟩ = some (.int .i64 by_) := q.cell 1
          have q_2 : w7.cell? ⟨w4.heap.size, 2, none⟩ = some (.slice X xn xc) := q.cell 2
          have q_3 : w7.cell? ⟨w4.heap.size, 3, none⟩ = some (.int .i64 x.se) := q.cell 3
          have q_4 : w7.cell? ⟨w4.heap.size, 4, none⟩ = some (.int .i64 x.dr) := q.cell 4
          have qf := q.free
          have Hq := Lib.hid q
          clear q
          have r : Bk w7 (w.heap.size + 1) 30 #[.int .i64 0, .int .i64 0, .slice none 0 0, .int .i64 0, .int .i64 0] := HR7.out
          have zr : w.heap.size + 1 < w7.heap.size := r.lt
          have r_0 : w7.cell? ⟨w.heap.size + 1, 0, none⟩ = some (.int .i64 0) := r.cell 0
          have r_1 : w7.cell? ⟨w.heap.size + 1, 1, none⟩ = some (.int .i64 0) := r.cell 1
          have r_2 : w7.cell? ⟨w.heap.size + 1, 2, none⟩ = some (.slice none 0 0) := r.cell 2
          have r_3 : w7.cell? ⟨w.heap.size + 1, 3, none⟩ = some (.int .i64 0) := r.cell 3
          have r_4 : w7.cell? ⟨w.heap.size + 1, 4, none⟩ = some (.int .i64 0) := r.cell 4
          have rf := r.free
          have Hr := Lib.hid r
          clear r
          go_wp2_with fail
          exact bodyPost_ret (v := .tuple #[.agg #[.int .i64 0, .int .i64 0, .slice none 0 0, .int .i64 0, .int .i64 0], .slice none 0 0, .slice none 0 0, .bool false]) (by simp [results, Try.results26, go_sem, r_0, r_1, r_2, r_3, r_4, zr]) rfl (by rw [HPD.out]; exact NewRQ.none_ rfl (by repeat (first | (with_reducible exact HB7.out) | (with_reducible refine ba ?_ _) | (with_reducible refine bsB ?_ (by omega)) | (with_reducible refine bd ?_ _) | (with_reducible refine Below.drew ?_))))
        · have HY := Lib.hid (rqPut_no (x := x) hro)
          have HRY := Lib.hid (show RqI li by_ L P (k + 1) (rqPut li by_ x p).L from by rw [HY.out]; exact HRI.out.more)
          have HCY := Lib.hid (show (cnt (rqPut li by_ x p).se && cnt (rqPut li by_ x p).dr) = true from by rw [HY.out]; have h := HCN.out; rw [Bool.and_eq_true] at h ⊢; exact ⟨h.1, hc⟩)
          have hpt := HPT.out
          rw [PtP_full HAK.out hro hc] at hpt
          go_wp2_with fail
          refine hpt.mono ?_
          clear hpt
          rintro e w7 ⟨A7, c7, rfl, ho7, hb7⟩
          have HRS7 := Lib.hid ((HRS.out.alloc _).newL hb7 (n' := xn) (by have h := ho7; simpa [HXN.out] using h) (by first | exact HXN.out | (have := HXN.out; simp; omega) | (simp; exact HXN.out)))
          have z7 := hb7.size
          simp at z7
          have HQ7 := Lib.hid ((HQB.out.alloc _).old hb7)
          have HR7 := Lib.hid ((HRB.out.alloc _).old hb7)
          have HB7 := Lib.hid (bt (ba HBW.out _) hb7)
          have hy7 : Bk w7 w6.heap.size 35 #[.int .i64 p.id, .int .i64 p.so, .int .i64 p.de, .int .i64 p.po, .int .i64 p.ma, .int .i64 p.si] := (Bk.new_ rfl).old hb7
          rw [HXN.out]
          clear ho7 hb7 q_0 q_1 q_2 q_3 q_4 qf f0 f1 f2 f3 f4 f5 zq
          have q : Bk w7 (w4.heap.size) 30 #[.int .i64 li, .int .i64 by_, .slice X xn xc, .int .i64 x.se, .int .i64 x.dr] := HQ7.out
          have zq : w4.heap.size < w7.heap.size := q.lt
          have q_0 : w7.cell? ⟨w4.heap.size, 0, none⟩ = some (.int .i64 li) := q.cell 0
          have q_1 : w7.cell? ⟨w4.heap.size, 1, none⟩ = some (.int .i64 by_) := q.cell 1
          have q_2 : w7.cell? ⟨w4.heap.size, 2, none⟩ = some (.slice X xn xc) := q.cell 2
          have q_3 : w7.cell? ⟨w4.heap.size, 3, none⟩ = some (.int .i64 x.se) := q.cell 3
          have q_4 : w7.cell? ⟨w4.heap.size, 4, none⟩ = some (.int .i64 x.dr) := q.cell 4
          have qf := q.free
          have Hq := Lib.hid q
          clear q
          have y : Bk w7 (w6.heap.size) 35 #[.int .i64 p.id, .int .i64 p.so, .int .i64 p.de, .int .i64 p.po, .int .i64 p.ma, .int .i64 p.si] := hy7
          have zy : w6.heap.size < w7.heap.size := y.lt
          have y_0 : w7.cell? ⟨w6.heap.size, 0, none⟩ = some (.int .i64 p.id) := y.cell 0
          have y_1 : w7.cell? ⟨w6.heap.size, 1, none⟩ = some (.int .i64 p.so) := y.cell 1
          have y_2 : w7.cell? ⟨w6.heap.size, 2, none⟩ = some (.int .i64 p.de) := y.cell 2
          have y_3 : w7.cell? ⟨w6.heap.size, 3, none⟩ = some (.int .i64 p.po) := y.cell 3
          have y_4 : w7.cell? ⟨w6.heap.size, 4, none⟩ = some (.int .i64 p.ma) := y.cell 4
          have y_5 : w7.cell? ⟨w6.heap.size, 5, none⟩ = some (.int .i64 p.si) := y.cell 5
          have yf := y.free
          have Hy := Lib.hid y
          clear y
          clear hy7
          go_wp2_with (at_builtin; refine append_intD rfl _ _ rfl (lo := dl) (hh := dh) (l := x.D) rfl (RqO.d (s0 := w.heap.size + 1 + 1) (Bn := w4.heap.size) (L := x.L) (T := x.T) (A := A7) (cap := c7) (TA := TA) (tn := tn) (tc := tc) (ll := (w6.alloc (.cells #[.int .i64 p.id, .int .i64 p.so, .int .i64 p.de, .int .i64 p.po, .int .i64 p.ma, .int .i64 p.si] 35)).heap.size) (lh := w7.heap.size) (tl := tl) (th := th) (by repeat' (first | (with_reducible exact HRS7.out) | (with_reducible refine RqO.alloc ?_ _) | (with_reducible refine RqO.drew ?_) | (with_reducible refine RqO.farC ?_) | omega | (simp; omega)))) (w7.heap.size + 1) p.id rfl ((Bk.new_ (by simp)).cell 0) (by omega) (by simp; omega) ?_; intro DA8 dc8 w8 dl8 dh8 hlh ho8 hc8)
          have HRS8 := Lib.hid (RqO.addD (s0 := w.heap.size + 1 + 1) (Bn := w4.heap.size) (L := x.L) (T := x.T) (D := x.D) (A := A7) (cap := c7) (TA := TA) (tn := tn) (tc := tc) (DA := DA) (dn := dn) (dc := dc) (ll := (w6.alloc (.cells #[.int .i64 p.id, .int .i64 p.so, .int .i64 p.de, .int .i64 p.po, .int .i64 p.ma, .int .i64 p.si] 35)).heap.size) (lh := w7.heap.size) (tl := tl) (th := th) (by repeat' (first | (with_reducible exact HRS7.out) | (with_reducible refine RqO.alloc ?_ _) | (with_reducible refine RqO.drew ?_) | (with_reducible refine RqO.farC ?_) | omega | (simp; omega))) ho8 hc8 hlh)
          have HQ8 := Lib.hid (show Bk w8 w4.heap.size 30 #[.int .i64 li, .int .i64 by_, .slice A7 xn c7, .int .i64 x.se, .int .i64 (x.dr + 1)] from Bk.chg (by repeat' (first | (with_reducible exact HQ7.out) | (with_reducible apply Bk.setx) | (with_reducible refine Bk.farB ?_ (by omega)) | (with_reducible refine Bk.alloc ?_ _) | (with_reducible refine Bk.drew ?_) | rfl)) hc8 (by omega))
          have HR8 := Lib.hid (show Bk w8 (w.heap.size + 1) 30 #[.int .i64 0, .int .i64 0, .slice none 0 0, .int .i64 0, .int .i64 0] from Bk.chg (by repeat' (first | (with_reducible exact HR7.out) | (with_reducible apply Bk.setx) | (with_reducible refine Bk.farB ?_ (by omega)) | (with_reducible refine Bk.alloc ?_ _) | (with_reducible refine Bk.drew ?_) | rfl)) hc8 (by omega))
          have HB8 := Lib.hid (show Below w.heap.size w w8 from Chg.below (by repeat (first | (with_reducible exact HB7.out) | (with_reducible refine ba ?_ _) | (with_reducible refine bsB ?_ (by omega)) | (with_reducible refine bd ?_ _) | (with_reducible refine Below.drew ?_))) hc8 (by omega))
          have z8 := hc8.size
          simp at z8 hlh
          clear ho8 hc8 y_0 y_1 y_2 y_3 y_4 y_5 yf
          clear q_0 q_1 q_2 q_3 q_4 qf zq hro hc
          go_loopw [18, 11] (fun z v11 wr => ∃ (j : Nat) (X : Option Addr) (xn xc : Nat) (TA : Option Addr) (tn tc ll lh tl th : Nat), j ≤ tt ∧ j ≤ (rqPut li by_ x p).L.length ∧ z = .int .i64 j ∧ v11 = .slice TA tn tc ∧ (rqTake (rqPut li by_ x p) j).L.length = xn ∧ (cnt (rqTake (rqPut li by_ x p) j).se && cnt (rqTake (rqPut li by_ x p) j).dr) = true ∧ RqO (w.heap.size + 1 + 1) w4.heap.size wr (rqTake (rqPut li by_ x p) j).L (rqTake (rqPut li by_ x p) j).T (rqTake (rqPut li by_ x p) j).D X xc TA tn tc DA8 (dn + 1) dc8 ll lh tl th dl8 dh8 ∧ Bk wr w4.heap.size 30 #[.int .i64 li, .int .i64 by_, .slice X xn xc, .int .i64 (rqTake (rqPut li by_ x p) j).se, .int .i64 (rqTake (rqPut li by_ x p) j).dr] ∧ Bk wr (w.heap.size + 1) 30 #[.int .i64 0, .int .i64 0, .slice none 0 0, .int .i64 0, .int .i64 0] ∧ Below w.heap.size w wr) (fun z _ _ => tt - (intOf z).toNat)
          case atStart => exact ⟨0, A7, xn, c7, TA, tn, tc, _, _, tl, th, Nat.zero_le _, Nat.zero_le _, rfl, rfl, by rw [rqTake_zero, HY.out]; have := HXN.out; simp; try omega, by rw [rqTake_zero]; exact HCY.out, by simp only [rqTake_zero, HY.out]; exact HRS8.out, by simp only [rqTake_zero, HY.out]; exact HQ8.out, HR8.out, HB8.out⟩
          case round =>
            obtain ⟨j, X9, n9, c9, TA9, tn9, tc9, ll9, lh9, tl9, th9, hj, hjl, rfl, rfl, hn9, hcn9, hrs9, hqb9, hrb9, hbw9⟩ := hrel
            obtain ⟨w9, hw9⟩ : ∃ y, y = wr := ⟨_, rfl⟩
            subst hw9
            obtain ⟨z9, hz9⟩ : ∃ z, z = rqTake (rqPut li by_ x p) j := ⟨_, rfl⟩
            rw [← hz9] at hn9 hrs9 hqb9 hcn9
            obtain ⟨⟨e1, e2⟩, ⟨e3, e4⟩, e5, e6⟩ := rqPut_n HBX.out (by omega) hz9
            have htn9 : z9.T.length = tn9 := by have := hrs9.t.len; omega
            obtain ⟨o1, o2, o3, o4, o5, o6, o7, o8, o9⟩ := hrs9.r
            obtain ⟨os1, os2, os3⟩ := hrs9.s
            obtain ⟨ob1, ob2, ob3⟩ := hrs9.b
            have hzL : z9.L.length = (rqPut li by_ x p).L.length - j := by rw [hz9]; simp [rqTake]
            have hRI9 : RqI li by_ L P (k + 1) z9.L := by rw [hz9]; exact HRY.out.drop j
            have n960 : n9 ≤ 60 := by have := hRI9.len; omega
            have zw9 := hbw9.size
            have HRI9 := Lib.hid hRI9
            have HZ9 := Lib.hid hz9
            have HN9 := Lib.hid hn9
            have HCN9 := Lib.hid hcn9
            have HRS9 := Lib.hid hrs9
            have HQ9 := Lib.hid hqb9
            have HR9 := Lib.hid hrb9
            have HB9 := Lib.hid hbw9
            clear hz9 hrs9 hqb9 hrb9 hbw9 hRI9 hcn9
            have q : Bk w9 (w4.heap.size) 30 #[.int .i64 li, .int .i64 by_, .slice X9 n9 c9, .int .i64 z9.se, .int .i64 z9.dr] := HQ9.out
            have zq : w4.heap.size < w9.heap.size := q.lt
            have q_0 : w9.cell? ⟨w4.heap.size, 0, none⟩ = some (.int .i64 li) := q.cell 0
            have q_1 : w9.cell? ⟨w4.heap.size, 1, none⟩ = some (.int .i64 by_) := q.cell 1
            have q_2 : w9.cell? ⟨w4.heap.size, 2, none⟩ = some (.slice X9 n9 c9) := q.cell 2
            have q_3 : w9.cell? ⟨w4.heap.size, 3, none⟩ = some (.int .i64 z9.se) := q.cell 3
            have q_4 : w9.cell? ⟨w4.heap.size, 4, none⟩ = some (.int .i64 z9.dr) := q.cell 4
            have qf := q.free
            have Hq := Lib.hid q
            clear q
            by_cases hjt : j < tt
            rotate_left
            · have HMIN := Lib.hid (show min tt (rqPut li by_ x p).L.length = j from by omega)
              have hji : ¬ (j : Int) < (tt : Int) := by omega
              go_wp2_with fail
              go_roundw
              case rel => exact ⟨k + 1, z9, X9, n9, c9, TA9, tn9, tc9, DA8, (dn + 1), dc8, ll9, lh9, tl9, th9, dl8, dh8, by omega, by go_num, rfl, rfl, by rw [HRU.out, ← HX.out]; unfold rqStep; rw [HMIN.out]; exact HZ9.out, HN9.out, HCN9.out, HRI9.out, HRS9.out, HQ9.out, HR9.out, HB9.out⟩
              case measure => simp [intOf]; omega
            rcases hz : z9.L with _ | ⟨p0, Tl⟩
            · have HMIN := Lib.hid (show min tt (rqPut li by_ x p).L.length = j from by rw [hz] at hzL; simp at hzL; omega)
              obtain rfl : n9 = 0 := by rw [hz] at hn9; simpa using hn9.symm
              have hji : (j : Int) < (tt : Int) := by omega
              go_wp2_with fail
              go_roundw
              case rel => exact ⟨k + 1, z9, X9, 0, c9, TA9, tn9, tc9, DA8, (dn + 1), dc8, ll9, lh9, tl9, th9, dl8, dh8, by omega, by go_num, rfl, rfl, by rw [HRU.out, ← HX.out]; unfold rqStep; rw [HMIN.out]; exact HZ9.out, HN9.out, HCN9.out, HRI9.out, HRS9.out, HQ9.out, HR9.out, HB9.out⟩
              case measure => simp [intOf]; omega
            obtain rfl : n9 = Tl.length + 1 := by rw [hz] at hn9; simpa using hn9.symm
            have HS9 := Lib.hid (show rqTake (rqPut li by_ x p) (j + 1) = ⟨Tl, z9.se + 1, z9.dr, z9.T ++ [p0.id], z9.D⟩ from by have h := HZ9.out; subst h; exact rqTake_succ hz)
            have hjL : j < (rqPut li by_ x p).L.length := by rw [hz] at hzL; simp at hzL; omega
            have HQK := Lib.hid (show qok li by_ (p0 :: Tl) z9.se z9.dr = true from by rw [← hz, HRI9.out.cnt]; exact HCN9.out)
            have HTH := Lib.hid (implTakeHead_any li by_ X9 (Tl.length + 1) c9 z9.se z9.dr (p0 :: Tl) w9 (by simp) (by rw [← hz]; exact HRS9.out.l.row) (by omega) (by have := HRS9.out.l.cap; rw [hz] at this; simpa using this))
            have hji : (j : Int) < (tt : Int) := by omega
            have hlen0 : (0 : Int) < (Tl.length : Int) + 1 := by omega
            have HZL := Lib.hid hz
            clear hz hzL hn9
            rcases hc1 : cnt (z9.se + 1) with _ | _
            · have HPD := Lib.hid (HOV.out (k + 1) (by omega) (.inl (by rw [HRU.out, ← HX.out]; unfold rqStep; have hp := rqTake_b (rqPut li by_ x p) (min tt (rqPut li by_ x p).L.length); have hq := (rqTake_b (rqPut li by_ x p) j).1; rw [← HZ9.out] at hq; rw [hp.1]; have hm : j + 1 ≤ min tt (rqPut li by_ x p).L.length := by omega
                                                                        have := of_decide_eq_false hc1; omega)))
              have hth := HTH.out
              rw [ThP_no (show thOk li by_ (p0 :: Tl) z9.se z9.dr = false from by unfold thOk; rw [hc1, Bool.and_false])] at hth
              go_wp2_with fail
              refine hth.mono ?_
              clear hth
              rintro e w10 ⟨A10, c10, rfl, ho10, hb10⟩
              have HB10 := Lib.hid (bt HB9.out hb10)
              have HQ10 := Lib.hid (HQ9.out.old hb10)
              clear q_0 q_1 q_2 q_3 q_4 qf zq
              have q : Bk w10 (w4.heap.size) 30 #[.int .i64 li, .int .i64 by_, .slice X9 (Tl.length + 1) c9, .int .i64 z9.se, .int .i64 z9.dr] := HQ10.out
              have zq : w4.heap.size < w10.heap.size := q.lt
              have q_0 : w10.cell? ⟨w4.heap.size, 0, none⟩ = some (.int .i64 li) := q.cell 0
              have q_1 : w10.cell? ⟨w4.heap.size, 1, none⟩ = some (.int .i64 by_) := q.cell 1
              have q_2 : w10.cell? ⟨w4.heap.size, 2, none⟩ = some (.slice X9 (Tl.length + 1) c9) := q.cell 2
              have q_3 : w10.cell? ⟨w4.heap.size, 3, none⟩ = some (.int .i64 z9.se) := q.cell 3
              have q_4 : w10.cell? ⟨w4.heap.size, 4, none⟩ = some (.int .i64 z9.dr) := q.cell 4
              have qf := q.free
              have Hq := Lib.hid q
              clear q
              have r : Bk w10 (w.heap.size + 1) 30 #[.int .i64 0, .int .i64 0, .slice none 0 0, .int .i64 0, .int .i64 0] := HR9.out.old hb10
              have zr : w.heap.size + 1 < w10.heap.size := r.lt
              have r_0 : w10.cell? ⟨w.heap.size + 1, 0, none⟩ = some (.int .i64 0) := r.cell 0
              have r_1 : w10.cell? ⟨w.heap.size + 1, 1, none⟩ = some (.int .i64 0) := r.cell 1
              have r_2 : w10.cell? ⟨w.heap.size + 1, 2, none⟩ = some (.slice none 0 0) := r.cell 2
              have r_3 : w10.cell? ⟨w.heap.size + 1, 3, none⟩ = some (.int .i64 0) := r.cell 3
              have r_4 : w10.cell? ⟨w.heap.size + 1, 4, none⟩ = some (.int .i64 0) := r.cell 4
              have rf := r.free
              have Hr := Lib.hid r
              clear r
              clear ho10 hb10
              have zr1 : w.heap.size + 1 < w10.heap.size + 1 := by omega
              have zr2 : w.heap.size + 1 < w10.heap.size + 1 + 1 := by omega
              have n1 : ¬ w.heap.size + 1 = w10.heap.size := by omega
              have n2 : ¬ w10.heap.size = w.heap.size + 1 := by omega
              have n3 : ¬ w.heap.size = w10.heap.size := by omega
              have n4 : ¬ w10.heap.size = w.heap.size := by omega
              go_wp2_with fail
              exact bodyPost_ret (v := .tuple #[.agg #[.int .i64 0, .int .i64 0, .slice none 0 0, .int .i64 0, .int .i64 0], .slice none 0 0, .slice none 0 0, .bool false]) (by simp [results, Try.results26, go_sem, r_0, r_1, r_2, r_3, r_4, zr, zr1]) rfl (by rw [HPD.out]; exact NewRQ.none_ rfl (by repeat (first | (with_reducible exact HB10.out) | (with_reducible refine ba ?_ _) | (with_reducible refine bsB ?_ (by omega)) | (with_reducible refine bd ?_ _) | (with_reducible refine Below.drew ?_))))
            have hth := HTH.out
            rw [ThP_yes (thOk_iff.2 ⟨HQK.out, by simp, hc1⟩)] at hth
            go_wp2_with fail
            refine hth.mono ?_
            clear hth
            rintro e w10 ⟨A10, c10, rfl, ho10, hb10⟩
            have z10 := hb10.size
            have HRS10 := Lib.hid (HRS9.out.newL hb10 ho10 rfl)
            have HQ10 := Lib.hid (HQ9.out.old hb10)
            have HR10 := Lib.hid (HR9.out.old hb10)
            have HB10 := Lib.hid (bt HB9.out hb10)
            clear ho10 hb10 q_0 q_1 q_2 q_3 q_4 qf zq
            have q : Bk w10 (w4.heap.size) 30 #[.int .i64 li, .int .i64 by_, .slice X9 (Tl.length + 1) c9, .int .i64 z9.se, .int .i64 z9.dr] := HQ10.out
            have zq : w4.heap.size < w10.heap.size := q.lt
            have q_0 : w10.cell? ⟨w4.heap.size, 0, none⟩ = some (.int .i64 li) := q.cell 0
            have q_1 : w10.cell? ⟨w4.heap.size, 1, none⟩ = some (.int .i64 by_) := q.cell 1
            have q_2 : w10.cell? ⟨w4.heap.size, 2, none⟩ = some (.slice X9 (Tl.length + 1) c9) := q.cell 2
            have q_3 : w10.cell? ⟨w4.heap.size, 3, none⟩ = some (.int .i64 z9.se) := q.cell 3
            have q_4 : w10.cell? ⟨w4.heap.size, 4, none⟩ = some (.int .i64 z9.dr) := q.cell 4
            have qf := q.free
            have Hq := Lib.hid q
            clear q
            go_wp2_with (at_builtin; refine append_intD rfl _ _ rfl (lo := tl9) (hh := th9) (l := z9.T) rfl (RqO.t (s0 := w.heap.size + 1 + 1) (Bn := w4.heap.size) (L := Tl) (D := z9.D) (A := A10) (cap := c10) (DA := DA8) (dn := (dn + 1)) (dc := dc8) (ll := w9.heap.size) (lh := w10.heap.size) (dl := dl8) (dh := dh8) (by repeat' (first | (with_reducible exact HRS10.out) | (with_reducible refine RqO.alloc ?_ _) | (with_reducible refine RqO.drew ?_) | (with_reducible refine RqO.farC ?_) | omega | (simp; omega)))) (w10.heap.size + 1 + 1) p0.id rfl ((Bk.new_ (by simp)).cell 0) (by omega) (by simp; omega) ?_; intro TA11 tc11 w11 tl11 th11 hlh ho11 hc11)
            have HRS11 := Lib.hid (RqO.addT (s0 := w.heap.size + 1 + 1) (Bn := w4.heap.size) (L := Tl) (T := z9.T) (D := z9.D) (A := A10) (cap := c10) (TA := TA9) (tn := tn9) (tc := tc9) (DA := DA8) (dn := (dn + 1)) (dc := dc8) (ll := w9.heap.size) (lh := w10.heap.size) (tl := tl9) (th := th9) (dl := dl8) (dh := dh8) (by repeat' (first | (with_reducible exact HRS10.out) | (with_reducible refine RqO.alloc ?_ _) | (with_reducible refine RqO.drew ?_) | (with_reducible refine RqO.farC ?_) | omega | (simp; omega))) ho11 hc11 hlh)
            have HQ11 := Lib.hid (show Bk w11 w4.heap.size 30 #[.int .i64 li, .int .i64 by_, .slice A10 Tl.length c10, .int .i64 (z9.se + 1), .int .i64 z9.dr] from Bk.chg (by repeat' (first | (with_reducible exact HQ10.out) | (with_reducible apply Bk.setx) | (with_reducible refine Bk.farB ?_ (by omega)) | (with_reducible refine Bk.alloc ?_ _) | (with_reducible refine Bk.drew ?_) | rfl)) hc11 (by omega))
            have HR11 := Lib.hid (show Bk w11 (w.heap.size + 1) 30 #[.int .i64 0, .int .i64 0, .slice none 0 0, .int .i64 0, .int .i64 0] from Bk.chg (by repeat' (first | (with_reducible exact HR10.out) | (with_reducible apply Bk.setx) | (with_reducible refine Bk.farB ?_ (by omega)) | (with_reducible refine Bk.alloc ?_ _) | (with_reducible refine Bk.drew ?_) | rfl)) hc11 (by omega))
            have HB11 := Lib.hid (show Below w.heap.size w w11 from Chg.below (by repeat (first | (with_reducible exact HB10.out) | (with_reducible refine ba ?_ _) | (with_reducible refine bsB ?_ (by omega)) | (with_reducible refine bd ?_ _) | (with_reducible refine Below.drew ?_))) hc11 (by omega))
            have HCN11 := Lib.hid (show (cnt (z9.se + 1) && cnt z9.dr) = true from by have h := HCN9.out; rw [Bool.and_eq_true] at h ⊢; exact ⟨hc1, h.2⟩)
            clear ho11 hc11 hlh q_0 q_1 q_2 q_3 q_4 qf zq
            go_roundw
            case rel => exact ⟨j + 1, A10, Tl.length, c10, TA11, tn9 + 1, tc11, w9.heap.size, w10.heap.size, tl11, th11, by omega, by omega, by go_num, rfl, by rw [HS9.out], by rw [HS9.out]; exact HCN11.out, by rw [HS9.out]; exact HRS11.out, by rw [HS9.out]; exact HQ11.out, HR11.out, HB11.out⟩
            case measure => simp [intOf]; omega
      · have HY := Lib.hid (rqPut_yes (x := x) hro)
        have HRY := Lib.hid (show RqI li by_ L P (k + 1) (rqPut li by_ x p).L from by rw [HY.out]; exact HRI.out.put HAP.out HP.out hro)
        have HCY := Lib.hid (show (cnt (rqPut li by_ x p).se && cnt (rqPut li by_ x p).dr) = true from by rw [HY.out]; exact HCN.out)
        have hpt := HPT.out
        rw [PtP_put HAK.out hro] at hpt
        go_wp2_with fail
        refine hpt.mono ?_
        clear hpt
        rintro e w7 ⟨A7, c7, rfl, ho7, hb7⟩
        have HRS7 := Lib.hid ((HRS.out.alloc _).newL hb7 (n' := xn + 1) (by have h := ho7; simpa [HXN.out] using h) (by first | exact HXN.out | (have := HXN.out; simp; omega) | (simp; exact HXN.out)))
        have z7 := hb7.size
        simp at z7
        have HQ7 := Lib.hid ((HQB.out.alloc _).old hb7)
        have HR7 := Lib.hid ((HRB.out.alloc _).old hb7)
        have HB7 := Lib.hid (bt (ba HBW.out _) hb7)
        have hy7 : Bk w7 w6.heap.size 35 #[.int .i64 p.id, .int .i64 p.so, .int .i64 p.de, .int .i64 p.po, .int .i64 p.ma, .int .i64 p.si] := (Bk.new_ rfl).old hb7
        rw [HXN.out]
        clear ho7 hb7 q_0 q_1 q_2 q_3 q_4 qf f0 f1 f2 f3 f4 f5 zq
        have q : Bk w7 (w4.heap.size) 30 #[.int .i64 li, .int .i64 by_, .slice X xn xc, .int .i64 x.se, .int .i64 x.dr] := HQ7.out
        have zq : w4.heap.size < w7.heap.size := q.lt
        have q_0 : w7.cell? ⟨w4.heap.size, 0, none⟩ = some (.int .i64 li) := q.cell 0
        have q_1 : w7.cell? ⟨w4.heap.size, 1, none⟩ = some (.int .i64 by_) := q.cell 1
        have q_2 : w7.cell? ⟨w4.heap.size, 2, none⟩ = some (.slice X xn xc) := q.cell 2
        have q_3 : w7.cell? ⟨w4.heap.size, 3, none⟩ = some (.int .i64 x.se) := q.cell 3
        have q_4 : w7.cell? ⟨w4.heap.size, 4, none⟩ = some (.int .i64 x.dr) := q.cell 4
        have qf := q.free
        have Hq := Lib.hid q
        clear q
        clear hy7
        go_wp2_with fail
        clear q_0 q_1 q_2 q_3 q_4 qf zq hro
        go_loopw [18, 11] (fun z v11 wr => ∃ (j : Nat) (X : Option Addr) (xn xc : Nat) (TA : Option Addr) (tn tc ll lh tl th : Nat), j ≤ tt ∧ j ≤ (rqPut li by_ x p).L.length ∧ z = .int .i64 j ∧ v11 = .slice TA tn tc ∧ (rqTake (rqPut li by_ x p) j).L.length = xn ∧ (cnt (rqTake (rqPut li by_ x p) j).se && cnt (rqTake (rqPut li by_ x p) j).dr) = true ∧ RqO (w.heap.size + 1 + 1) w4.heap.size wr (rqTake (rqPut li by_ x p) j).L (rqTake (rqPut li by_ x p) j).T (rqTake (rqPut li by_ x p) j).D X xc TA tn tc DA dn dc ll lh tl th dl dh ∧ Bk wr w4.heap.size 30 #[.int .i64 li, .int .i64 by_, .slice X xn xc, .int .i64 (rqTake (rqPut li by_ x p) j).se, .int .i64 (rqTake (rqPut li by_ x p) j).dr] ∧ Bk wr (w.heap.size + 1) 30 #[.int .i64 0, .int .i64 0, .slice none 0 0, .int .i64 0, .int .i64 0] ∧ Below w.heap.size w wr) (fun z _ _ => tt - (intOf z).toNat)
        case atStart => exact ⟨0, A7, (xn + 1), c7, TA, tn, tc, (w6.alloc (.cells #[.int .i64 p.id, .int .i64 p.so, .int .i64 p.de, .int .i64 p.po, .int .i64 p.ma, .int .i64 p.si] 35)).heap.size, w7.heap.size, tl, th, Nat.zero_le _, Nat.zero_le _, rfl, rfl, by rw [rqTake_zero, HY.out]; have := HXN.out; simp; try omega, by rw [rqTake_zero]; exact HCY.out, by simp only [rqTake_zero, HY.out]; exact (by repeat' (first | (with_reducible exact HRS7.out) | (with_reducible refine RqO.alloc ?_ _) | (with_reducible refine RqO.drew ?_) | (with_reducible refine RqO.farC ?_) | omega | (simp; omega))), by simp only [rqTake_zero, HY.out]; exact (by repeat' (first | (with_reducible exact HQ7.out) | (with_reducible apply Bk.setx) | (with_reducible refine Bk.farB ?_ (by omega)) | (with_reducible refine Bk.alloc ?_ _) | (with_reducible refine Bk.drew ?_) | rfl)), (by repeat' (first | (with_reducible exact HR7.out) | (with_reducible apply Bk.setx) | (with_reducible refine Bk.farB ?_ (by omega)) | (with_reducible refine Bk.alloc ?_ _) | (with_reducible refine Bk.drew ?_) | rfl)), (by repeat (first | (with_reducible exact HB7.out) | (with_reducible refine ba ?_ _) | (with_reducible refine bsB ?_ (by omega)) | (with_reducible refine bd ?_ _) | (with_reducible refine Below.drew ?_)))⟩
        case round =>
          obtain ⟨j, X9, n9, c9, TA9, tn9, tc9, ll9, lh9, tl9, th9, hj, hjl, rfl, rfl, hn9, hcn9, hrs9, hqb9, hrb9, hbw9⟩ := hrel
          obtain ⟨w9, hw9⟩ : ∃ y, y = wr := ⟨_, rfl⟩
          subst hw9
          obtain ⟨z9, hz9⟩ : ∃ z, z = rqTake (rqPut li by_ x p) j := ⟨_, rfl⟩
          rw [← hz9] at hn9 hrs9 hqb9 hcn9
          obtain ⟨⟨e1, e2⟩, ⟨e3, e4⟩, e5, e6⟩ := rqPut_n HBX.out (by omega) hz9
          have htn9 : z9.T.length = tn9 := by have := hrs9.t.len; omega
          obtain ⟨o1, o2, o3, o4, o5, o6, o7, o8, o9⟩ := hrs9.r
          obtain ⟨os1, os2, os3⟩ := hrs9.s
          obtain ⟨ob1, ob2, ob3⟩ := hrs9.b
          have hzL : z9.L.length = (rqPut li by_ x p).L.length - j := by rw [hz9]; simp [rqTake]
          have hRI9 : RqI li by_ L P (k + 1) z9.L := by rw [hz9]; exact HRY.out.drop j
          have n960 : n9 ≤ 60 := by have := hRI9.len; omega
          have zw9 := hbw9.size
          have HRI9 := Lib.hid hRI9
          have HZ9 := Lib.hid hz9
          have HN9 := Lib.hid hn9
          have HCN9 := Lib.hid hcn9
          have HRS9 := Lib.hid hrs9
          have HQ9 := Lib.hid hqb9
          have HR9 := Lib.hid hrb9
          have HB9 := Lib.hid hbw9
          clear hz9 hrs9 hqb9 hrb9 hbw9 hRI9 hcn9
          have q : Bk w9 (w4.heap.size) 30 #[.int .i64 li, .int .i64 by_, .slice X9 n9 c9, .int .i64 z9.se, .int .i64 z9.dr] := HQ9.out
          have zq : w4.heap.size < w9.heap.size := q.lt
          have q_0 : w9.cell? ⟨w4.heap.size, 0, none⟩ = some (.int .i64 li) := q.cell 0
          have q_1 : w9.cell? ⟨w4.heap.size, 1, none⟩ = some (.int .i64 by_) := q.cell 1
          have q_2 : w9.cell? ⟨w4.heap.size, 2, none⟩ = some (.slice X9 n9 c9) := q.cell 2
          have q_3 : w9.cell? ⟨w4.heap.size, 3, none⟩ = some (.int .i64 z9.se) := q.cell 3
          have q_4 : w9.cell? ⟨w4.heap.size, 4, none⟩ = some (.int .i64 z9.dr) := q.cell 4
          have qf := q.free
          have Hq := Lib.hid q
          clear q
          by_cases hjt : j < tt
          rotate_left
          · have HMIN := Lib.hid (show min tt (rqPut li by_ x p).L.length = j from by omega)
            have hji : ¬ (j : Int) < (tt : Int) := by omega
            go_wp2_with fail
            go_roundw
            case rel => exact ⟨k + 1, z9, X9, n9, c9, TA9, tn9, tc9, DA, dn, dc, ll9, lh9, tl9, th9, dl, dh, by omega, by go_num, rfl, rfl, by rw [HRU.out, ← HX.out]; unfold rqStep; rw [HMIN.out]; exact HZ9.out, HN9.out, HCN9.out, HRI9.out, HRS9.out, HQ9.out, HR9.out, HB9.out⟩
            case measure => simp [intOf]; omega
          rcases hz : z9.L with _ | ⟨p0, Tl⟩
          · have HMIN := Lib.hid (show min tt (rqPut li by_ x p).L.length = j from by rw [hz] at hzL; simp at hzL; omega)
            obtain rfl : n9 = 0 := by rw [hz] at hn9; simpa using hn9.symm
            have hji : (j : Int) < (tt : Int) := by omega
            go_wp2_with fail
            go_roundw
            case rel => exact ⟨k + 1, z9, X9, 0, c9, TA9, tn9, tc9, DA, dn, dc, ll9, lh9, tl9, th9, dl, dh, by omega, by go_num, rfl, rfl, by rw [HRU.out, ← HX.out]; unfold rqStep; rw [HMIN.out]; exact HZ9.out, HN9.out, HCN9.out, HRI9.out, HRS9.out, HQ9.out, HR9.out, HB9.out⟩
            case measure => simp [intOf]; omega
          obtain rfl : n9 = Tl.length + 1 := by rw [hz] at hn9; simpa using hn9.symm
          have HS9 := Lib.hid (show rqTake (rqPut li by_ x p) (j + 1) = ⟨Tl, z9.se + 1, z9.dr, z9.T ++ [p0.id], z9.D⟩ from by have h := HZ9.out; subst h; exact rqTake_succ hz)
          have hjL : j < (rqPut li by_ x p).L.length := by rw [hz] at hzL; simp at hzL; omega
          have HQK := Lib.hid (show qok li by_ (p0 :: Tl) z9.se z9.dr = true from by rw [← hz, HRI9.out.cnt]; exact HCN9.out)
          have HTH := Lib.hid (implTakeHead_any li by_ X9 (Tl.length + 1) c9 z9.se z9.dr (p0 :: Tl) w9 (by simp) (by rw [← hz]; exact HRS9.out.l.row) (by omega) (by have := HRS9.out.l.cap; rw [hz] at this; simpa using this))
          have hji : (j : Int) < (tt : Int) := by omega
          have hlen0 : (0 : Int) < (Tl.length : Int) + 1 := by omega
          have HZL := Lib.hid hz
          clear hz hzL hn9
          rcases hc1 : cnt (z9.se + 1) with _ | _
          · have HPD := Lib.hid (HOV.out (k + 1) (by omega) (.inl (by rw [HRU.out, ← HX.out]; unfold rqStep; have hp := rqTake_b (rqPut li by_ x p) (min tt (rqPut li by_ x p).L.length); have hq := (rqTake_b (rqPut li by_ x p) j).1; rw [← HZ9.out] at hq; rw [hp.1]; have hm : j + 1 ≤ min tt (rqPut li by_ x p).L.length := by omega
                                                                      have := of_decide_eq_false hc1; omega)))
            have hth := HTH.out
            rw [ThP_no (show thOk li by_ (p0 :: Tl) z9.se z9.dr = false from by unfold thOk; rw [hc1, Bool.and_false])] at hth
            go_wp2_with fail
            refine hth.mono ?_
            clear hth
            rintro e w10 ⟨A10, c10, rfl, ho10, hb10⟩
            have HB10 := Lib.hid (bt HB9.out hb10)
            have HQ10 := Lib.hid (HQ9.out.old hb10)
            clear q_0 q_1 q_2 q_3 q_4 qf zq
            have q : Bk w10 (w4.heap.size) 30 #[.int .i64 li, .int .i64 by_, .slice X9 (Tl.length + 1) c9, .int .i64 z9.se, .int .i64 z9.dr] := HQ10.out
            have zq : w4.heap.size < w10.heap.size := q.lt
            have q_0 : w10.cell? ⟨w4.heap.size, 0, none⟩ = some (.int .i64 li) := q.cell 0
            have q_1 : w10.cell? ⟨w4.heap.size, 1, none⟩ = some (.int .i64 by_) := q.cell 1
            have q_2 : w10.cell? ⟨w4.heap.size, 2, none⟩ = some (.slice X9 (Tl.length + 1) c9) := q.cell 2
            have q_3 : w10.cell? ⟨w4.heap.size, 3, none⟩ = some (.int .i64 z9.se) := q.cell 3
            have q_4 : w10.cell? ⟨w4.heap.size, 4, none⟩ = some (.int .i64 z9.dr) := q.cell 4
            have qf := q.free
            have Hq := Lib.hid q
            clear q
            have r : Bk w10 (w.heap.size + 1) 30 #[.int .i64 0, .int .i64 0, .slice none 0 0, .int .i64 0, .int .i64 0] := HR9.out.old hb10
            have zr : w.heap.size + 1 < w10.heap.size := r.lt
            have r_0 : w10.cell? ⟨w.heap.size + 1, 0, none⟩ = some (.int .i64 0) := r.cell 0
            have r_1 : w10.cell? ⟨w.heap.size + 1, 1, none⟩ = some (.int .i64 0) := r.cell 1
            have r_2 : w10.cell? ⟨w.heap.size + 1, 2, none⟩ = some (.slice none 0 0) := r.cell 2
            have r_3 : w10.cell? ⟨w.heap.size + 1, 3, none⟩ = some (.int .i64 0) := r.cell 3
            have r_4 : w10.cell? ⟨w.heap.size + 1, 4, none⟩ = some (.int .i64 0) := r.cell 4
            have rf := r.free
            have Hr := Lib.hid r
            clear r
            clear ho10 hb10
            have zr1 : w.heap.size + 1 < w10.heap.size + 1 := by omega
            have zr2 : w.heap.size + 1 < w10.heap.size + 1 + 1 := by omega
            have n1 : ¬ w.heap.size + 1 = w10.heap.size := by omega
            have n2 : ¬ w10.heap.size = w.heap.size + 1 := by omega
            have n3 : ¬ w.heap.size = w10.heap.size := by omega
            have n4 : ¬ w10.heap.size = w.heap.size := by omega
            go_wp2_with fail
            exact bodyPost_ret (v := .tuple #[.agg #[.int .i64 0, .int .i64 0, .slice none 0 0, .int .i64 0, .int .i64 0], .slice none 0 0, .slice none 0 0, .bool false]) (by simp [results, Try.results26, go_sem, r_0, r_1, r_2, r_3, r_4, zr, zr1]) rfl (by rw [HPD.out]; exact NewRQ.none_ rfl (by repeat (first | (with_reducible exact HB10.out) | (with_reducible refine ba ?_ _) | (with_reducible refine bsB ?_ (by omega)) | (with_reducible refine bd ?_ _) | (with_reducible refine Below.drew ?_))))
          have hth := HTH.out
          rw [ThP_yes (thOk_iff.2 ⟨HQK.out, by simp, hc1⟩)] at hth
          go_wp2_with fail
          refine hth.mono ?_
          clear hth
          rintro e w10 ⟨A10, c10, rfl, ho10, hb10⟩
          have z10 := hb10.size
          have HRS10 := Lib.hid (HRS9.out.newL hb10 ho10 rfl)
          have HQ10 := Lib.hid (HQ9.out.old hb10)
          have HR10 := Lib.hid (HR9.out.old hb10)
          have HB10 := Lib.hid (bt HB9.out hb10)
          clear ho10 hb10 q_0 q_1 q_2 q_3 q_4 qf zq
          have q : Bk w10 (w4.heap.size) 30 #[.int .i64 li, .int .i64 by_, .slice X9 (Tl.length + 1) c9, .int .i64 z9.se, .int .i64 z9.dr] := HQ10.out
          have zq : w4.heap.size < w10.heap.size := q.lt
          have q_0 : w10.cell? ⟨w4.heap.size, 0, none⟩ = some (.int .i64 li) := q.cell 0
          have q_1 : w10.cell? ⟨w4.heap.size, 1, none⟩ = some (.int .i64 by_) := q.cell 1
          have q_2 : w10.cell? ⟨w4.heap.size, 2, none⟩ = some (.slice X9 (Tl.length + 1) c9) := q.cell 2
          have q_3 : w10.cell? ⟨w4.heap.size, 3, none⟩ = some (.int .i64 z9.se) := q.cell 3
          have q_4 : w10.cell? ⟨w4.heap.size, 4, none⟩ = some (.int .i64 z9.dr) := q.cell 4
          have qf := q.free
          have Hq := Lib.hid q
          clear q
          go_wp2_with (at_builtin; refine append_intD rfl _ _ rfl (lo := tl9) (hh := th9) (l := z9.T) rfl (RqO.t (s0 := w.heap.size + 1 + 1) (Bn := w4.heap.size) (L := Tl) (D := z9.D) (A := A10) (cap := c10) (DA := DA) (dn := dn) (dc := dc) (ll := w9.heap.size) (lh := w10.heap.size) (dl := dl) (dh := dh) (by repeat' (first | (with_reducible exact HRS10.out) | (with_reducible refine RqO.alloc ?_ _) | (with_reducible refine RqO.drew ?_) | (with_reducible refine RqO.farC ?_) | omega | (simp; omega)))) (w10.heap.size + 1 + 1) p0.id rfl ((Bk.new_ (by simp)).cell 0) (by omega) (by simp; omega) ?_; intro TA11 tc11 w11 tl11 th11 hlh ho11 hc11)
          have HRS11 := Lib.hid (RqO.addT (s0 := w.heap.size + 1 + 1) (Bn := w4.heap.size) (L := Tl) (T := z9.T) (D := z9.D) (A := A10) (cap := c10) (TA := TA9) (tn := tn9) (tc := tc9) (DA := DA) (dn := dn) (dc := dc) (ll := w9.heap.size) (lh := w10.heap.size) (tl := tl9) (th := th9) (dl := dl) (dh := dh) (by repeat' (first | (with_reducible exact HRS10.out) | (with_reducible refine RqO.alloc ?_ _) | (with_reducible refine RqO.drew ?_) | (with_reducible refine RqO.farC ?_) | omega | (simp; omega))) ho11 hc11 hlh)
          have HQ11 := Lib.hid (show Bk w11 w4.heap.size 30 #[.int .i64 li, .int .i64 by_, .slice A10 Tl.length c10, .int .i64 (z9.se + 1), .int .i64 z9.dr] from Bk.chg (by repeat' (first | (with_reducible exact HQ10.out) | (with_reducible apply Bk.setx) | (with_reducible refine Bk.farB ?_ (by omega)) | (with_reducible refine Bk.alloc ?_ _) | (with_reducible refine Bk.drew ?_) | rfl)) hc11 (by omega))
          have HR11 := Lib.hid (show Bk w11 (w.heap.size + 1) 30 #[.int .i64 0, .int .i64 0, .slice none 0 0, .int .i64 0, .int .i64 0] from Bk.chg (by repeat' (first | (with_reducible exact HR10.out) | (with_reducible apply Bk.setx) | (with_reducible refine Bk.farB ?_ (by omega)) | (with_reducible refine Bk.alloc ?_ _) | (with_reducible refine Bk.drew ?_) | rfl)) hc11 (by omega))
          have HB11 := Lib.hid (show Below w.heap.size w w11 from Chg.below (by repeat (first | (with_reducible exact HB10.out) | (with_reducible refine ba ?_ _) | (with_reducible refine bsB ?_ (by omega)) | (with_reducible refine bd ?_ _) | (with_reducible refine Below.drew ?_))) hc11 (by omega))
          have HCN11 := Lib.hid (show (cnt (z9.se + 1) && cnt z9.dr) = true from by have h := HCN9.out; rw [Bool.and_eq_true] at h ⊢; exact ⟨hc1, h.2⟩)
          clear ho11 hc11 hlh q_0 q_1 q_2 q_3 q_4 qf zq
          go_roundw
          case rel => exact ⟨j + 1, A10, Tl.length, c10, TA11, tn9 + 1, tc11, w9.heap.size, w10.heap.size, tl11, th11, by omega, by omega, by go_num, rfl, by rw [HS9.out], by rw [HS9.out]; exact HCN11.out, by rw [HS9.out]; exact HRS11.out, by rw [HS9.out]; exact HQ11.out, HR11.out, HB11.out⟩
          case measure => simp [intOf]; omega
    obtain rfl : m = k := by omega
    have HXE := Lib.hid (show x = rqE li by_ L se dr P (tt : Int) from by rw [rqE_run, HLP.out]; exact HX.out)
    have HG := Lib.hid (show rqG li by_ L se dr P (tt : Int) = true from rqG_iff.2 ⟨HQ.out, by omega, by have := HLP.out; omega, HAP.out⟩)
    have HPD := Lib.hid (RqP_yes (w := w) (show rqOk li by_ L se dr P (tt : Int) = true from by unfold rqOk; rw [HG.out, ← HXE.out, HCN.out]; rfl))
    have r : Bk w6 (w.heap.size + 1) 30 #[.int .i64 0, .int .i64 0, .slice none 0 0, .int .i64 0, .int .i64 0] := HRB.out
    have zr : w.heap.size + 1 < w6.heap.size := r.lt
    have r_0 : w6.cell? ⟨w.heap.size + 1, 0, none⟩ = some (.int .i64 0) := r.cell 0
    have r_1 : w6.cell? ⟨w.heap.size + 1, 1, none⟩ = some (.int .i64 0) := r.cell 1
    have r_2 : w6.cell? ⟨w.heap.size + 1, 2, none⟩ = some (.slice none 0 0) := r.cell 2
    have r_3 : w6.cell? ⟨w.heap.size + 1, 3, none⟩ = some (.int .i64 0) := r.cell 3
    have r_4 : w6.cell? ⟨w.heap.size + 1, 4, none⟩ = some (.int .i64 0) := r.cell 4
    have rf := r.free
    have Hr := Lib.hid r
    clear r
    go_wp2_with fail
    refine bodyPost_ret (v := .tuple #[.agg #[.int .i64 li, .int .i64 by_, .slice X xn xc, .int .i64 x.se, .int .i64 x.dr], .slice TA tn tc, .slice DA dn dc, .bool true]) (by simp [results, Try.results26, go_sem, r_0, r_1, r_2, r_3, r_4]) rfl ?_
    rw [HPD.out, ← HXE.out, HXN.out]
    have HLO := Lib.hid (show IOwn w6 ll lh 35 6 X xn xc (fl x.L) from by have h := HRS.out.l; rwa [HXN.out] at h)
    refine ⟨X, xc, TA, tn, tc, DA, dn, dc, ll, lh, tl, th, dl, dh, rfl, ?_, ?_, ?_, ?_, ?_, ?_⟩
    · repeat' (first | (with_reducible exact HLO.out) | (with_reducible refine IOwn.farC ?_ (by omega)))
    · repeat' (first | (with_reducible exact HRS.out.t) | (with_reducible refine IOwn.farC ?_ (by omega)))
    · repeat' (first | (with_reducible exact HRS.out.d) | (with_reducible refine IOwn.farC ?_ (by omega)))
    · simp only [setCell_size]
      omega
    · omega
    · exact (by repeat (first | (with_reducible exact HBW.out) | (with_reducible refine ba ?_ _) | (with_reducible refine bsB ?_ (by omega)) | (with_reducible refine bd ?_ _) | (with_reducible refine Below.drew ?_)))
theorem implRunQueue_any (li by_ : Int) (A : Option Addr) (n cap : Nat) (se dr : Int) (L : List Pk) (B : Option Addr) (m capp : Nat) (P : List Pk) (t : Int) (w : World) (hl : L.length = n) (hr : IRow w A (fl L)) (hn : n ≤ 1048576) (hcap : n ≤ cap) (hA : A = none → cap = 0) (hl2 : P.length = m) (hr2 : IRow w B (fl P)) (hm : m ≤ 1048576) (hcapp : m ≤ capp) (hB : B = none → capp = 0) :
    Calls Try.prog 26 #[.agg #[.int .i64 li, .int .i64 by_, .slice A n cap, .int .i64 se, .int .i64 dr], .slice B m capp, .int .i64 t] w (RqP w li by_ L se dr P t) := by
  rcases hg : rqG li by_ L se dr P t with _ | _
  · rcases h1 : qok li by_ L se dr with _ | _
    · exact implRq_q li by_ A n cap se dr L B m capp P t w hl hr hn hcap hA hl2 hr2 hm hcapp hB h1 hg
    by_cases h2 : m ≤ 60
    rotate_left
    · exact implRq_m li by_ A n cap se dr L B m capp P t w hl hr hn hcap hA hl2 hr2 hm hcapp hB h1 (by omega) hg
    by_cases h3 : t < 0
    · exact implRq_t0 li by_ A n cap se dr L B m capp P t w hl hr hn hcap hA hl2 hr2 hm hcapp hB h1 h2 h3 hg
    by_cases h4 : 5 < t
    · exact implRq_t5 li by_ A n cap se dr L B m capp P t w hl hr hn hcap hA hl2 hr2 hm hcapp hB h1 h2 (by omega) h4 hg
    refine implRq_ap li by_ A n cap se dr L B m capp P t w hl hr hn hcap hA hl2 hr2 hm hcapp hB h1 h2 (by omega) (by omega) ?_ hg
    rcases h5 : apart (L ++ P) with _ | _
    · rfl
    · rw [rqG_iff.2 ⟨h1, by omega, by omega, h5⟩] at hg
      cases hg
  · obtain ⟨h1, h2, h3, h5⟩ := rqG_iff.1 hg
    obtain ⟨tt, rfl⟩ : ∃ tt : Nat, t = (tt : Int) := ⟨t.toNat, by omega⟩
    exact implRq_main tt li by_ A n cap se dr L B m capp P w hl hr hn hcap hA hl2 hr2 (by omega) hcapp hB (by omega) h1 h5
end Go.Proofs.Ytgdldmeeaejjpaa
