/- The contracts of the reference's TakeHead. -/
import Derived.Test.YtgdldmeeaejjpaaTakeLaw
import Derived.Test.YtgdldmeeaejjpaaDelete
import Derived.Test.YtgdldmeeaejjpaaDbox
import Derived.Test.YtgdldmeeaejjpaaPutTail2
import Derived.Deep.RegionHeld3
import Derived.Deep.DeepCutAuto
namespace Go.Proofs.Ytgdldmeeaejjpaa
open Go.ChangeShapes Go.WideShapes Go.ChangeAt Go.RowKit
set_option linter.unusedVariables false
theorem row_drop {w : World} {g off : Nat} {L : List Pk} (h : IRow w (some ⟨g, off, none⟩) (fl L)) (k : Nat) : IRow w (some ⟨g, off + k * 6, none⟩) (fl (L.drop k)) := fun hp => by
  rw [← fl_drop] at hp ⊢
  simp only [List.length_drop] at hp
  obtain ⟨g', off', e, _, hc⟩ := h.at_ (k := k * 6) (by omega)
  injection e with e
  injection e with e1 e2
  subst e1 e2
  refine ⟨g, off + k * 6, rfl, fun i hi => ?_⟩
  simp only [List.length_drop] at hi
  rw [List.getElem?_drop, Nat.add_assoc]
  exact hc _ (by omega)
/-- .. at the address as the machine reckons it. -/
theorem row_from {w : World} {g off cap : Nat} {L : List Pk} (h : IRow w (some ⟨g, off, none⟩) (fl L)) (k : Nat) (hl : L.length ≤ cap) {A : Option Addr} (hA : A = if cap = k then some ⟨g, off, none⟩ else some ⟨g, off + k * 6, none⟩) : IRow w A (fl (L.drop k)) := by
  subst hA
  split
  · rename_i e
    rw [List.drop_eq_nil_of_le (by omega)]
    exact IRow.nil _ _
  · exact row_drop h k
/-- A queue whose packets are the call's own, a packet, and a bool. -/
def NewQP (w : World) (li by_ : Int) (n : Nat) (L : List Pk) (se dr : Int) (p : Pk) (b : Bool) (e : Ending) (w' : World) : Prop :=
  ∃ A cap, e = .returned (.tuple #[.agg #[.int .i64 li, .int .i64 by_, .slice A n cap, .int .i64 se, .int .i64 dr], .agg #[.int .i64 (p.id), .int .i64 (p.so), .int .i64 (p.de), .int .i64 (p.po), .int .i64 (p.ma), .int .i64 (p.si)], .bool b]) ∧ IOwn w' w.heap.size w'.heap.size 35 6 A n cap (fl L) ∧ Below w.heap.size w w'
theorem NewQP.none_ {w w' : World} {e : Ending} (he : e = .returned (.tuple #[.agg #[.int .i64 0, .int .i64 0, .slice none 0 0, .int .i64 0, .int .i64 0], .agg #[.int .i64 0, .int .i64 0, .int .i64 0, .int .i64 0, .int .i64 0, .int .i64 0], .bool false])) (hb : Below w.heap.size w w') : NewQP w 0 0 0 [] 0 0 ⟨0, 0, 0, 0, 0, 0⟩ false e w' := ⟨none, 0, he, IOwn.none_ _ _ _ _ _, hb⟩
def ThP (w : World) (li by_ : Int) (L : List Pk) (se dr : Int) : Ending → World → Prop :=
  NewQP w (ifz (thOk li by_ L se dr) li) (ifz (thOk li by_ L se dr) by_) (tlIf (thOk li by_ L se dr) L).length (tlIf (thOk li by_ L se dr) L) (ifz (thOk li by_ L se dr) (se + 1)) (ifz (thOk li by_ L se dr) dr) (hdIf (thOk li by_ L se dr) L) (thOk li by_ L se dr)
theorem ThP_no {w : World} {li by_ : Int} {L : List Pk} {se dr : Int} (h : thOk li by_ L se dr = false) : ThP w li by_ L se dr = NewQP w 0 0 0 [] 0 0 ⟨0, 0, 0, 0, 0, 0⟩ false := by simp [ThP, h, ifz, tlIf, hdIf]
theorem ThP_yes {w : World} {li by_ : Int} {p : Pk} {T : List Pk} {se dr : Int} (h : thOk li by_ (p :: T) se dr = true) : ThP w li by_ (p :: T) se dr = NewQP w li by_ T.length T (se + 1) dr p true := by simp [ThP, h, ifz, tlIf, hdIf, pat]
set_option maxHeartbeats 1000000 in
theorem implTakeHead_bad (li by_ : Int) (A : Option Addr) (n cap : Nat) (se dr : Int) (L : List Pk) (w : World) (hl : L.length = n) (hr : IRow w A (fl L)) (hn : n ≤ 1048576) (hcap : n ≤ cap) (h : qok li by_ L se dr = false) :
    Calls Try.prog 68 #[.agg #[.int .i64 li, .int .i64 by_, .slice A n cap, .int .i64 se, .int .i64 dr]] w (ThP w li by_ L se dr) := by
  rw [ThP_no (show thOk li by_ L se dr = false by simp [thOk, h])]
  have HL := Lib.hid hl
  have HQ := Lib.hid h
  have HR_a := Lib.hid hr
  clear hl hr h
  go_enter Try.func68, Try.ntmps68
  go_wp2_with fail
  refine (isQueue_b _ _ _ _ _ _ _ L _ HL.out (HR_a.out.below (ba (ba (ba (b0 w) _) _) _)) (by omega) hcap HQ.out).mono ?_
  rintro e w1 ⟨rfl, hb1⟩
  have z1 := hb1.size
  (try simp at z1)
  have HK_q_1 : Hid (Bk w1 (w.heap.size) 30 #[.int .i64 li, .int .i64 by_, .slice A n cap, .int .i64 se, .int .i64 dr]) := Lib.hid ((((Bk.new_ (by simp) : Bk _ (w.heap.size) 30 #[.int .i64 li, .int .i64 by_, .slice A n cap, .int .i64 se, .int .i64 dr]).alloc _).alloc _).old hb1)
  have zb_q : w.heap.size < w1.heap.size := HK_q_1.out.lt
  have cb_q_0 : w1.cell? ⟨w.heap.size, 0, none⟩ = some (.int .i64 li) := HK_q_1.out.cell 0
  have cb_q_1 : w1.cell? ⟨w.heap.size, 1, none⟩ = some (.int .i64 by_) := HK_q_1.out.cell 1
  have cb_q_2 : w1.cell? ⟨w.heap.size, 2, none⟩ = some (.slice A n cap) := HK_q_1.out.cell 2
  have cb_q_3 : w1.cell? ⟨w.heap.size, 3, none⟩ = some (.int .i64 se) := HK_q_1.out.cell 3
  have cb_q_4 : w1.cell? ⟨w.heap.size, 4, none⟩ = some (.int .i64 dr) := HK_q_1.out.cell 4
  have HK_r_1 : Hid (Bk w1 (w.heap.size + 1) 30 #[.int .i64 0, .int .i64 0, .slice none 0 0, .int .i64 0, .int .i64 0]) := Lib.hid (((Bk.new_ (by simp) : Bk _ (w.heap.size + 1) 30 #[.int .i64 0, .int .i64 0, .slice none 0 0, .int .i64 0, .int .i64 0]).alloc _).old hb1)
  have zb_r : w.heap.size + 1 < w1.heap.size := HK_r_1.out.lt
  have cb_r_0 : w1.cell? ⟨w.heap.size + 1, 0, none⟩ = some (.int .i64 0) := HK_r_1.out.cell 0
  have cb_r_1 : w1.cell? ⟨w.heap.size + 1, 1, none⟩ = some (.int .i64 0) := HK_r_1.out.cell 1
  have cb_r_2 : w1.cell? ⟨w.heap.size + 1, 2, none⟩ = some (.slice none 0 0) := HK_r_1.out.cell 2
  have cb_r_3 : w1.cell? ⟨w.heap.size + 1, 3, none⟩ = some (.int .i64 0) := HK_r_1.out.cell 3
  have cb_r_4 : w1.cell? ⟨w.heap.size + 1, 4, none⟩ = some (.int .i64 0) := HK_r_1.out.cell 4
  have HK_rp_1 : Hid (Bk w1 (w.heap.size + 1 + 1) 35 #[.int .i64 0, .int .i64 0, .int .i64 0, .int .i64 0, .int .i64 0, .int .i64 0]) := Lib.hid ((Bk.new_ (by simp) : Bk _ (w.heap.size + 1 + 1) 35 #[.int .i64 0, .int .i64 0, .int .i64 0, .int .i64 0, .int .i64 0, .int .i64 0]).old hb1)
  have zb_rp : w.heap.size + 1 + 1 < w1.heap.size := HK_rp_1.out.lt
  have cb_rp_0 : w1.cell? ⟨w.heap.size + 1 + 1, 0, none⟩ = some (.int .i64 0) := HK_rp_1.out.cell 0
  have cb_rp_1 : w1.cell? ⟨w.heap.size + 1 + 1, 1, none⟩ = some (.int .i64 0) := HK_rp_1.out.cell 1
  have cb_rp_2 : w1.cell? ⟨w.heap.size + 1 + 1, 2, none⟩ = some (.int .i64 0) := HK_rp_1.out.cell 2
  have cb_rp_3 : w1.cell? ⟨w.heap.size + 1 + 1, 3, none⟩ = some (.int .i64 0) := HK_rp_1.out.cell 3
  have cb_rp_4 : w1.cell? ⟨w.heap.size + 1 + 1, 4, none⟩ = some (.int .i64 0) := HK_rp_1.out.cell 4
  have cb_rp_5 : w1.cell? ⟨w.heap.size + 1 + 1, 5, none⟩ = some (.int .i64 0) := HK_rp_1.out.cell 5
  have HB_1 := Lib.hid (bt (ba (ba (ba (b0 w) _) _) _) hb1)
  clear hb1
  have rf := HK_r_1.out.free
  have rpf := HK_rp_1.out.free
  go_wp2_with fail
  exact bodyPost_ret (v := .tuple #[.agg #[.int .i64 0, .int .i64 0, .slice none 0 0, .int .i64 0, .int .i64 0], .agg #[.int .i64 0, .int .i64 0, .int .i64 0, .int .i64 0, .int .i64 0, .int .i64 0], .bool false]) (by simp [results, Try.results68, go_sem, cb_r_0, cb_r_1, cb_r_2, cb_r_3, cb_r_4, cb_rp_0, cb_rp_1, cb_rp_2, cb_rp_3, cb_rp_4, cb_rp_5]) rfl (NewQP.none_ rfl (by repeat (first | (with_reducible exact HB_1.out) | (with_reducible refine ba ?_ _) | (with_reducible refine bsB ?_ (by omega)) | (with_reducible refine bd ?_ _) | (with_reducible refine Below.drew ?_))))
set_option maxHeartbeats 1000000 in
theorem implTakeHead_nil (li by_ : Int) (A : Option Addr) (cap : Nat) (se dr : Int) (w : World) (h : qok li by_ [] se dr = true) :
    Calls Try.prog 68 #[.agg #[.int .i64 li, .int .i64 by_, .slice A 0 cap, .int .i64 se, .int .i64 dr]] w (ThP w li by_ [] se dr) := by
  rw [ThP_no (show thOk li by_ [] se dr = false by simp [thOk])]
  have HQ := Lib.hid h
  clear h
  go_enter Try.func68, Try.ntmps68
  go_wp2_with fail
  refine (isQueue_b _ _ _ _ _ _ _ [] _ rfl (IRow.nil _ _) (by simp) (Nat.zero_le _) HQ.out).mono ?_
  rintro e w1 ⟨rfl, hb1⟩
  have z1 := hb1.size
  (try simp at z1)
  have HK_q_1 : Hid (Bk w1 (w.heap.size) 30 #[.int .i64 li, .int .i64 by_, .slice A 0 cap, .int .i64 se, .int .i64 dr]) := Lib.hid ((((Bk.new_ (by simp) : Bk _ (w.heap.size) 30 #[.int .i64 li, .int .i64 by_, .slice A 0 cap, .int .i64 se, .int .i64 dr]).alloc _).alloc _).old hb1)
  have zb_q : w.heap.size < w1.heap.size := HK_q_1.out.lt
  have cb_q_0 : w1.cell? ⟨w.heap.size, 0, none⟩ = some (.int .i64 li) := HK_q_1.out.cell 0
  have cb_q_1 : w1.cell? ⟨w.heap.size, 1, none⟩ = some (.int .i64 by_) := HK_q_1.out.cell 1
  have cb_q_2 : w1.cell? ⟨w.heap.size, 2, none⟩ = some (.slice A 0 cap) := HK_q_1.out.cell 2
  have cb_q_3 : w1.cell? ⟨w.heap.size, 3, none⟩ = some (.int .i64 se) := HK_q_1.out.cell 3
  have cb_q_4 : w1.cell? ⟨w.heap.size, 4, none⟩ = some (.int .i64 dr) := HK_q_1.out.cell 4
  have HK_r_1 : Hid (Bk w1 (w.heap.size + 1) 30 #[.int .i64 0, .int .i64 0, .slice none 0 0, .int .i64 0, .int .i64 0]) := Lib.hid (((Bk.new_ (by simp) : Bk _ (w.heap.size + 1) 30 #[.int .i64 0, .int .i64 0, .slice none 0 0, .int .i64 0, .int .i64 0]).alloc _).old hb1)
  have zb_r : w.heap.size + 1 < w1.heap.size := HK_r_1.out.lt
  have cb_r_0 : w1.cell? ⟨w.heap.size + 1, 0, none⟩ = some (.int .i64 0) := HK_r_1.out.cell 0
  have cb_r_1 : w1.cell? ⟨w.heap.size + 1, 1, none⟩ = some (.int .i64 0) := HK_r_1.out.cell 1
  have cb_r_2 : w1.cell? ⟨w.heap.size + 1, 2, none⟩ = some (.slice none 0 0) := HK_r_1.out.cell 2
  have cb_r_3 : w1.cell? ⟨w.heap.size + 1, 3, none⟩ = some (.int .i64 0) := HK_r_1.out.cell 3
  have cb_r_4 : w1.cell? ⟨w.heap.size + 1, 4, none⟩ = some (.int .i64 0) := HK_r_1.out.cell 4
  have HK_rp_1 : Hid (Bk w1 (w.heap.size + 1 + 1) 35 #[.int .i64 0, .int .i64 0, .int .i64 0, .int .i64 0, .int .i64 0, .int .i64 0]) := Lib.hid ((Bk.new_ (by simp) : Bk _ (w.heap.size + 1 + 1) 35 #[.int .i64 0, .int .i64 0, .int .i64 0, .int .i64 0, .int .i64 0, .int .i64 0]).old hb1)
  have zb_rp : w.heap.size + 1 + 1 < w1.heap.size := HK_rp_1.out.lt
  have cb_rp_0 : w1.cell? ⟨w.heap.size + 1 + 1, 0, none⟩ = some (.int .i64 0) := HK_rp_1.out.cell 0
  have cb_rp_1 : w1.cell? ⟨w.heap.size + 1 + 1, 1, none⟩ = some (.int .i64 0) := HK_rp_1.out.cell 1
  have cb_rp_2 : w1.cell? ⟨w.heap.size + 1 + 1, 2, none⟩ = some (.int .i64 0) := HK_rp_1.out.cell 2
  have cb_rp_3 : w1.cell? ⟨w.heap.size + 1 + 1, 3, none⟩ = some (.int .i64 0) := HK_rp_1.out.cell 3
  have cb_rp_4 : w1.cell? ⟨w.heap.size + 1 + 1, 4, none⟩ = some (.int .i64 0) := HK_rp_1.out.cell 4
  have cb_rp_5 : w1.cell? ⟨w.heap.size + 1 + 1, 5, none⟩ = some (.int .i64 0) := HK_rp_1.out.cell 5
  have HB_1 := Lib.hid (bt (ba (ba (ba (b0 w) _) _) _) hb1)
  clear hb1
  have rf := HK_r_1.out.free
  have rpf := HK_rp_1.out.free
  go_wp2_with fail
  exact bodyPost_ret (v := .tuple #[.agg #[.int .i64 0, .int .i64 0, .slice none 0 0, .int .i64 0, .int .i64 0], .agg #[.int .i64 0, .int .i64 0, .int .i64 0, .int .i64 0, .int .i64 0, .int .i64 0], .bool false]) (by simp [results, Try.results68, go_sem, cb_r_0, cb_r_1, cb_r_2, cb_r_3, cb_r_4, cb_rp_0, cb_rp_1, cb_rp_2, cb_rp_3, cb_rp_4, cb_rp_5]) rfl (NewQP.none_ rfl (by repeat (first | (with_reducible exact HB_1.out) | (with_reducible refine ba ?_ _) | (with_reducible refine bsB ?_ (by omega)) | (with_reducible refine bd ?_ _) | (with_reducible refine Below.drew ?_))))
set_option maxHeartbeats 1000000 in
theorem implTakeHead_over (li by_ : Int) (g off cap : Nat) (se dr : Int) (p : Pk) (T : List Pk) (w : World) (hr : IRow w (some ⟨g, off, none⟩) (fl (p :: T))) (hn : T.length + 1 ≤ 1048576) (hcap : T.length + 1 ≤ cap) (hq : qok li by_ (p :: T) se dr = true) (hc : cnt (se + 1) = false) :
    Calls Try.prog 68 #[.agg #[.int .i64 li, .int .i64 by_, .slice (some ⟨g, off, none⟩) (T.length + 1) cap, .int .i64 se, .int .i64 dr]] w (ThP w li by_ (p :: T) se dr) := by
  rw [ThP_no (show thOk li by_ (p :: T) se dr = false by simp only [thOk, hc, Bool.and_false])]
  have HQ := Lib.hid hq
  have g0 := qok_iff.1 hq
  have s1 : 0 ≤ se ∧ se ≤ 1000000 := g0.2.2.2.1
  obtain rfl : se = 1000000 := by
    rcases Int.lt_or_le se 1000000 with h | h
    · rw [cnt_iff.2 (by omega)] at hc
      cases hc
    · omega
  have HR_a := Lib.hid hr
  have k4 : ((T.length : Int) + 1 == 0) = false := by simp; omega
  clear hq hc g0 hr
  go_enter Try.func68, Try.ntmps68
  go_wp2_with fail
  refine (isQueue_b _ _ _ _ _ _ _ (p :: T) _ rfl (HR_a.out.below (ba (ba (ba (b0 w) _) _) _)) (by simp; omega) hcap HQ.out).mono ?_
  rintro e w1 ⟨rfl, hb1⟩
  have z1 := hb1.size
  (try simp at z1)
  have HK_q_1 : Hid (Bk w1 (w.heap.size) 30 #[.int .i64 li, .int .i64 by_, .slice (some ⟨g, off, none⟩) (T.length + 1) cap, .int .i64 1000000, .int .i64 dr]) := Lib.hid ((((Bk.new_ (by simp) : Bk _ (w.heap.size) 30 #[.int .i64 li, .int .i64 by_, .slice (some ⟨g, off, none⟩) (T.length + 1) cap, .int .i64 1000000, .int .i64 dr]).alloc _).alloc _).old hb1)
  have zb_q : w.heap.size < w1.heap.size := HK_q_1.out.lt
  have cb_q_0 : w1.cell? ⟨w.heap.size, 0, none⟩ = some (.int .i64 li) := HK_q_1.out.cell 0
  have cb_q_1 : w1.cell? ⟨w.heap.size, 1, none⟩ = some (.int .i64 by_) := HK_q_1.out.cell 1
  have cb_q_2 : w1.cell? ⟨w.heap.size, 2, none⟩ = some (.slice (some ⟨g, off, none⟩) (T.length + 1) cap) := HK_q_1.out.cell 2
  have cb_q_3 : w1.cell? ⟨w.heap.size, 3, none⟩ = some (.int .i64 1000000) := HK_q_1.out.cell 3
  have cb_q_4 : w1.cell? ⟨w.heap.size, 4, none⟩ = some (.int .i64 dr) := HK_q_1.out.cell 4
  have HK_r_1 : Hid (Bk w1 (w.heap.size + 1) 30 #[.int .i64 0, .int .i64 0, .slice none 0 0, .int .i64 0, .int .i64 0]) := Lib.hid (((Bk.new_ (by simp) : Bk _ (w.heap.size + 1) 30 #[.int .i64 0, .int .i64 0, .slice none 0 0, .int .i64 0, .int .i64 0]).alloc _).old hb1)
  have zb_r : w.heap.size + 1 < w1.heap.size := HK_r_1.out.lt
  have cb_r_0 : w1.cell? ⟨w.heap.size + 1, 0, none⟩ = some (.int .i64 0) := HK_r_1.out.cell 0
  have cb_r_1 : w1.cell? ⟨w.heap.size + 1, 1, none⟩ = some (.int .i64 0) := HK_r_1.out.cell 1
  have cb_r_2 : w1.cell? ⟨w.heap.size + 1, 2, none⟩ = some (.slice none 0 0) := HK_r_1.out.cell 2
  have cb_r_3 : w1.cell? ⟨w.heap.size + 1, 3, none⟩ = some (.int .i64 0) := HK_r_1.out.cell 3
  have cb_r_4 : w1.cell? ⟨w.heap.size + 1, 4, none⟩ = some (.int .i64 0) := HK_r_1.out.cell 4
  have HK_rp_1 : Hid (Bk w1 (w.heap.size + 1 + 1) 35 #[.int .i64 0, .int .i64 0, .int .i64 0, .int .i64 0, .int .i64 0, .int .i64 0]) := Lib.hid ((Bk.new_ (by simp) : Bk _ (w.heap.size + 1 + 1) 35 #[.int .i64 0, .int .i64 0, .int .i64 0, .int .i64 0, .int .i64 0, .int .i64 0]).old hb1)
  have zb_rp : w.heap.size + 1 + 1 < w1.heap.size := HK_rp_1.out.lt
  have cb_rp_0 : w1.cell? ⟨w.heap.size + 1 + 1, 0, none⟩ = some (.int .i64 0) := HK_rp_1.out.cell 0
  have cb_rp_1 : w1.cell? ⟨w.heap.size + 1 + 1, 1, none⟩ = some (.int .i64 0) := HK_rp_1.out.cell 1
  have cb_rp_2 : w1.cell? ⟨w.heap.size + 1 + 1, 2, none⟩ = some (.int .i64 0) := HK_rp_1.out.cell 2
  have cb_rp_3 : w1.cell? ⟨w.heap.size + 1 + 1, 3, none⟩ = some (.int .i64 0) := HK_rp_1.out.cell 3
  have cb_rp_4 : w1.cell? ⟨w.heap.size + 1 + 1, 4, none⟩ = some (.int .i64 0) := HK_rp_1.out.cell 4
  have cb_rp_5 : w1.cell? ⟨w.heap.size + 1 + 1, 5, none⟩ = some (.int .i64 0) := HK_rp_1.out.cell 5
  have HB_1 := Lib.hid (bt (ba (ba (ba (b0 w) _) _) _) hb1)
  clear hb1
  have rf := HK_r_1.out.free
  have rpf := HK_rp_1.out.free
  go_wp2_with fail
  exact bodyPost_ret (v := .tuple #[.agg #[.int .i64 0, .int .i64 0, .slice none 0 0, .int .i64 0, .int .i64 0], .agg #[.int .i64 0, .int .i64 0, .int .i64 0, .int .i64 0, .int .i64 0, .int .i64 0], .bool false]) (by simp [results, Try.results68, go_sem, cb_r_0, cb_r_1, cb_r_2, cb_r_3, cb_r_4, cb_rp_0, cb_rp_1, cb_rp_2, cb_rp_3, cb_rp_4, cb_rp_5]) rfl (NewQP.none_ rfl (by repeat (first | (with_reducible exact HB_1.out) | (with_reducible refine ba ?_ _) | (with_reducible refine bsB ?_ (by omega)) | (with_reducible refine bd ?_ _) | (with_reducible refine Below.drew ?_))))
set_option maxRecDepth 100000 in
set_option maxHeartbeats 4000000 in
theorem implTakeHead_yes (li by_ : Int) (g off cap : Nat) (se dr : Int) (p : Pk) (T : List Pk) (w : World) (hr : IRow w (some ⟨g, off, none⟩) (fl (p :: T))) (hn : T.length + 1 ≤ 1048576) (hcap : T.length + 1 ≤ cap) (h : thOk li by_ (p :: T) se dr = true) :
    Calls Try.prog 68 #[.agg #[.int .i64 li, .int .i64 by_, .slice (some ⟨g, off, none⟩) (T.length + 1) cap, .int .i64 se, .int .i64 dr]] w (ThP w li by_ (p :: T) se dr) := by
  rw [ThP_yes h]
  obtain ⟨hq, -, hc⟩ := thOk_iff.1 h
  have HQ := Lib.hid hq
  have g0 := qok_iff.1 hq
  have s1 : 0 ≤ se ∧ se ≤ 1000000 := g0.2.2.2.1
  have s2 := cnt_iff.1 hc
  have s3 : (se == 1000000) = false := by simp; omega
  have HR_a := Lib.hid hr
  have k4 : ((T.length : Int) + 1 == 0) = false := by simp; omega
  clear h hq hc g0 hr
  go_enter Try.func68, Try.ntmps68
  go_wp2_with fail
  refine (isQueue_b _ _ _ _ _ _ _ (p :: T) _ rfl (HR_a.out.below (ba (ba (ba (b0 w) _) _) _)) (by simp; omega) hcap HQ.out).mono ?_
  rintro e w1 ⟨rfl, hb1⟩
  have z1 := hb1.size
  (try simp at z1)
  have HK_q_1 : Hid (Bk w1 (w.heap.size) 30 #[.int .i64 li, .int .i64 by_, .slice (some ⟨g, off, none⟩) (T.length + 1) cap, .int .i64 se, .int .i64 dr]) := Lib.hid ((((Bk.new_ (by simp) : Bk _ (w.heap.size) 30 #[.int .i64 li, .int .i64 by_, .slice (some ⟨g, off, none⟩) (T.length + 1) cap, .int .i64 se, .int .i64 dr]).alloc _).alloc _).old hb1)
  have zb_q : w.heap.size < w1.heap.size := HK_q_1.out.lt
  have cb_q_0 : w1.cell? ⟨w.heap.size, 0, none⟩ = some (.int .i64 li) := HK_q_1.out.cell 0
  have cb_q_1 : w1.cell? ⟨w.heap.size, 1, none⟩ = some (.int .i64 by_) := HK_q_1.out.cell 1
  have cb_q_2 : w1.cell? ⟨w.heap.size, 2, none⟩ = some (.slice (some ⟨g, off, none⟩) (T.length + 1) cap) := HK_q_1.out.cell 2
  have cb_q_3 : w1.cell? ⟨w.heap.size, 3, none⟩ = some (.int .i64 se) := HK_q_1.out.cell 3
  have cb_q_4 : w1.cell? ⟨w.heap.size, 4, none⟩ = some (.int .i64 dr) := HK_q_1.out.cell 4
  have HK_r_1 : Hid (Bk w1 (w.heap.size + 1) 30 #[.int .i64 0, .int .i64 0, .slice none 0 0, .int .i64 0, .int .i64 0]) := Lib.hid (((Bk.new_ (by simp) : Bk _ (w.heap.size + 1) 30 #[.int .i64 0, .int .i64 0, .slice none 0 0, .int .i64 0, .int .i64 0]).alloc _).old hb1)
  have zb_r : w.heap.size + 1 < w1.heap.size := HK_r_1.out.lt
  have cb_r_0 : w1.cell? ⟨w.heap.size + 1, 0, none⟩ = some (.int .i64 0) := HK_r_1.out.cell 0
  have cb_r_1 : w1.cell? ⟨w.heap.size + 1, 1, none⟩ = some (.int .i64 0) := HK_r_1.out.cell 1
  have cb_r_2 : w1.cell? ⟨w.heap.size + 1, 2, none⟩ = some (.slice none 0 0) := HK_r_1.out.cell 2
  have cb_r_3 : w1.cell? ⟨w.heap.size + 1, 3, none⟩ = some (.int .i64 0) := HK_r_1.out.cell 3
  have cb_r_4 : w1.cell? ⟨w.heap.size + 1, 4, none⟩ = some (.int .i64 0) := HK_r_1.out.cell 4
  have HK_rp_1 : Hid (Bk w1 (w.heap.size + 1 + 1) 35 #[.int .i64 0, .int .i64 0, .int .i64 0, .int .i64 0, .int .i64 0, .int .i64 0]) := Lib.hid ((Bk.new_ (by simp) : Bk _ (w.heap.size + 1 + 1) 35 #[.int .i64 0, .int .i64 0, .int .i64 0, .int .i64 0, .int .i64 0, .int .i64 0]).old hb1)
  have zb_rp : w.heap.size + 1 + 1 < w1.heap.size := HK_rp_1.out.lt
  have cb_rp_0 : w1.cell? ⟨w.heap.size + 1 + 1, 0, none⟩ = some (.int .i64 0) := HK_rp_1.out.cell 0
  have cb_rp_1 : w1.cell? ⟨w.heap.size + 1 + 1, 1, none⟩ = some (.int .i64 0) := HK_rp_1.out.cell 1
  have cb_rp_2 : w1.cell? ⟨w.heap.size + 1 + 1, 2, none⟩ = some (.int .i64 0) := HK_rp_1.out.cell 2
  have cb_rp_3 : w1.cell? ⟨w.heap.size + 1 + 1, 3, none⟩ = some (.int .i64 0) := HK_rp_1.out.cell 3
  have cb_rp_4 : w1.cell? ⟨w.heap.size + 1 + 1, 4, none⟩ = some (.int .i64 0) := HK_rp_1.out.cell 4
  have cb_rp_5 : w1.cell? ⟨w.heap.size + 1 + 1, 5, none⟩ = some (.int .i64 0) := HK_rp_1.out.cell 5
  have HB_1 := Lib.hid (bt (ba (ba (ba (b0 w) _) _) _) hb1)
  clear hb1
  go_wp2_with fail
  refine (copyQueue_any _ _ _ _ _ _ _ (p :: T) _ rfl (HR_a.out.below HB_1.out) (by simp; omega)).mono ?_
  rintro e w2 ⟨A_v, cap_v, rfl, ho_v, hb2⟩
  have HN_v := Lib.hid ho_v.len
  have HO_v_2 := Lib.hid ho_v
  clear ho_v
  have z2 := hb2.size
  (try simp at z2)
  have HK_q_2 : Hid (Bk w2 (w.heap.size) 30 #[.int .i64 li, .int .i64 by_, .slice (some ⟨g, off, none⟩) (T.length + 1) cap, .int .i64 se, .int .i64 dr]) := Lib.hid (HK_q_1.out.old hb2)
  clear HK_q_1
  clear cb_q_0 cb_q_1 cb_q_2 cb_q_3 cb_q_4 zb_q
  have zb_q : w.heap.size < w2.heap.size := HK_q_2.out.lt
  have cb_q_0 : w2.cell? ⟨w.heap.size, 0, none⟩ = some (.int .i64 li) := HK_q_2.out.cell 0
  have cb_q_1 : w2.cell? ⟨w.heap.size, 1, none⟩ = some (.int .i64 by_) := HK_q_2.out.cell 1
  have cb_q_2 : w2.cell? ⟨w.heap.size, 2, none⟩ = some (.slice (some ⟨g, off, none⟩) (T.length + 1) cap) := HK_q_2.out.cell 2
  have cb_q_3 : w2.cell? ⟨w.heap.size, 3, none⟩ = some (.int .i64 se) := HK_q_2.out.cell 3
  have cb_q_4 : w2.cell? ⟨w.heap.size, 4, none⟩ = some (.int .i64 dr) := HK_q_2.out.cell 4
  have HK_r_2 : Hid (Bk w2 (w.heap.size + 1) 30 #[.int .i64 0, .int .i64 0, .slice none 0 0, .int .i64 0, .int .i64 0]) := Lib.hid (HK_r_1.out.old hb2)
  clear HK_r_1
  clear cb_r_0 cb_r_1 cb_r_2 cb_r_3 cb_r_4 zb_r
  have zb_r : w.heap.size + 1 < w2.heap.size := HK_r_2.out.lt
  have cb_r_0 : w2.cell? ⟨w.heap.size + 1, 0, none⟩ = some (.int .i64 0) := HK_r_2.out.cell 0
  have cb_r_1 : w2.cell? ⟨w.heap.size + 1, 1, none⟩ = some (.int .i64 0) := HK_r_2.out.cell 1
  have cb_r_2 : w2.cell? ⟨w.heap.size + 1, 2, none⟩ = some (.slice none 0 0) := HK_r_2.out.cell 2
  have cb_r_3 : w2.cell? ⟨w.heap.size + 1, 3, none⟩ = some (.int .i64 0) := HK_r_2.out.cell 3
  have cb_r_4 : w2.cell? ⟨w.heap.size + 1, 4, none⟩ = some (.int .i64 0) := HK_r_2.out.cell 4
  have HK_rp_2 : Hid (Bk w2 (w.heap.size + 1 + 1) 35 #[.int .i64 0, .int .i64 0, .int .i64 0, .int .i64 0, .int .i64 0, .int .i64 0]) := Lib.hid (HK_rp_1.out.old hb2)
  clear HK_rp_1
  clear cb_rp_0 cb_rp_1 cb_rp_2 cb_rp_3 cb_rp_4 cb_rp_5 zb_rp
  have zb_rp : w.heap.size + 1 + 1 < w2.heap.size := HK_rp_2.out.lt
  have cb_rp_0 : w2.cell? ⟨w.heap.size + 1 + 1, 0, none⟩ = some (.int .i64 0) := HK_rp_2.out.cell 0
  have cb_rp_1 : w2.cell? ⟨w.heap.size + 1 + 1, 1, none⟩ = some (.int .i64 0) := HK_rp_2.out.cell 1
  have cb_rp_2 : w2.cell? ⟨w.heap.size + 1 + 1, 2, none⟩ = some (.int .i64 0) := HK_rp_2.out.cell 2
  have cb_rp_3 : w2.cell? ⟨w.heap.size + 1 + 1, 3, none⟩ = some (.int .i64 0) := HK_rp_2.out.cell 3
  have cb_rp_4 : w2.cell? ⟨w.heap.size + 1 + 1, 4, none⟩ = some (.int .i64 0) := HK_rp_2.out.cell 4
  have cb_rp_5 : w2.cell? ⟨w.heap.size + 1 + 1, 5, none⟩ = some (.int .i64 0) := HK_rp_2.out.cell 5
  have HB_2 := Lib.hid (bt HB_1.out hb2)
  clear hb2
  obtain ⟨gv, hgv, lv1, lv2, lv3, -, -⟩ := HO_v_2.out.at_ (k := 0) (by rw [fl_len]; simp)
  subst hgv
  obtain ⟨g', off', p', e', hg, hpk, e0, e1, e2, e3, e4, e5⟩ := pk_at HO_v_2.out.row (k := 0) (by simp)
  injection e' with e'
  injection e' with x1 x2
  subst x1 x2
  obtain rfl : p = p' := by simpa using hpk
  simp only [Nat.zero_mul, Nat.zero_add] at e0 e1 e2 e3 e4 e5
  clear hpk
  go_wp2_with fail
  refine (delete_any _ _ gv T.length cap_v (p :: T) _ ((HO_v_2.out.alloc _).alloc _) (by omega)).mono ?_
  rintro e w3 ⟨rfl, ho3, hb3⟩
  have HO_v_3 := Lib.hid ho3
  clear ho3
  have z3 := hb3.size
  (try simp at z3)
  have HK_q_3 : Hid (Bk w3 (w.heap.size) 30 #[.int .i64 li, .int .i64 by_, .slice (some ⟨g, off, none⟩) (T.length + 1) cap, .int .i64 se, .int .i64 dr]) := Lib.hid (((HK_q_2.out.alloc _).alloc _).chg hb3 (by first | omega | (simp; done) | (simp; omega)))
  clear HK_q_2
  clear cb_q_0 cb_q_1 cb_q_2 cb_q_3 cb_q_4 zb_q
  have zb_q : w.heap.size < w3.heap.size := HK_q_3.out.lt
  have cb_q_0 : w3.cell? ⟨w.heap.size, 0, none⟩ = some (.int .i64 li) := HK_q_3.out.cell 0
  have cb_q_1 : w3.cell? ⟨w.heap.size, 1, none⟩ = some (.int .i64 by_) := HK_q_3.out.cell 1
  have cb_q_2 : w3.cell? ⟨w.heap.size, 2, none⟩ = some (.slice (some ⟨g, off, none⟩) (T.length + 1) cap) := HK_q_3.out.cell 2
  have cb_q_3 : w3.cell? ⟨w.heap.size, 3, none⟩ = some (.int .i64 se) := HK_q_3.out.cell 3
  have cb_q_4 : w3.cell? ⟨w.heap.size, 4, none⟩ = some (.int .i64 dr) := HK_q_3.out.cell 4
  have HK_r_3 : Hid (Bk w3 (w.heap.size + 1) 30 #[.int .i64 0, .int .i64 0, .slice none 0 0, .int .i64 0, .int .i64 0]) := Lib.hid (((HK_r_2.out.alloc _).alloc _).chg hb3 (by first | omega | (simp; done) | (simp; omega)))
  clear HK_r_2
  clear cb_r_0 cb_r_1 cb_r_2 cb_r_3 cb_r_4 zb_r
  have zb_r : w.heap.size + 1 < w3.heap.size := HK_r_3.out.lt
  have cb_r_0 : w3.cell? ⟨w.heap.size + 1, 0, none⟩ = some (.int .i64 0) := HK_r_3.out.cell 0
  have cb_r_1 : w3.cell? ⟨w.heap.size + 1, 1, none⟩ = some (.int .i64 0) := HK_r_3.out.cell 1
  have cb_r_2 : w3.cell? ⟨w.heap.size + 1, 2, none⟩ = some (.slice none 0 0) := HK_r_3.out.cell 2
  have cb_r_3 : w3.cell? ⟨w.heap.size + 1, 3, none⟩ = some (.int .i64 0) := HK_r_3.out.cell 3
  have cb_r_4 : w3.cell? ⟨w.heap.size + 1, 4, none⟩ = some (.int .i64 0) := HK_r_3.out.cell 4
  have HK_rp_3 : Hid (Bk w3 (w.heap.size + 1 + 1) 35 #[.int .i64 0, .int .i64 0, .int .i64 0, .int .i64 0, .int .i64 0, .int .i64 0]) := Lib.hid (((HK_rp_2.out.alloc _).alloc _).chg hb3 (by first | omega | (simp; done) | (simp; omega)))
  clear HK_rp_2
  clear cb_rp_0 cb_rp_1 cb_rp_2 cb_rp_3 cb_rp_4 cb_rp_5 zb_rp
  have zb_rp : w.heap.size + 1 + 1 < w3.heap.size := HK_rp_3.out.lt
  have cb_rp_0 : w3.cell? ⟨w.heap.size + 1 + 1, 0, none⟩ = some (.int .i64 0) := HK_rp_3.out.cell 0
  have cb_rp_1 : w3.cell? ⟨w.heap.size + 1 + 1, 1, none⟩ = some (.int .i64 0) := HK_rp_3.out.cell 1
  have cb_rp_2 : w3.cell? ⟨w.heap.size + 1 + 1, 2, none⟩ = some (.int .i64 0) := HK_rp_3.out.cell 2
  have cb_rp_3 : w3.cell? ⟨w.heap.size + 1 + 1, 3, none⟩ = some (.int .i64 0) := HK_rp_3.out.cell 3
  have cb_rp_4 : w3.cell? ⟨w.heap.size + 1 + 1, 4, none⟩ = some (.int .i64 0) := HK_rp_3.out.cell 4
  have cb_rp_5 : w3.cell? ⟨w.heap.size + 1 + 1, 5, none⟩ = some (.int .i64 0) := HK_rp_3.out.cell 5
  have HK_o_3 : Hid (Bk w3 (w2.heap.size) 30 #[.int .i64 li, .int .i64 by_, .slice (some ⟨gv, 0, none⟩) (T.length + 1) cap_v, .int .i64 se, .int .i64 dr]) := Lib.hid (((Bk.new_ (by simp) : Bk _ (w2.heap.size) 30 #[.int .i64 li, .int .i64 by_, .slice (some ⟨gv, 0, none⟩) (T.length + 1) cap_v, .int .i64 se, .int .i64 dr]).alloc _).chg hb3 (by first | omega | (simp; done) | (simp; omega)))
  have zb_o : w2.heap.size < w3.heap.size := HK_o_3.out.lt
  have cb_o_0 : w3.cell? ⟨w2.heap.size, 0, none⟩ = some (.int .i64 li) := HK_o_3.out.cell 0
  have cb_o_1 : w3.cell? ⟨w2.heap.size, 1, none⟩ = some (.int .i64 by_) := HK_o_3.out.cell 1
  have cb_o_2 : w3.cell? ⟨w2.heap.size, 2, none⟩ = some (.slice (some ⟨gv, 0, none⟩) (T.length + 1) cap_v) := HK_o_3.out.cell 2
  have cb_o_3 : w3.cell? ⟨w2.heap.size, 3, none⟩ = some (.int .i64 se) := HK_o_3.out.cell 3
  have cb_o_4 : w3.cell? ⟨w2.heap.size, 4, none⟩ = some (.int .i64 dr) := HK_o_3.out.cell 4
  have HK_x_3 : Hid (Bk w3 (w2.heap.size + 1) 35 #[.int .i64 p.id, .int .i64 p.so, .int .i64 p.de, .int .i64 p.po, .int .i64 p.ma, .int .i64 p.si]) := Lib.hid ((Bk.new_ (by simp) : Bk _ (w2.heap.size + 1) 35 #[.int .i64 p.id, .int .i64 p.so, .int .i64 p.de, .int .i64 p.po, .int .i64 p.ma, .int .i64 p.si]).chg hb3 (by first | omega | (simp; done) | (simp; omega)))
  have zb_x : w2.heap.size + 1 < w3.heap.size := HK_x_3.out.lt
  have cb_x_0 : w3.cell? ⟨w2.heap.size + 1, 0, none⟩ = some (.int .i64 p.id) := HK_x_3.out.cell 0
  have cb_x_1 : w3.cell? ⟨w2.heap.size + 1, 1, none⟩ = some (.int .i64 p.so) := HK_x_3.out.cell 1
  have cb_x_2 : w3.cell? ⟨w2.heap.size + 1, 2, none⟩ = some (.int .i64 p.de) := HK_x_3.out.cell 2
  have cb_x_3 : w3.cell? ⟨w2.heap.size + 1, 3, none⟩ = some (.int .i64 p.po) := HK_x_3.out.cell 3
  have cb_x_4 : w3.cell? ⟨w2.heap.size + 1, 4, none⟩ = some (.int .i64 p.ma) := HK_x_3.out.cell 4
  have cb_x_5 : w3.cell? ⟨w2.heap.size + 1, 5, none⟩ = some (.int .i64 p.si) := HK_x_3.out.cell 5
  have HB_3 := Lib.hid (Chg.below (ba (ba HB_2.out _) _) hb3 (by first | omega | (simp; done) | (simp; omega)))
  clear hb3
  clear HO_v_2
  clear e0 e1 e2 e3 e4 e5
  have of := HK_o_3.out.free
  go_wp2_with fail
  obtain ⟨W, hW⟩ : ∃ W, W = (w3.setCell ⟨w2.heap.size, 2, none⟩ (.slice (some ⟨gv, 0, none⟩) T.length cap_v)).setCell ⟨w2.heap.size, 3, none⟩ (.int .i64 (se + 1)) := ⟨_, rfl⟩
  rw [← hW]
  have O := Lib.hid (show Bk W w2.heap.size 30 #[.int .i64 li, .int .i64 by_, .slice (some ⟨gv, 0, none⟩) T.length cap_v, .int .i64 (se + 1), .int .i64 dr] from by rw [hW]; exact (HK_o_3.out.set 2 _).set 3 _)
  have X := Lib.hid (show Bk W (w2.heap.size + 1) 35 #[.int .i64 p.id, .int .i64 p.so, .int .i64 p.de, .int .i64 p.po, .int .i64 p.ma, .int .i64 p.si] from by rw [hW]; exact (HK_x_3.out.farB (by omega)).farB (by omega))
  have R := Lib.hid (show Bk W (w.heap.size + 1) 30 #[.int .i64 0, .int .i64 0, .slice none 0 0, .int .i64 0, .int .i64 0] from by rw [hW]; exact (HK_r_3.out.farB (by omega)).farB (by omega))
  have RP := Lib.hid (show Bk W (w.heap.size + 1 + 1) 35 #[.int .i64 0, .int .i64 0, .int .i64 0, .int .i64 0, .int .i64 0, .int .i64 0] from by rw [hW]; exact (HK_rp_3.out.farB (by omega)).farB (by omega))
  have HOW := Lib.hid (show IOwn W w1.heap.size w2.heap.size 35 6 (some ⟨gv, 0, none⟩) T.length cap_v (fl T) from by rw [hW]; exact (HO_v_3.out.farC (by omega)).farC (by omega))
  have HBW := Lib.hid (show Below w.heap.size w W from by rw [hW]; exact bsB (bsB HB_3.out (by omega)) (by omega))
  clear hW of cb_o_0 cb_o_1 cb_o_2 cb_o_3 cb_o_4 cb_x_0 cb_x_1 cb_x_2 cb_x_3 cb_x_4 cb_x_5 cb_r_0 cb_r_1 cb_r_2 cb_r_3 cb_r_4 cb_rp_0 cb_rp_1 cb_rp_2 cb_rp_3 cb_rp_4 cb_rp_5 cb_q_0 cb_q_1 cb_q_2 cb_q_3 cb_q_4
  have o : Bk W (w2.heap.size) 30 #[.int .i64 li, .int .i64 by_, .slice (some ⟨gv, 0, none⟩) T.length cap_v, .int .i64 (se + 1), .int .i64 dr] := O.out
  have zo : w2.heap.size < W.heap.size := o.lt
  have o_0 : W.cell? ⟨w2.heap.size, 0, none⟩ = some (.int .i64 li) := o.cell 0
  have o_1 : W.cell? ⟨w2.heap.size, 1, none⟩ = some (.int .i64 by_) := o.cell 1
  have o_2 : W.cell? ⟨w2.heap.size, 2, none⟩ = some (.slice (some ⟨gv, 0, none⟩) T.length cap_v) := o.cell 2
  have o_3 : W.cell? ⟨w2.heap.size, 3, none⟩ = some (.int .i64 (se + 1)) := o.cell 3
  have o_4 : W.cell? ⟨w2.heap.size, 4, none⟩ = some (.int .i64 dr) := o.cell 4
  have of := o.free
  have Ho := Lib.hid o
  clear o
  have x : Bk W (w2.heap.size + 1) 35 #[.int .i64 p.id, .int .i64 p.so, .int .i64 p.de, .int .i64 p.po, .int .i64 p.ma, .int .i64 p.si] := X.out
  have zx : w2.heap.size + 1 < W.heap.size := x.lt
  have x_0 : W.cell? ⟨w2.heap.size + 1, 0, none⟩ = some (.int .i64 p.id) := x.cell 0
  have x_1 : W.cell? ⟨w2.heap.size + 1, 1, none⟩ = some (.int .i64 p.so) := x.cell 1
  have x_2 : W.cell? ⟨w2.heap.size + 1, 2, none⟩ = some (.int .i64 p.de) := x.cell 2
  have x_3 : W.cell? ⟨w2.heap.size + 1, 3, none⟩ = some (.int .i64 p.po) := x.cell 3
  have x_4 : W.cell? ⟨w2.heap.size + 1, 4, none⟩ = some (.int .i64 p.ma) := x.cell 4
  have x_5 : W.cell? ⟨w2.heap.size + 1, 5, none⟩ = some (.int .i64 p.si) := x.cell 5
  have xf := x.free
  have Hx := Lib.hid x
  clear x
  have r : Bk W (w.heap.size + 1) 30 #[.int .i64 0, .int .i64 0, .slice none 0 0, .int .i64 0, .int .i64 0] := R.out
  have zr : w.heap.size + 1 < W.heap.size := r.lt
  have r_0 : W.cell? ⟨w.heap.size + 1, 0, none⟩ = some (.int .i64 0) := r.cell 0
  have r_1 : W.cell? ⟨w.heap.size + 1, 1, none⟩ = some (.int .i64 0) := r.cell 1
  have r_2 : W.cell? ⟨w.heap.size + 1, 2, none⟩ = some (.slice none 0 0) := r.cell 2
  have r_3 : W.cell? ⟨w.heap.size + 1, 3, none⟩ = some (.int .i64 0) := r.cell 3
  have r_4 : W.cell? ⟨w.heap.size + 1, 4, none⟩ = some (.int .i64 0) := r.cell 4
  have rf := r.free
  have Hr := Lib.hid r
  clear r
  have rp : Bk W (w.heap.size + 1 + 1) 35 #[.int .i64 0, .int .i64 0, .int .i64 0, .int .i64 0, .int .i64 0, .int .i64 0] := RP.out
  have zrp : w.heap.size + 1 + 1 < W.heap.size := rp.lt
  have rp_0 : W.cell? ⟨w.heap.size + 1 + 1, 0, none⟩ = some (.int .i64 0) := rp.cell 0
  have rp_1 : W.cell? ⟨w.heap.size + 1 + 1, 1, none⟩ = some (.int .i64 0) := rp.cell 1
  have rp_2 : W.cell? ⟨w.heap.size + 1 + 1, 2, none⟩ = some (.int .i64 0) := rp.cell 2
  have rp_3 : W.cell? ⟨w.heap.size + 1 + 1, 3, none⟩ = some (.int .i64 0) := rp.cell 3
  have rp_4 : W.cell? ⟨w.heap.size + 1 + 1, 4, none⟩ = some (.int .i64 0) := rp.cell 4
  have rp_5 : W.cell? ⟨w.heap.size + 1 + 1, 5, none⟩ = some (.int .i64 0) := rp.cell 5
  have rpf := rp.free
  have Hrp := Lib.hid rp
  clear rp
  have n1 : ¬ w2.heap.size = w.heap.size + 1 := by omega
  have n2 : ¬ w2.heap.size = w.heap.size + 1 + 1 := by omega
  have n3 : ¬ w.heap.size + 1 = w2.heap.size := by omega
  have n4 : ¬ w.heap.size + 1 + 1 = w2.heap.size := by omega
  have n5 : ¬ w2.heap.size + 1 = w.heap.size + 1 := by omega
  have n6 : ¬ w2.heap.size + 1 = w.heap.size + 1 + 1 := by omega
  have n7 : ¬ w.heap.size + 1 = w2.heap.size + 1 := by omega
  have n8 : ¬ w.heap.size + 1 + 1 = w2.heap.size + 1 := by omega
  have n9 : ¬ w2.heap.size = w.heap.size := by omega
  have n10 : ¬ w.heap.size = w2.heap.size := by omega
  go_region_held3 (fun w' => w'.cell? ⟨w2.heap.size, 0, none⟩ = some (.int .i64 li) ∧ w'.cell? ⟨w2.heap.size, 1, none⟩ = some (.int .i64 by_) ∧ w'.cell? ⟨w2.heap.size, 2, none⟩ = some (.slice (some ⟨gv, 0, none⟩) T.length cap_v) ∧ w'.cell? ⟨w2.heap.size, 3, none⟩ = some (.int .i64 (se + 1)) ∧ w'.cell? ⟨w2.heap.size, 4, none⟩ = some (.int .i64 dr) ∧ w'.cell? ⟨w2.heap.size + 1, 0, none⟩ = some (.int .i64 p.id) ∧ w'.cell? ⟨w2.heap.size + 1, 1, none⟩ = some (.int .i64 p.so) ∧ w'.cell? ⟨w2.heap.size + 1, 2, none⟩ = some (.int .i64 p.de) ∧ w'.cell? ⟨w2.heap.size + 1, 3, none⟩ = some (.int .i64 p.po) ∧ w'.cell? ⟨w2.heap.size + 1, 4, none⟩ = some (.int .i64 p.ma) ∧ w'.cell? ⟨w2.heap.size + 1, 5, none⟩ = some (.int .i64 p.si)) (go_keep) (fail)
  all_goals go_wp2_with fail
  all_goals
    refine bodyPost_ret (v := .tuple #[.agg #[.int .i64 li, .int .i64 by_, .slice (some ⟨gv, 0, none⟩) T.length cap_v, .int .i64 (se + 1), .int .i64 dr], .agg #[.int .i64 (p.id), .int .i64 (p.so), .int .i64 (p.de), .int .i64 (p.po), .int .i64 (p.ma), .int .i64 (p.si)], .bool true]) (by simp [results, Try.results68, go_sem, r_0, r_1, r_2, r_3, r_4, rp_0, rp_1, rp_2, rp_3, rp_4, rp_5]) rfl ⟨_, _, rfl, ?_, ?_⟩
    · exact (by refine IOw.here (lo := w1.heap.size) ?_ (by omega); repeat (first | (with_reducible exact IOw.of HOW.out) | (with_reducible refine IOw.alloc ?_ _) | (with_reducible refine IOw.farB ?_ (by omega)) | (with_reducible refine IOw.drewN ?_ _) | (with_reducible refine IOw.drew ?_)))
    · exact (by repeat (first | (with_reducible exact HBW.out) | (with_reducible refine ba ?_ _) | (with_reducible refine bsB ?_ (by omega)) | (with_reducible refine bd ?_ _) | (with_reducible refine Below.drew ?_)))
theorem implTakeHead_any (li by_ : Int) (A : Option Addr) (n cap : Nat) (se dr : Int) (L : List Pk) (w : World) (hl : L.length = n) (hr : IRow w A (fl L)) (hn : n ≤ 1048576) (hcap : n ≤ cap) :
    Calls Try.prog 68 #[.agg #[.int .i64 li, .int .i64 by_, .slice A n cap, .int .i64 se, .int .i64 dr]] w (ThP w li by_ L se dr) := by
  rcases h : qok li by_ L se dr with _ | _
  · exact implTakeHead_bad _ _ _ _ _ _ _ _ _ hl hr hn hcap h
  cases L with
  | nil => simp at hl; subst hl; exact implTakeHead_nil _ _ _ _ _ _ _ h
  | cons p T =>
    simp at hl
    subst hl
    obtain ⟨g, off, _, rfl, _⟩ := pk_at hr (k := 0) (by simp)
    rcases h2 : cnt (se + 1) with _ | _
    · exact implTakeHead_over _ _ _ _ _ _ _ _ _ _ hr hn hcap h h2
    · exact implTakeHead_yes _ _ _ _ _ _ _ _ _ _ hr hn hcap (thOk_iff.2 ⟨h, by simp, h2⟩)
end Go.Proofs.Ytgdldmeeaejjpaa
