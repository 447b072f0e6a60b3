/- The statement FnExactRunQueueSaid: for every input the law FnExactRunQueue returns true, and its arguments read as before. No condition. -/
import Derived.Test.YtgdldmeeaejjpaaRqSpec
import Derived.Test.YtgdldmeeaejjpaaRqImpl
import Derived.Test.YtgdldmeeaejjpaaFairRows
import Derived.Deep.RegionHeld3
import Derived.Deep.DeepCutAuto
namespace Go.Proofs.Ytgdldmeeaejjpaa.lawRunQueue
open Go.ChangeShapes Go.WideShapes Go.ChangeAt Go.RowKit
set_option linter.unusedVariables false
theorem rqRun_len (li by_ : Int) (t : Nat) (x : Rq) (P : List Pk) : ∀ k, k ≤ P.length → (rqRun li by_ t x P k).L.length ≤ x.L.length + k
  | 0, _ => by rw [rqRun_zero]; simp
  | k + 1, h => by
    have ih := rqRun_len li by_ t x P k (by omega)
    rw [rqRun_succ (p := P[k]'(by omega)) (List.getElem?_eq_getElem (by omega))]
    simp only [rqStep, rqTake, List.length_drop]
    unfold rqPut
    split <;> simp <;> omega
theorem rq_lens (li by_ : Int) (L : List Pk) (se dr : Int) (P : List Pk) (t : Int) :
    (ifL (rqOk li by_ L se dr P t) (rqE li by_ L se dr P t).L).length ≤ 120 ∧ (ifl (rqOk li by_ L se dr P t) (rqE li by_ L se dr P t).T).length ≤ 300 ∧ (ifl (rqOk li by_ L se dr P t) (rqE li by_ L se dr P t).D).length ≤ 60 := by
  rcases h : rqOk li by_ L se dr P t with _ | _
  · simp [ifL, ifl]
  · simp only [rqOk, Bool.and_eq_true] at h
    obtain ⟨g1, g2, g3, -⟩ := rqG_iff.1 h.1
    have q := qok_iff.1 g1
    have h1 := rqRun_len li by_ t.toNat ⟨L, se, dr, [], []⟩ P P.length (Nat.le_refl _)
    have h2 := rqRun_b li by_ t.toNat ⟨L, se, dr, [], []⟩ P P.length (Nat.le_refl _)
    have h3 : t.toNat * P.length ≤ 5 * 60 := Nat.mul_le_mul (by omega) (by omega)
    simp only [List.length_nil] at h2 h1
    simp only [ifL, ifl, rqE, if_true]
    omega
set_option maxRecDepth 100000 in
set_option maxHeartbeats 16000000 in
theorem walk (w : World) (li : Int) (_ : IB li) (by_ : Int) (_ : IB by_) (A : Option Addr) (n cap : Nat) (l : List Int) (h : IRow w A l ∧ l.length = n * 6 ∧ n ≤ 9223372036854775807 ∧ IBs l) (se : Int) (_ : IB se) (dr : Int) (_ : IB dr)
    (B : Option Addr) (m capp : Nat) (l2 : List Int) (h2 : IRow w B l2 ∧ l2.length = m * 6 ∧ m ≤ 9223372036854775807 ∧ IBs l2) (t : Int) (_ : IB t) :
    Calls Try.prog 4 #[.agg #[.int .i64 li, .int .i64 by_, .slice A n cap, .int .i64 se, .int .i64 dr], .slice B m capp, .int .i64 t] w fun e w' => e = .returned (.bool true) ∧ Below w.heap.size w w' := by
  obtain ⟨hr, hl, hn, _⟩ := h
  obtain ⟨hr2, hl2, hm, _⟩ := h2
  obtain ⟨L, hL, rfl⟩ := unfl n l hl
  obtain ⟨P, hP, rfl⟩ := unfl m l2 hl2
  have HL := Lib.hid hl
  have HP := Lib.hid hl2
  have HLL := Lib.hid hL
  have HPP := Lib.hid hP
  have HR_a := Lib.hid hr
  have HR_p := Lib.hid hr2
  clear hl hr hl2 hr2
  by_cases hbig : n ≤ 1048576
  rotate_left
  · go_enter Try.func4, Try.ntmps4
    go_wp2_with fail
    refine (szQueue_any _ _ _ _ _ _ _ _ hn (if_neg hbig)).mono ?_
    rintro e w1 ⟨rfl, hg⟩
    go_wp2_with fail
    go_ret
    exact ⟨rfl, (by repeat (first | (with_reducible exact b0 _) | (with_reducible refine ba ?_ _) | (with_reducible refine bd ?_ _) | (with_reducible refine Below.drew ?_) | (with_reducible refine bs ?_ (by first | exact Nat.le_refl _ | exact Nat.le_add_right _ _ | omega) _) | (with_reducible refine bt ?_ (by assumption))))⟩
  by_cases hbig2 : (m : Int) ≤ 1048576 - (n : Int)
  rotate_left
  · go_enter Try.func4, Try.ntmps4
    go_wp2_with fail
    refine (szQueue_any _ _ _ _ _ _ _ _ hn (if_pos hbig)).mono ?_
    rintro e w1 ⟨rfl, hg⟩
    go_wp2_with fail
    refine (szPacketS_any _ _ _ _ _ hm (by omega) (by omega) (if_neg (show ¬ (m : Int) ≤ 1048576 - (n : Int) from by omega))).mono ?_
    rintro e w2 ⟨rfl, hg2⟩
    go_wp2_with fail
    go_ret
    exact ⟨rfl, (by repeat (first | (with_reducible exact b0 _) | (with_reducible refine ba ?_ _) | (with_reducible refine bd ?_ _) | (with_reducible refine Below.drew ?_) | (with_reducible refine bs ?_ (by first | exact Nat.le_refl _ | exact Nat.le_add_right _ _ | omega) _) | (with_reducible refine bt ?_ (by assumption))))⟩
  have HSP := Lib.hid (fun (A : Option Addr) (cap : Nat) (w : World) (hr : IRow w A (fl L)) (hc : n ≤ cap) (hA : A = none → cap = 0) (B : Option Addr) (capp : Nat) (hr2 : IRow w B (fl P)) (hc2 : m ≤ capp) (hB : B = none → capp = 0) => specRunQueue_any li by_ A n cap se dr L B m capp P t w hL hr hbig hc hA hP hr2 (by omega) hc2 hB)
  have HIM := Lib.hid (fun (A : Option Addr) (cap : Nat) (w : World) (hr : IRow w A (fl L)) (hc : n ≤ cap) (hA : A = none → cap = 0) (B : Option Addr) (capp : Nat) (hr2 : IRow w B (fl P)) (hc2 : m ≤ capp) (hB : B = none → capp = 0) => implRunQueue_any li by_ A n cap se dr L B m capp P t w hL hr hbig hc hA hP hr2 (by omega) hc2 hB)
  unfold RqP at HSP HIM
  have HLN := Lib.hid (rq_lens li by_ L se dr P t)
  clear hL hP
  generalize (ifL (rqOk li by_ L se dr P t) (rqE li by_ L se dr P t).L) = M at *
  generalize (ifl (rqOk li by_ L se dr P t) (rqE li by_ L se dr P t).T) = T at *
  generalize (ifl (rqOk li by_ L se dr P t) (rqE li by_ L se dr P t).D) = D at *
  generalize (rqE li by_ L se dr P t) = Ex at *
  generalize rqOk li by_ L se dr P t = ok at *
  generalize ifz ok li = xl at *
  generalize ifz ok by_ = xb at *
  generalize ifz ok Ex.se = xs at *
  generalize ifz ok Ex.dr = xd at *
  have HMM := Lib.hid (show (fl M).length = M.length * 6 from fl_len M)
  have hml : M.length ≤ 120 := HLN.out.1
  go_enter Try.func4, Try.ntmps4
  go_wp2_with fail
  refine (szQueue_any _ _ _ _ _ _ _ _ hn (if_pos hbig)).mono ?_
  rintro e w1 ⟨rfl, hb1⟩
  have z1 := hb1.size
  (try simp at z1)
  have HK_q_1 : Hid (Bk w1 (w.heap.size) 24 #[.int .i64 li, .int .i64 by_, .slice A n cap, .int .i64 se, .int .i64 dr]) := Lib.hid ((Bk.new_ (by simp) : Bk _ (w.heap.size) 24 #[.int .i64 li, .int .i64 by_, .slice A n cap, .int .i64 se, .int .i64 dr]).old hb1)
  have zb_q : w.heap.size < w1.heap.size := HK_q_1.out.lt
  have cb_q_0 : w1.cell? ⟨w.heap.size, 0, none⟩ = some (.int .i64 li) := HK_q_1.out.cell 0
  have cb_q_1 : w1.cell? ⟨w.heap.size, 1, none⟩ = some (.int .i64 by_) := HK_q_1.out.cell 1
  have cb_q_2 : w1.cell? ⟨w.heap.size, 2, none⟩ = some (.slice A n cap) := HK_q_1.out.cell 2
  have cb_q_3 : w1.cell? ⟨w.heap.size, 3, none⟩ = some (.int .i64 se) := HK_q_1.out.cell 3
  have cb_q_4 : w1.cell? ⟨w.heap.size, 4, none⟩ = some (.int .i64 dr) := HK_q_1.out.cell 4
  have HB_1 := Lib.hid (bt (ba (b0 w) _) hb1)
  clear hb1
  go_wp2_with fail
  refine (szPacketS_any _ _ _ _ _ hm (by omega) (by omega) (if_pos hbig2)).mono ?_
  rintro e w2 ⟨rfl, hb2⟩
  have z2 := hb2.size
  (try simp at z2)
  have HK_q_2 : Hid (Bk w2 (w.heap.size) 24 #[.int .i64 li, .int .i64 by_, .slice A n cap, .int .i64 se, .int .i64 dr]) := Lib.hid (HK_q_1.out.old hb2)
  clear HK_q_1
  clear cb_q_0 cb_q_1 cb_q_2 cb_q_3 cb_q_4 zb_q
  have zb_q : w.heap.size < w2.heap.size := HK_q_2.out.lt
  have cb_q_0 : w2.cell? ⟨w.heap.size, 0, none⟩ = some (.int .i64 li) := HK_q_2.out.cell 0
  have cb_q_1 : w2.cell? ⟨w.heap.size, 1, none⟩ = some (.int .i64 by_) := HK_q_2.out.cell 1
  have cb_q_2 : w2.cell? ⟨w.heap.size, 2, none⟩ = some (.slice A n cap) := HK_q_2.out.cell 2
  have cb_q_3 : w2.cell? ⟨w.heap.size, 3, none⟩ = some (.int .i64 se) := HK_q_2.out.cell 3
  have cb_q_4 : w2.cell? ⟨w.heap.size, 4, none⟩ = some (.int .i64 dr) := HK_q_2.out.cell 4
  have HB_2 := Lib.hid (bt HB_1.out hb2)
  clear hb2
  go_wp2_with fail
  refine (toQueue_any _ _ _ _ _ _ _ L _ HLL.out (HR_a.out.below HB_2.out) (by omega)).mono ?_
  rintro e w3 ⟨A_s, cap_s, rfl, ho_s, hb3⟩
  have HN_s := Lib.hid ho_s.len
  have HO_s_3 := Lib.hid ho_s
  clear ho_s
  have z3 := hb3.size
  (try simp at z3)
  have HK_q_3 : Hid (Bk w3 (w.heap.size) 24 #[.int .i64 li, .int .i64 by_, .slice A n cap, .int .i64 se, .int .i64 dr]) := Lib.hid (HK_q_2.out.old hb3)
  clear HK_q_2
  clear cb_q_0 cb_q_1 cb_q_2 cb_q_3 cb_q_4 zb_q
  have zb_q : w.heap.size < w3.heap.size := HK_q_3.out.lt
  have cb_q_0 : w3.cell? ⟨w.heap.size, 0, none⟩ = some (.int .i64 li) := HK_q_3.out.cell 0
  have cb_q_1 : w3.cell? ⟨w.heap.size, 1, none⟩ = some (.int .i64 by_) := HK_q_3.out.cell 1
  have cb_q_2 : w3.cell? ⟨w.heap.size, 2, none⟩ = some (.slice A n cap) := HK_q_3.out.cell 2
  have cb_q_3 : w3.cell? ⟨w.heap.size, 3, none⟩ = some (.int .i64 se) := HK_q_3.out.cell 3
  have cb_q_4 : w3.cell? ⟨w.heap.size, 4, none⟩ = some (.int .i64 dr) := HK_q_3.out.cell 4
  have HB_3 := Lib.hid (bt HB_2.out hb3)
  clear hb3
  go_wp2_with fail
  refine (toPacketS_any B m capp (fl P) _ HP.out (HR_p.out.below HB_3.out) (by omega)).mono ?_
  rintro e w4 ⟨A_t, n_t, cap_t, rfl, ho_t, hb4⟩
  have HN_t := Lib.hid ho_t.len
  have HO_t_4 := Lib.hid ho_t
  clear ho_t
  have z4 := hb4.size
  (try simp at z4)
  have HK_q_4 : Hid (Bk w4 (w.heap.size) 24 #[.int .i64 li, .int .i64 by_, .slice A n cap, .int .i64 se, .int .i64 dr]) := Lib.hid (HK_q_3.out.old hb4)
  clear HK_q_3
  clear cb_q_0 cb_q_1 cb_q_2 cb_q_3 cb_q_4 zb_q
  have zb_q : w.heap.size < w4.heap.size := HK_q_4.out.lt
  have cb_q_0 : w4.cell? ⟨w.heap.size, 0, none⟩ = some (.int .i64 li) := HK_q_4.out.cell 0
  have cb_q_1 : w4.cell? ⟨w.heap.size, 1, none⟩ = some (.int .i64 by_) := HK_q_4.out.cell 1
  have cb_q_2 : w4.cell? ⟨w.heap.size, 2, none⟩ = some (.slice A n cap) := HK_q_4.out.cell 2
  have cb_q_3 : w4.cell? ⟨w.heap.size, 3, none⟩ = some (.int .i64 se) := HK_q_4.out.cell 3
  have cb_q_4 : w4.cell? ⟨w.heap.size, 4, none⟩ = some (.int .i64 dr) := HK_q_4.out.cell 4
  have HO_s_4 := Lib.hid (HO_s_3.out.old hb4)
  clear HO_s_3
  have HB_4 := Lib.hid (bt HB_3.out hb4)
  clear hb4
  obtain rfl : m = n_t := by have := HN_t.out; have := HP.out; omega
  go_wp2_with fail
  refine (HSP.out _ _ _ HO_s_4.out.row HO_s_4.out.cap (HO_s_4.out).none_cap _ _ HO_t_4.out.row HO_t_4.out.cap (HO_t_4.out).none_cap).mono ?_
  rintro e w5 ⟨A_v, cap_v, A_vt, n_vt, cap_vt, A_vd, n_vd, cap_vd, a1_v, b1_v, a2_v, b2_v, a3_v, b3_v, rfl, ho_v, ho_vt, ho_vd, ⟨t1_v, t2_v, t3_v, t4_v, t5_v, t6_v⟩, ⟨s1_v, s2_v, s3_v⟩, hb5⟩
  have HN_v := Lib.hid ho_v.len
  have HO_v_5 := Lib.hid ho_v
  clear ho_v
  have HN_vt := Lib.hid ho_vt.len
  have HO_vt_5 := Lib.hid ho_vt
  clear ho_vt
  have HN_vd := Lib.hid ho_vd.len
  have HO_vd_5 := Lib.hid ho_vd
  clear ho_vd
  have z5 := hb5.size
  (try simp at z5)
  have HK_q_5 : Hid (Bk w5 (w.heap.size) 24 #[.int .i64 li, .int .i64 by_, .slice A n cap, .int .i64 se, .int .i64 dr]) := Lib.hid (HK_q_4.out.old hb5)
  clear HK_q_4
  clear cb_q_0 cb_q_1 cb_q_2 cb_q_3 cb_q_4 zb_q
  have zb_q : w.heap.size < w5.heap.size := HK_q_5.out.lt
  have cb_q_0 : w5.cell? ⟨w.heap.size, 0, none⟩ = some (.int .i64 li) := HK_q_5.out.cell 0
  have cb_q_1 : w5.cell? ⟨w.heap.size, 1, none⟩ = some (.int .i64 by_) := HK_q_5.out.cell 1
  have cb_q_2 : w5.cell? ⟨w.heap.size, 2, none⟩ = some (.slice A n cap) := HK_q_5.out.cell 2
  have cb_q_3 : w5.cell? ⟨w.heap.size, 3, none⟩ = some (.int .i64 se) := HK_q_5.out.cell 3
  have cb_q_4 : w5.cell? ⟨w.heap.size, 4, none⟩ = some (.int .i64 dr) := HK_q_5.out.cell 4
  have HO_s_5 := Lib.hid (HO_s_4.out.old hb5)
  clear HO_s_4
  have HO_t_5 := Lib.hid (HO_t_4.out.old hb5)
  clear HO_t_4
  have HB_5 := Lib.hid (bt HB_4.out hb5)
  clear hb5
  (try simp at t1_v); (try simp at t3_v); (try simp at t5_v)
  go_wp2_with fail
  refine (toQueue_any _ _ _ _ _ _ _ L _ HLL.out (HR_a.out.below (ba HB_5.out _)) (by omega)).mono ?_
  rintro e w6 ⟨A_x, cap_x, rfl, ho_x, hb6⟩
  have HN_x := Lib.hid ho_x.len
  have HO_x_6 := Lib.hid ho_x
  clear ho_x
  have z6 := hb6.size
  (try simp at z6)
  have HK_q_6 : Hid (Bk w6 (w.heap.size) 24 #[.int .i64 li, .int .i64 by_, .slice A n cap, .int .i64 se, .int .i64 dr]) := Lib.hid ((HK_q_5.out.alloc _).old hb6)
  clear HK_q_5
  clear cb_q_0 cb_q_1 cb_q_2 cb_q_3 cb_q_4 zb_q
  have zb_q : w.heap.size < w6.heap.size := HK_q_6.out.lt
  have cb_q_0 : w6.cell? ⟨w.heap.size, 0, none⟩ = some (.int .i64 li) := HK_q_6.out.cell 0
  have cb_q_1 : w6.cell? ⟨w.heap.size, 1, none⟩ = some (.int .i64 by_) := HK_q_6.out.cell 1
  have cb_q_2 : w6.cell? ⟨w.heap.size, 2, none⟩ = some (.slice A n cap) := HK_q_6.out.cell 2
  have cb_q_3 : w6.cell? ⟨w.heap.size, 3, none⟩ = some (.int .i64 se) := HK_q_6.out.cell 3
  have cb_q_4 : w6.cell? ⟨w.heap.size, 4, none⟩ = some (.int .i64 dr) := HK_q_6.out.cell 4
  have HK_w0_6 : Hid (Bk w6 (w5.heap.size) 30 #[.int .i64 xl, .int .i64 xb, .slice A_v M.length cap_v, .int .i64 xs, .int .i64 xd]) := Lib.hid ((Bk.new_ (by simp) : Bk _ (w5.heap.size) 30 #[.int .i64 xl, .int .i64 xb, .slice A_v M.length cap_v, .int .i64 xs, .int .i64 xd]).old hb6)
  have zb_w0 : w5.heap.size < w6.heap.size := HK_w0_6.out.lt
  have cb_w0_0 : w6.cell? ⟨w5.heap.size, 0, none⟩ = some (.int .i64 xl) := HK_w0_6.out.cell 0
  have cb_w0_1 : w6.cell? ⟨w5.heap.size, 1, none⟩ = some (.int .i64 xb) := HK_w0_6.out.cell 1
  have cb_w0_2 : w6.cell? ⟨w5.heap.size, 2, none⟩ = some (.slice A_v M.length cap_v) := HK_w0_6.out.cell 2
  have cb_w0_3 : w6.cell? ⟨w5.heap.size, 3, none⟩ = some (.int .i64 xs) := HK_w0_6.out.cell 3
  have cb_w0_4 : w6.cell? ⟨w5.heap.size, 4, none⟩ = some (.int .i64 xd) := HK_w0_6.out.cell 4
  have HO_s_6 := Lib.hid ((HO_s_5.out.alloc _).old hb6)
  clear HO_s_5
  have HO_t_6 := Lib.hid ((HO_t_5.out.alloc _).old hb6)
  clear HO_t_5
  have HO_v_6 := Lib.hid ((HO_v_5.out.alloc _).old hb6)
  clear HO_v_5
  have HO_vt_6 := Lib.hid ((HO_vt_5.out.alloc _).old hb6)
  clear HO_vt_5
  have HO_vd_6 := Lib.hid ((HO_vd_5.out.alloc _).old hb6)
  clear HO_vd_5
  have HB_6 := Lib.hid (bt (ba HB_5.out _) hb6)
  clear hb6
  go_wp2_with fail
  refine (toPacketS_any B m capp (fl P) _ HP.out (HR_p.out.below (ba HB_6.out _)) (by omega)).mono ?_
  rintro e w7 ⟨A_u, n_u, cap_u, rfl, ho_u, hb7⟩
  have HN_u := Lib.hid ho_u.len
  have HO_u_7 := Lib.hid ho_u
  clear ho_u
  have z7 := hb7.size
  (try simp at z7)
  have HK_q_7 : Hid (Bk w7 (w.heap.size) 24 #[.int .i64 li, .int .i64 by_, .slice A n cap, .int .i64 se, .int .i64 dr]) := Lib.hid ((HK_q_6.out.alloc _).old hb7)
  clear HK_q_6
  clear cb_q_0 cb_q_1 cb_q_2 cb_q_3 cb_q_4 zb_q
  have zb_q : w.heap.size < w7.heap.size := HK_q_7.out.lt
  have cb_q_0 : w7.cell? ⟨w.heap.size, 0, none⟩ = some (.int .i64 li) := HK_q_7.out.cell 0
  have cb_q_1 : w7.cell? ⟨w.heap.size, 1, none⟩ = some (.int .i64 by_) := HK_q_7.out.cell 1
  have cb_q_2 : w7.cell? ⟨w.heap.size, 2, none⟩ = some (.slice A n cap) := HK_q_7.out.cell 2
  have cb_q_3 : w7.cell? ⟨w.heap.size, 3, none⟩ = some (.int .i64 se) := HK_q_7.out.cell 3
  have cb_q_4 : w7.cell? ⟨w.heap.size, 4, none⟩ = some (.int .i64 dr) := HK_q_7.out.cell 4
  have HK_w0_7 : Hid (Bk w7 (w5.heap.size) 30 #[.int .i64 xl, .int .i64 xb, .slice A_v M.length cap_v, .int .i64 xs, .int .i64 xd]) := Lib.hid ((HK_w0_6.out.alloc _).old hb7)
  clear HK_w0_6
  clear cb_w0_0 cb_w0_1 cb_w0_2 cb_w0_3 cb_w0_4 zb_w0
  have zb_w0 : w5.heap.size < w7.heap.size := HK_w0_7.out.lt
  have cb_w0_0 : w7.cell? ⟨w5.heap.size, 0, none⟩ = some (.int .i64 xl) := HK_w0_7.out.cell 0
  have cb_w0_1 : w7.cell? ⟨w5.heap.size, 1, none⟩ = some (.int .i64 xb) := HK_w0_7.out.cell 1
  have cb_w0_2 : w7.cell? ⟨w5.heap.size, 2, none⟩ = some (.slice A_v M.length cap_v) := HK_w0_7.out.cell 2
  have cb_w0_3 : w7.cell? ⟨w5.heap.size, 3, none⟩ = some (.int .i64 xs) := HK_w0_7.out.cell 3
  have cb_w0_4 : w7.cell? ⟨w5.heap.size, 4, none⟩ = some (.int .i64 xd) := HK_w0_7.out.cell 4
  have HK_x0_7 : Hid (Bk w7 (w6.heap.size) 30 #[.int .i64 li, .int .i64 by_, .slice A_x n cap_x, .int .i64 se, .int .i64 dr]) := Lib.hid ((Bk.new_ (by simp) : Bk _ (w6.heap.size) 30 #[.int .i64 li, .int .i64 by_, .slice A_x n cap_x, .int .i64 se, .int .i64 dr]).old hb7)
  have zb_x0 : w6.heap.size < w7.heap.size := HK_x0_7.out.lt
  have cb_x0_0 : w7.cell? ⟨w6.heap.size, 0, none⟩ = some (.int .i64 li) := HK_x0_7.out.cell 0
  have cb_x0_1 : w7.cell? ⟨w6.heap.size, 1, none⟩ = some (.int .i64 by_) := HK_x0_7.out.cell 1
  have cb_x0_2 : w7.cell? ⟨w6.heap.size, 2, none⟩ = some (.slice A_x n cap_x) := HK_x0_7.out.cell 2
  have cb_x0_3 : w7.cell? ⟨w6.heap.size, 3, none⟩ = some (.int .i64 se) := HK_x0_7.out.cell 3
  have cb_x0_4 : w7.cell? ⟨w6.heap.size, 4, none⟩ = some (.int .i64 dr) := HK_x0_7.out.cell 4
  have HO_s_7 := Lib.hid ((HO_s_6.out.alloc _).old hb7)
  clear HO_s_6
  have HO_t_7 := Lib.hid ((HO_t_6.out.alloc _).old hb7)
  clear HO_t_6
  have HO_v_7 := Lib.hid ((HO_v_6.out.alloc _).old hb7)
  clear HO_v_6
  have HO_vt_7 := Lib.hid ((HO_vt_6.out.alloc _).old hb7)
  clear HO_vt_6
  have HO_vd_7 := Lib.hid ((HO_vd_6.out.alloc _).old hb7)
  clear HO_vd_6
  have HO_x_7 := Lib.hid ((HO_x_6.out.alloc _).old hb7)
  clear HO_x_6
  have HB_7 := Lib.hid (bt (ba HB_6.out _) hb7)
  clear hb7
  obtain rfl : m = n_u := by have := HN_u.out; have := HP.out; omega
  go_wp2_with fail
  refine (HIM.out _ _ _ HO_x_7.out.row HO_x_7.out.cap (HO_x_7.out).none_cap _ _ HO_u_7.out.row HO_u_7.out.cap (HO_u_7.out).none_cap).mono ?_
  rintro e w8 ⟨A_g, cap_g, A_gt, n_gt, cap_gt, A_gd, n_gd, cap_gd, a1_g, b1_g, a2_g, b2_g, a3_g, b3_g, rfl, ho_g, ho_gt, ho_gd, ⟨t1_g, t2_g, t3_g, t4_g, t5_g, t6_g⟩, ⟨s1_g, s2_g, s3_g⟩, hb8⟩
  have HN_g := Lib.hid ho_g.len
  have HO_g_8 := Lib.hid ho_g
  clear ho_g
  have HN_gt := Lib.hid ho_gt.len
  have HO_gt_8 := Lib.hid ho_gt
  clear ho_gt
  have HN_gd := Lib.hid ho_gd.len
  have HO_gd_8 := Lib.hid ho_gd
  clear ho_gd
  have z8 := hb8.size
  (try simp at z8)
  have HK_q_8 : Hid (Bk w8 (w.heap.size) 24 #[.int .i64 li, .int .i64 by_, .slice A n cap, .int .i64 se, .int .i64 dr]) := Lib.hid (HK_q_7.out.old hb8)
  clear HK_q_7
  clear cb_q_0 cb_q_1 cb_q_2 cb_q_3 cb_q_4 zb_q
  have zb_q : w.heap.size < w8.heap.size := HK_q_8.out.lt
  have cb_q_0 : w8.cell? ⟨w.heap.size, 0, none⟩ = some (.int .i64 li) := HK_q_8.out.cell 0
  have cb_q_1 : w8.cell? ⟨w.heap.size, 1, none⟩ = some (.int .i64 by_) := HK_q_8.out.cell 1
  have cb_q_2 : w8.cell? ⟨w.heap.size, 2, none⟩ = some (.slice A n cap) := HK_q_8.out.cell 2
  have cb_q_3 : w8.cell? ⟨w.heap.size, 3, none⟩ = some (.int .i64 se) := HK_q_8.out.cell 3
  have cb_q_4 : w8.cell? ⟨w.heap.size, 4, none⟩ = some (.int .i64 dr) := HK_q_8.out.cell 4
  have HK_w0_8 : Hid (Bk w8 (w5.heap.size) 30 #[.int .i64 xl, .int .i64 xb, .slice A_v M.length cap_v, .int .i64 xs, .int .i64 xd]) := Lib.hid (HK_w0_7.out.old hb8)
  clear HK_w0_7
  clear cb_w0_0 cb_w0_1 cb_w0_2 cb_w0_3 cb_w0_4 zb_w0
  have zb_w0 : w5.heap.size < w8.heap.size := HK_w0_8.out.lt
  have cb_w0_0 : w8.cell? ⟨w5.heap.size, 0, none⟩ = some (.int .i64 xl) := HK_w0_8.out.cell 0
  have cb_w0_1 : w8.cell? ⟨w5.heap.size, 1, none⟩ = some (.int .i64 xb) := HK_w0_8.out.cell 1
  have cb_w0_2 : w8.cell? ⟨w5.heap.size, 2, none⟩ = some (.slice A_v M.length cap_v) := HK_w0_8.out.cell 2
  have cb_w0_3 : w8.cell? ⟨w5.heap.size, 3, none⟩ = some (.int .i64 xs) := HK_w0_8.out.cell 3
  have cb_w0_4 : w8.cell? ⟨w5.heap.size, 4, none⟩ = some (.int .i64 xd) := HK_w0_8.out.cell 4
  have HK_x0_8 : Hid (Bk w8 (w6.heap.size) 30 #[.int .i64 li, .int .i64 by_, .slice A_x n cap_x, .int .i64 se, .int .i64 dr]) := Lib.hid (HK_x0_7.out.old hb8)
  clear HK_x0_7
  clear cb_x0_0 cb_x0_1 cb_x0_2 cb_x0_3 cb_x0_4 zb_x0
  have zb_x0 : w6.heap.size < w8.heap.size := HK_x0_8.out.lt
  have cb_x0_0 : w8.cell? ⟨w6.heap.size, 0, none⟩ = some (.int .i64 li) := HK_x0_8.out.cell 0
  have cb_x0_1 : w8.cell? ⟨w6.heap.size, 1, none⟩ = some (.int .i64 by_) := HK_x0_8.out.cell 1
  have cb_x0_2 : w8.cell? ⟨w6.heap.size, 2, none⟩ = some (.slice A_x n cap_x) := HK_x0_8.out.cell 2
  have cb_x0_3 : w8.cell? ⟨w6.heap.size, 3, none⟩ = some (.int .i64 se) := HK_x0_8.out.cell 3
  have cb_x0_4 : w8.cell? ⟨w6.heap.size, 4, none⟩ = some (.int .i64 dr) := HK_x0_8.out.cell 4
  have HO_s_8 := Lib.hid (HO_s_7.out.old hb8)
  clear HO_s_7
  have HO_t_8 := Lib.hid (HO_t_7.out.old hb8)
  clear HO_t_7
  have HO_v_8 := Lib.hid (HO_v_7.out.old hb8)
  clear HO_v_7
  have HO_vt_8 := Lib.hid (HO_vt_7.out.old hb8)
  clear HO_vt_7
  have HO_vd_8 := Lib.hid (HO_vd_7.out.old hb8)
  clear HO_vd_7
  have HO_x_8 := Lib.hid (HO_x_7.out.old hb8)
  clear HO_x_7
  have HO_u_8 := Lib.hid (HO_u_7.out.old hb8)
  clear HO_u_7
  have HB_8 := Lib.hid (bt HB_7.out hb8)
  clear hb8
  (try simp at t1_g); (try simp at t3_g); (try simp at t5_g)
  obtain ⟨hng, HT⟩ : n_gt = n_vt ∧ Hid (T.length = n_vt) := ⟨by have := HN_gt.out; have := HN_vt.out; omega, by have := HN_vt.out; unfold Hid; omega⟩
  subst hng
  obtain ⟨hnd, HD⟩ : n_gd = n_vd ∧ Hid (D.length = n_vd) := ⟨by have := HN_gd.out; have := HN_vd.out; omega, by have := HN_vd.out; unfold Hid; omega⟩
  subst hnd
  have ht5 : n_gt ≤ 300 := by have := HT.out; have := HLN.out; omega
  have hd5 : n_gd ≤ 60 := by have := HD.out; have := HLN.out; omega
  go_wp2_with fail
  refine (eqQueue_any _ _ _ _ _ _ _ _ _ (fl M) _ HMM.out (HO_g_8.out.alloc _).row (HO_v_8.out.alloc _).row (by omega)).mono ?_
  rintro e w9 ⟨rfl, hb9⟩
  have z9 := hb9.size
  (try simp at z9)
  have HK_q_9 : Hid (Bk w9 (w.heap.size) 24 #[.int .i64 li, .int .i64 by_, .slice A n cap, .int .i64 se, .int .i64 dr]) := Lib.hid ((HK_q_8.out.alloc _).old hb9)
  clear HK_q_8
  clear cb_q_0 cb_q_1 cb_q_2 cb_q_3 cb_q_4 zb_q
  have zb_q : w.heap.size < w9.heap.size := HK_q_9.out.lt
  have cb_q_0 : w9.cell? ⟨w.heap.size, 0, none⟩ = some (.int .i64 li) := HK_q_9.out.cell 0
  have cb_q_1 : w9.cell? ⟨w.heap.size, 1, none⟩ = some (.int .i64 by_) := HK_q_9.out.cell 1
  have cb_q_2 : w9.cell? ⟨w.heap.size, 2, none⟩ = some (.slice A n cap) := HK_q_9.out.cell 2
  have cb_q_3 : w9.cell? ⟨w.heap.size, 3, none⟩ = some (.int .i64 se) := HK_q_9.out.cell 3
  have cb_q_4 : w9.cell? ⟨w.heap.size, 4, none⟩ = some (.int .i64 dr) := HK_q_9.out.cell 4
  have HK_w0_9 : Hid (Bk w9 (w5.heap.size) 30 #[.int .i64 xl, .int .i64 xb, .slice A_v M.length cap_v, .int .i64 xs, .int .i64 xd]) := Lib.hid ((HK_w0_8.out.alloc _).old hb9)
  clear HK_w0_8
  clear cb_w0_0 cb_w0_1 cb_w0_2 cb_w0_3 cb_w0_4 zb_w0
  have zb_w0 : w5.heap.size < w9.heap.size := HK_w0_9.out.lt
  have cb_w0_0 : w9.cell? ⟨w5.heap.size, 0, none⟩ = some (.int .i64 xl) := HK_w0_9.out.cell 0
  have cb_w0_1 : w9.cell? ⟨w5.heap.size, 1, none⟩ = some (.int .i64 xb) := HK_w0_9.out.cell 1
  have cb_w0_2 : w9.cell? ⟨w5.heap.size, 2, none⟩ = some (.slice A_v M.length cap_v) := HK_w0_9.out.cell 2
  have cb_w0_3 : w9.cell? ⟨w5.heap.size, 3, none⟩ = some (.int .i64 xs) := HK_w0_9.out.cell 3
  have cb_w0_4 : w9.cell? ⟨w5.heap.size, 4, none⟩ = some (.int .i64 xd) := HK_w0_9.out.cell 4
  have HK_x0_9 : Hid (Bk w9 (w6.heap.size) 30 #[.int .i64 li, .int .i64 by_, .slice A_x n cap_x, .int .i64 se, .int .i64 dr]) := Lib.hid ((HK_x0_8.out.alloc _).old hb9)
  clear HK_x0_8
  clear cb_x0_0 cb_x0_1 cb_x0_2 cb_x0_3 cb_x0_4 zb_x0
  have zb_x0 : w6.heap.size < w9.heap.size := HK_x0_9.out.lt
  have cb_x0_0 : w9.cell? ⟨w6.heap.size, 0, none⟩ = some (.int .i64 li) := HK_x0_9.out.cell 0
  have cb_x0_1 : w9.cell? ⟨w6.heap.size, 1, none⟩ = some (.int .i64 by_) := HK_x0_9.out.cell 1
  have cb_x0_2 : w9.cell? ⟨w6.heap.size, 2, none⟩ = some (.slice A_x n cap_x) := HK_x0_9.out.cell 2
  have cb_x0_3 : w9.cell? ⟨w6.heap.size, 3, none⟩ = some (.int .i64 se) := HK_x0_9.out.cell 3
  have cb_x0_4 : w9.cell? ⟨w6.heap.size, 4, none⟩ = some (.int .i64 dr) := HK_x0_9.out.cell 4
  have HK_g0_9 : Hid (Bk w9 (w8.heap.size) 30 #[.int .i64 xl, .int .i64 xb, .slice A_g M.length cap_g, .int .i64 xs, .int .i64 xd]) := Lib.hid ((Bk.new_ (by simp) : Bk _ (w8.heap.size) 30 #[.int .i64 xl, .int .i64 xb, .slice A_g M.length cap_g, .int .i64 xs, .int .i64 xd]).old hb9)
  have zb_g0 : w8.heap.size < w9.heap.size := HK_g0_9.out.lt
  have cb_g0_0 : w9.cell? ⟨w8.heap.size, 0, none⟩ = some (.int .i64 xl) := HK_g0_9.out.cell 0
  have cb_g0_1 : w9.cell? ⟨w8.heap.size, 1, none⟩ = some (.int .i64 xb) := HK_g0_9.out.cell 1
  have cb_g0_2 : w9.cell? ⟨w8.heap.size, 2, none⟩ = some (.slice A_g M.length cap_g) := HK_g0_9.out.cell 2
  have cb_g0_3 : w9.cell? ⟨w8.heap.size, 3, none⟩ = some (.int .i64 xs) := HK_g0_9.out.cell 3
  have cb_g0_4 : w9.cell? ⟨w8.heap.size, 4, none⟩ = some (.int .i64 xd) := HK_g0_9.out.cell 4
  have HO_s_9 := Lib.hid ((HO_s_8.out.alloc _).old hb9)
  clear HO_s_8
  have HO_t_9 := Lib.hid ((HO_t_8.out.alloc _).old hb9)
  clear HO_t_8
  have HO_v_9 := Lib.hid ((HO_v_8.out.alloc _).old hb9)
  clear HO_v_8
  have HO_vt_9 := Lib.hid ((HO_vt_8.out.alloc _).old hb9)
  clear HO_vt_8
  have HO_vd_9 := Lib.hid ((HO_vd_8.out.alloc _).old hb9)
  clear HO_vd_8
  have HO_x_9 := Lib.hid ((HO_x_8.out.alloc _).old hb9)
  clear HO_x_8
  have HO_u_9 := Lib.hid ((HO_u_8.out.alloc _).old hb9)
  clear HO_u_8
  have HO_g_9 := Lib.hid ((HO_g_8.out.alloc _).old hb9)
  clear HO_g_8
  have HO_gt_9 := Lib.hid ((HO_gt_8.out.alloc _).old hb9)
  clear HO_gt_8
  have HO_gd_9 := Lib.hid ((HO_gd_8.out.alloc _).old hb9)
  clear HO_gd_8
  have HB_9 := Lib.hid (bt (ba HB_8.out _) hb9)
  clear hb9
  go_wp2_with fail
  refine (eqIntS_any _ _ _ _ _ T _ HT.out (by omega) HO_gt_9.out.row HO_vt_9.out.row).mono ?_
  rintro e w10 ⟨rfl, hb10⟩
  have z10 := hb10.size
  (try simp at z10)
  have HK_q_10 : Hid (Bk w10 (w.heap.size) 24 #[.int .i64 li, .int .i64 by_, .slice A n cap, .int .i64 se, .int .i64 dr]) := Lib.hid (HK_q_9.out.old hb10)
  clear HK_q_9
  clear cb_q_0 cb_q_1 cb_q_2 cb_q_3 cb_q_4 zb_q
  have zb_q : w.heap.size < w10.heap.size := HK_q_10.out.lt
  have cb_q_0 : w10.cell? ⟨w.heap.size, 0, none⟩ = some (.int .i64 li) := HK_q_10.out.cell 0
  have cb_q_1 : w10.cell? ⟨w.heap.size, 1, none⟩ = some (.int .i64 by_) := HK_q_10.out.cell 1
  have cb_q_2 : w10.cell? ⟨w.heap.size, 2, none⟩ = some (.slice A n cap) := HK_q_10.out.cell 2
  have cb_q_3 : w10.cell? ⟨w.heap.size, 3, none⟩ = some (.int .i64 se) := HK_q_10.out.cell 3
  have cb_q_4 : w10.cell? ⟨w.heap.size, 4, none⟩ = some (.int .i64 dr) := HK_q_10.out.cell 4
  have HK_w0_10 : Hid (Bk w10 (w5.heap.size) 30 #[.int .i64 xl, .int .i64 xb, .slice A_v M.length cap_v, .int .i64 xs, .int .i64 xd]) := Lib.hid (HK_w0_9.out.old hb10)
  clear HK_w0_9
  clear cb_w0_0 cb_w0_1 cb_w0_2 cb_w0_3 cb_w0_4 zb_w0
  have zb_w0 : w5.heap.size < w10.heap.size := HK_w0_10.out.lt
  have cb_w0_0 : w10.cell? ⟨w5.heap.size, 0, none⟩ = some (.int .i64 xl) := HK_w0_10.out.cell 0
  have cb_w0_1 : w10.cell? ⟨w5.heap.size, 1, none⟩ = some (.int .i64 xb) := HK_w0_10.out.cell 1
  have cb_w0_2 : w10.cell? ⟨w5.heap.size, 2, none⟩ = some (.slice A_v M.length cap_v) := HK_w0_10.out.cell 2
  have cb_w0_3 : w10.cell? ⟨w5.heap.size, 3, none⟩ = some (.int .i64 xs) := HK_w0_10.out.cell 3
  have cb_w0_4 : w10.cell? ⟨w5.heap.size, 4, none⟩ = some (.int .i64 xd) := HK_w0_10.out.cell 4
  have HK_x0_10 : Hid (Bk w10 (w6.heap.size) 30 #[.int .i64 li, .int .i64 by_, .slice A_x n cap_x, .int .i64 se, .int .i64 dr]) := Lib.hid (HK_x0_9.out.old hb10)
  clear HK_x0_9
  clear cb_x0_0 cb_x0_1 cb_x0_2 cb_x0_3 cb_x0_4 zb_x0
  have zb_x0 : w6.heap.size < w10.heap.size := HK_x0_10.out.lt
  have cb_x0_0 : w10.cell? ⟨w6.heap.size, 0, none⟩ = some (.int .i64 li) := HK_x0_10.out.cell 0
  have cb_x0_1 : w10.cell? ⟨w6.heap.size, 1, none⟩ = some (.int .i64 by_) := HK_x0_10.out.cell 1
  have cb_x0_2 : w10.cell? ⟨w6.heap.size, 2, none⟩ = some (.slice A_x n cap_x) := HK_x0_10.out.cell 2
  have cb_x0_3 : w10.cell? ⟨w6.heap.size, 3, none⟩ = some (.int .i64 se) := HK_x0_10.out.cell 3
  have cb_x0_4 : w10.cell? ⟨w6.heap.size, 4, none⟩ = some (.int .i64 dr) := HK_x0_10.out.cell 4
  have HK_g0_10 : Hid (Bk w10 (w8.heap.size) 30 #[.int .i64 xl, .int .i64 xb, .slice A_g M.length cap_g, .int .i64 xs, .int .i64 xd]) := Lib.hid (HK_g0_9.out.old hb10)
  clear HK_g0_9
  clear cb_g0_0 cb_g0_1 cb_g0_2 cb_g0_3 cb_g0_4 zb_g0
  have zb_g0 : w8.heap.size < w10.heap.size := HK_g0_10.out.lt
  have cb_g0_0 : w10.cell? ⟨w8.heap.size, 0, none⟩ = some (.int .i64 xl) := HK_g0_10.out.cell 0
  have cb_g0_1 : w10.cell? ⟨w8.heap.size, 1, none⟩ = some (.int .i64 xb) := HK_g0_10.out.cell 1
  have cb_g0_2 : w10.cell? ⟨w8.heap.size, 2, none⟩ = some (.slice A_g M.length cap_g) := HK_g0_10.out.cell 2
  have cb_g0_3 : w10.cell? ⟨w8.heap.size, 3, none⟩ = some (.int .i64 xs) := HK_g0_10.out.cell 3
  have cb_g0_4 : w10.cell? ⟨w8.heap.size, 4, none⟩ = some (.int .i64 xd) := HK_g0_10.out.cell 4
  have HO_s_10 := Lib.hid (HO_s_9.out.old hb10)
  clear HO_s_9
  have HO_t_10 := Lib.hid (HO_t_9.out.old hb10)
  clear HO_t_9
  have HO_v_10 := Lib.hid (HO_v_9.out.old hb10)
  clear HO_v_9
  have HO_vt_10 := Lib.hid (HO_vt_9.out.old hb10)
  clear HO_vt_9
  have HO_vd_10 := Lib.hid (HO_vd_9.out.old hb10)
  clear HO_vd_9
  have HO_x_10 := Lib.hid (HO_x_9.out.old hb10)
  clear HO_x_9
  have HO_u_10 := Lib.hid (HO_u_9.out.old hb10)
  clear HO_u_9
  have HO_g_10 := Lib.hid (HO_g_9.out.old hb10)
  clear HO_g_9
  have HO_gt_10 := Lib.hid (HO_gt_9.out.old hb10)
  clear HO_gt_9
  have HO_gd_10 := Lib.hid (HO_gd_9.out.old hb10)
  clear HO_gd_9
  have HB_10 := Lib.hid (bt HB_9.out hb10)
  clear hb10
  go_wp2_with fail
  refine (eqIntS_any _ _ _ _ _ D _ HD.out (by omega) HO_gd_10.out.row HO_vd_10.out.row).mono ?_
  rintro e w11 ⟨rfl, hb11⟩
  have z11 := hb11.size
  (try simp at z11)
  have HK_q_11 : Hid (Bk w11 (w.heap.size) 24 #[.int .i64 li, .int .i64 by_, .slice A n cap, .int .i64 se, .int .i64 dr]) := Lib.hid (HK_q_10.out.old hb11)
  clear HK_q_10
  clear cb_q_0 cb_q_1 cb_q_2 cb_q_3 cb_q_4 zb_q
  have zb_q : w.heap.size < w11.heap.size := HK_q_11.out.lt
  have cb_q_0 : w11.cell? ⟨w.heap.size, 0, none⟩ = some (.int .i64 li) := HK_q_11.out.cell 0
  have cb_q_1 : w11.cell? ⟨w.heap.size, 1, none⟩ = some (.int .i64 by_) := HK_q_11.out.cell 1
  have cb_q_2 : w11.cell? ⟨w.heap.size, 2, none⟩ = some (.slice A n cap) := HK_q_11.out.cell 2
  have cb_q_3 : w11.cell? ⟨w.heap.size, 3, none⟩ = some (.int .i64 se) := HK_q_11.out.cell 3
  have cb_q_4 : w11.cell? ⟨w.heap.size, 4, none⟩ = some (.int .i64 dr) := HK_q_11.out.cell 4
  have HK_w0_11 : Hid (Bk w11 (w5.heap.size) 30 #[.int .i64 xl, .int .i64 xb, .slice A_v M.length cap_v, .int .i64 xs, .int .i64 xd]) := Lib.hid (HK_w0_10.out.old hb11)
  clear HK_w0_10
  clear cb_w0_0 cb_w0_1 cb_w0_2 cb_w0_3 cb_w0_4 zb_w0
  have zb_w0 : w5.heap.size < w11.heap.size := HK_w0_11.out.lt
  have cb_w0_0 : w11.cell? ⟨w5.heap.size, 0, none⟩ = some (.int .i64 xl) := HK_w0_11.out.cell 0
  have cb_w0_1 : w11.cell? ⟨w5.heap.size, 1, none⟩ = some (.int .i64 xb) := HK_w0_11.out.cell 1
  have cb_w0_2 : w11.cell? ⟨w5.heap.size, 2, none⟩ = some (.slice A_v M.length cap_v) := HK_w0_11.out.cell 2
  have cb_w0_3 : w11.cell? ⟨w5.heap.size, 3, none⟩ = some (.int .i64 xs) := HK_w0_11.out.cell 3
  have cb_w0_4 : w11.cell? ⟨w5.heap.size, 4, none⟩ = some (.int .i64 xd) := HK_w0_11.out.cell 4
  have HK_x0_11 : Hid (Bk w11 (w6.heap.size) 30 #[.int .i64 li, .int .i64 by_, .slice A_x n cap_x, .int .i64 se, .int .i64 dr]) := Lib.hid (HK_x0_10.out.old hb11)
  clear HK_x0_10
  clear cb_x0_0 cb_x0_1 cb_x0_2 cb_x0_3 cb_x0_4 zb_x0
  have zb_x0 : w6.heap.size < w11.heap.size := HK_x0_11.out.lt
  have cb_x0_0 : w11.cell? ⟨w6.heap.size, 0, none⟩ = some (.int .i64 li) := HK_x0_11.out.cell 0
  have cb_x0_1 : w11.cell? ⟨w6.heap.size, 1, none⟩ = some (.int .i64 by_) := HK_x0_11.out.cell 1
  have cb_x0_2 : w11.cell? ⟨w6.heap.size, 2, none⟩ = some (.slice A_x n cap_x) := HK_x0_11.out.cell 2
  have cb_x0_3 : w11.cell? ⟨w6.heap.size, 3, none⟩ = some (.int .i64 se) := HK_x0_11.out.cell 3
  have cb_x0_4 : w11.cell? ⟨w6.heap.size, 4, none⟩ = some (.int .i64 dr) := HK_x0_11.out.cell 4
  have HK_g0_11 : Hid (Bk w11 (w8.heap.size) 30 #[.int .i64 xl, .int .i64 xb, .slice A_g M.length cap_g, .int .i64 xs, .int .i64 xd]) := Lib.hid (HK_g0_10.out.old hb11)
  clear HK_g0_10
  clear cb_g0_0 cb_g0_1 cb_g0_2 cb_g0_3 cb_g0_4 zb_g0
  have zb_g0 : w8.heap.size < w11.heap.size := HK_g0_11.out.lt
  have cb_g0_0 : w11.cell? ⟨w8.heap.size, 0, none⟩ = some (.int .i64 xl) := HK_g0_11.out.cell 0
  have cb_g0_1 : w11.cell? ⟨w8.heap.size, 1, none⟩ = some (.int .i64 xb) := HK_g0_11.out.cell 1
  have cb_g0_2 : w11.cell? ⟨w8.heap.size, 2, none⟩ = some (.slice A_g M.length cap_g) := HK_g0_11.out.cell 2
  have cb_g0_3 : w11.cell? ⟨w8.heap.size, 3, none⟩ = some (.int .i64 xs) := HK_g0_11.out.cell 3
  have cb_g0_4 : w11.cell? ⟨w8.heap.size, 4, none⟩ = some (.int .i64 xd) := HK_g0_11.out.cell 4
  have HO_s_11 := Lib.hid (HO_s_10.out.old hb11)
  clear HO_s_10
  have HO_t_11 := Lib.hid (HO_t_10.out.old hb11)
  clear HO_t_10
  have HO_v_11 := Lib.hid (HO_v_10.out.old hb11)
  clear HO_v_10
  have HO_vt_11 := Lib.hid (HO_vt_10.out.old hb11)
  clear HO_vt_10
  have HO_vd_11 := Lib.hid (HO_vd_10.out.old hb11)
  clear HO_vd_10
  have HO_x_11 := Lib.hid (HO_x_10.out.old hb11)
  clear HO_x_10
  have HO_u_11 := Lib.hid (HO_u_10.out.old hb11)
  clear HO_u_10
  have HO_g_11 := Lib.hid (HO_g_10.out.old hb11)
  clear HO_g_10
  have HO_gt_11 := Lib.hid (HO_gt_10.out.old hb11)
  clear HO_gt_10
  have HO_gd_11 := Lib.hid (HO_gd_10.out.old hb11)
  clear HO_gd_10
  have HB_11 := Lib.hid (bt HB_10.out hb11)
  clear hb11
  go_wp2_with fail
  go_region_held3 (fun w' => w'.cell? ⟨w.heap.size, 0, none⟩ = some (.int .i64 li) ∧ w'.cell? ⟨w.heap.size, 1, none⟩ = some (.int .i64 by_) ∧ w'.cell? ⟨w.heap.size, 2, none⟩ = some (.slice A n cap) ∧ w'.cell? ⟨w.heap.size, 3, none⟩ = some (.int .i64 se) ∧ w'.cell? ⟨w.heap.size, 4, none⟩ = some (.int .i64 dr) ∧ w'.cell? ⟨w5.heap.size, 0, none⟩ = some (.int .i64 xl) ∧ w'.cell? ⟨w5.heap.size, 1, none⟩ = some (.int .i64 xb) ∧ w'.cell? ⟨w5.heap.size, 2, none⟩ = some (.slice A_v M.length cap_v) ∧ w'.cell? ⟨w5.heap.size, 3, none⟩ = some (.int .i64 xs) ∧ w'.cell? ⟨w5.heap.size, 4, none⟩ = some (.int .i64 xd) ∧ w'.cell? ⟨w6.heap.size, 0, none⟩ = some (.int .i64 li) ∧ w'.cell? ⟨w6.heap.size, 1, none⟩ = some (.int .i64 by_) ∧ w'.cell? ⟨w6.heap.size, 2, none⟩ = some (.slice A_x n cap_x) ∧ w'.cell? ⟨w6.heap.size, 3, none⟩ = some (.int .i64 se) ∧ w'.cell? ⟨w6.heap.size, 4, none⟩ = some (.int .i64 dr) ∧ w'.cell? ⟨w8.heap.size, 0, none⟩ = some (.int .i64 xl) ∧ w'.cell? ⟨w8.heap.size, 1, none⟩ = some (.int .i64 xb) ∧ w'.cell? ⟨w8.heap.size, 2, none⟩ = some (.slice A_g M.length cap_g) ∧ w'.cell? ⟨w8.heap.size, 3, none⟩ = some (.int .i64 xs) ∧ w'.cell? ⟨w8.heap.size, 4, none⟩ = some (.int .i64 xd)) (go_keep)
    (first
      | (go_at_call 14; refine (toQueue_any _ _ _ _ _ _ _ L _ HLL.out (HR_a.out.below HB_11.out.drew) (by omega)).mono ?_; rintro e w12 ⟨A_y, cap_y, rfl, ho_y, hb12⟩; have zz12 := hb12.size; (try simp at zz12); have rkhb12_q := fun o => bkeep hb12 (w.heap.size) o (by first | omega | (simp; done) | (simp; omega)); have rkhb12_w0 := fun o => bkeep hb12 (w5.heap.size) o (by first | omega | (simp; done) | (simp; omega)); have rkhb12_x0 := fun o => bkeep hb12 (w6.heap.size) o (by first | omega | (simp; done) | (simp; omega)); have rkhb12_g0 := fun o => bkeep hb12 (w8.heap.size) o (by first | omega | (simp; done) | (simp; omega)))
      | (go_at_call 17; refine (eqQueue_any _ _ _ _ _ _ _ _ _ (fl L) _ HL.out ((HO_x_11.out.drew).old hb12).row ho_y.row (by omega)).mono ?_; rintro e w13 ⟨rfl, hb13⟩; have zz13 := hb13.size; have rkhb13_q := fun o => bkeep hb13 (w.heap.size) o (by first | omega | (simp; done) | (simp; omega)); have rkhb13_w0 := fun o => bkeep hb13 (w5.heap.size) o (by first | omega | (simp; done) | (simp; omega)); have rkhb13_x0 := fun o => bkeep hb13 (w6.heap.size) o (by first | omega | (simp; done) | (simp; omega)); have rkhb13_g0 := fun o => bkeep hb13 (w8.heap.size) o (by first | omega | (simp; done) | (simp; omega))))
  clear rkhb12_q rkhb12_w0 rkhb12_x0 rkhb12_g0 rkhb13_q rkhb13_w0 rkhb13_x0 rkhb13_g0 zz12 zz13
  have HN_y := Lib.hid ho_y.len
  have HO_y_12 := Lib.hid ho_y
  clear ho_y
  have z12 := hb12.size
  (try simp at z12)
  have HK_q_12 : Hid (Bk w12 (w.heap.size) 24 #[.int .i64 li, .int .i64 by_, .slice A n cap, .int .i64 se, .int .i64 dr]) := Lib.hid ((HK_q_11.out.drew).old hb12)
  clear HK_q_11
  clear cb_q_0 cb_q_1 cb_q_2 cb_q_3 cb_q_4 zb_q
  have zb_q : w.heap.size < w12.heap.size := HK_q_12.out.lt
  have cb_q_0 : w12.cell? ⟨w.heap.size, 0, none⟩ = some (.int .i64 li) := HK_q_12.out.cell 0
  have cb_q_1 : w12.cell? ⟨w.heap.size, 1, none⟩ = some (.int .i64 by_) := HK_q_12.out.cell 1
  have cb_q_2 : w12.cell? ⟨w.heap.size, 2, none⟩ = some (.slice A n cap) := HK_q_12.out.cell 2
  have cb_q_3 : w12.cell? ⟨w.heap.size, 3, none⟩ = some (.int .i64 se) := HK_q_12.out.cell 3
  have cb_q_4 : w12.cell? ⟨w.heap.size, 4, none⟩ = some (.int .i64 dr) := HK_q_12.out.cell 4
  have HK_w0_12 : Hid (Bk w12 (w5.heap.size) 30 #[.int .i64 xl, .int .i64 xb, .slice A_v M.length cap_v, .int .i64 xs, .int .i64 xd]) := Lib.hid ((HK_w0_11.out.drew).old hb12)
  clear HK_w0_11
  clear cb_w0_0 cb_w0_1 cb_w0_2 cb_w0_3 cb_w0_4 zb_w0
  have zb_w0 : w5.heap.size < w12.heap.size := HK_w0_12.out.lt
  have cb_w0_0 : w12.cell? ⟨w5.heap.size, 0, none⟩ = some (.int .i64 xl) := HK_w0_12.out.cell 0
  have cb_w0_1 : w12.cell? ⟨w5.heap.size, 1, none⟩ = some (.int .i64 xb) := HK_w0_12.out.cell 1
  have cb_w0_2 : w12.cell? ⟨w5.heap.size, 2, none⟩ = some (.slice A_v M.length cap_v) := HK_w0_12.out.cell 2
  have cb_w0_3 : w12.cell? ⟨w5.heap.size, 3, none⟩ = some (.int .i64 xs) := HK_w0_12.out.cell 3
  have cb_w0_4 : w12.cell? ⟨w5.heap.size, 4, none⟩ = some (.int .i64 xd) := HK_w0_12.out.cell 4
  have HK_x0_12 : Hid (Bk w12 (w6.heap.size) 30 #[.int .i64 li, .int .i64 by_, .slice A_x n cap_x, .int .i64 se, .int .i64 dr]) := Lib.hid ((HK_x0_11.out.drew).old hb12)
  clear HK_x0_11
  clear cb_x0_0 cb_x0_1 cb_x0_2 cb_x0_3 cb_x0_4 zb_x0
  have zb_x0 : w6.heap.size < w12.heap.size := HK_x0_12.out.lt
  have cb_x0_0 : w12.cell? ⟨w6.heap.size, 0, none⟩ = some (.int .i64 li) := HK_x0_12.out.cell 0
  have cb_x0_1 : w12.cell? ⟨w6.heap.size, 1, none⟩ = some (.int .i64 by_) := HK_x0_12.out.cell 1
  have cb_x0_2 : w12.cell? ⟨w6.heap.size, 2, none⟩ = some (.slice A_x n cap_x) := HK_x0_12.out.cell 2
  have cb_x0_3 : w12.cell? ⟨w6.heap.size, 3, none⟩ = some (.int .i64 se) := HK_x0_12.out.cell 3
  have cb_x0_4 : w12.cell? ⟨w6.heap.size, 4, none⟩ = some (.int .i64 dr) := HK_x0_12.out.cell 4
  have HK_g0_12 : Hid (Bk w12 (w8.heap.size) 30 #[.int .i64 xl, .int .i64 xb, .slice A_g M.length cap_g, .int .i64 xs, .int .i64 xd]) := Lib.hid ((HK_g0_11.out.drew).old hb12)
  clear HK_g0_11
  clear cb_g0_0 cb_g0_1 cb_g0_2 cb_g0_3 cb_g0_4 zb_g0
  have zb_g0 : w8.heap.size < w12.heap.size := HK_g0_12.out.lt
  have cb_g0_0 : w12.cell? ⟨w8.heap.size, 0, none⟩ = some (.int .i64 xl) := HK_g0_12.out.cell 0
  have cb_g0_1 : w12.cell? ⟨w8.heap.size, 1, none⟩ = some (.int .i64 xb) := HK_g0_12.out.cell 1
  have cb_g0_2 : w12.cell? ⟨w8.heap.size, 2, none⟩ = some (.slice A_g M.length cap_g) := HK_g0_12.out.cell 2
  have cb_g0_3 : w12.cell? ⟨w8.heap.size, 3, none⟩ = some (.int .i64 xs) := HK_g0_12.out.cell 3
  have cb_g0_4 : w12.cell? ⟨w8.heap.size, 4, none⟩ = some (.int .i64 xd) := HK_g0_12.out.cell 4
  have HO_s_12 := Lib.hid ((HO_s_11.out.drew).old hb12)
  clear HO_s_11
  have HO_t_12 := Lib.hid ((HO_t_11.out.drew).old hb12)
  clear HO_t_11
  have HO_v_12 := Lib.hid ((HO_v_11.out.drew).old hb12)
  clear HO_v_11
  have HO_vt_12 := Lib.hid ((HO_vt_11.out.drew).old hb12)
  clear HO_vt_11
  have HO_vd_12 := Lib.hid ((HO_vd_11.out.drew).old hb12)
  clear HO_vd_11
  have HO_x_12 := Lib.hid ((HO_x_11.out.drew).old hb12)
  clear HO_x_11
  have HO_u_12 := Lib.hid ((HO_u_11.out.drew).old hb12)
  clear HO_u_11
  have HO_g_12 := Lib.hid ((HO_g_11.out.drew).old hb12)
  clear HO_g_11
  have HO_gt_12 := Lib.hid ((HO_gt_11.out.drew).old hb12)
  clear HO_gt_11
  have HO_gd_12 := Lib.hid ((HO_gd_11.out.drew).old hb12)
  clear HO_gd_11
  have HB_12 := Lib.hid (bt HB_11.out.drew hb12)
  clear hb12
  have z13 := hb13.size
  (try simp at z13)
  have HK_q_13 : Hid (Bk w13 (w.heap.size) 24 #[.int .i64 li, .int .i64 by_, .slice A n cap, .int .i64 se, .int .i64 dr]) := Lib.hid (HK_q_12.out.old hb13)
  clear HK_q_12
  clear cb_q_0 cb_q_1 cb_q_2 cb_q_3 cb_q_4 zb_q
  have zb_q : w.heap.size < w13.heap.size := HK_q_13.out.lt
  have cb_q_0 : w13.cell? ⟨w.heap.size, 0, none⟩ = some (.int .i64 li) := HK_q_13.out.cell 0
  have cb_q_1 : w13.cell? ⟨w.heap.size, 1, none⟩ = some (.int .i64 by_) := HK_q_13.out.cell 1
  have cb_q_2 : w13.cell? ⟨w.heap.size, 2, none⟩ = some (.slice A n cap) := HK_q_13.out.cell 2
  have cb_q_3 : w13.cell? ⟨w.heap.size, 3, none⟩ = some (.int .i64 se) := HK_q_13.out.cell 3
  have cb_q_4 : w13.cell? ⟨w.heap.size, 4, none⟩ = some (.int .i64 dr) := HK_q_13.out.cell 4
  have HK_w0_13 : Hid (Bk w13 (w5.heap.size) 30 #[.int .i64 xl, .int .i64 xb, .slice A_v M.length cap_v, .int .i64 xs, .int .i64 xd]) := Lib.hid (HK_w0_12.out.old hb13)
  clear HK_w0_12
  clear cb_w0_0 cb_w0_1 cb_w0_2 cb_w0_3 cb_w0_4 zb_w0
  have zb_w0 : w5.heap.size < w13.heap.size := HK_w0_13.out.lt
  have cb_w0_0 : w13.cell? ⟨w5.heap.size, 0, none⟩ = some (.int .i64 xl) := HK_w0_13.out.cell 0
  have cb_w0_1 : w13.cell? ⟨w5.heap.size, 1, none⟩ = some (.int .i64 xb) := HK_w0_13.out.cell 1
  have cb_w0_2 : w13.cell? ⟨w5.heap.size, 2, none⟩ = some (.slice A_v M.length cap_v) := HK_w0_13.out.cell 2
  have cb_w0_3 : w13.cell? ⟨w5.heap.size, 3, none⟩ = some (.int .i64 xs) := HK_w0_13.out.cell 3
  have cb_w0_4 : w13.cell? ⟨w5.heap.size, 4, none⟩ = some (.int .i64 xd) := HK_w0_13.out.cell 4
  have HK_x0_13 : Hid (Bk w13 (w6.heap.size) 30 #[.int .i64 li, .int .i64 by_, .slice A_x n cap_x, .int .i64 se, .int .i64 dr]) := Lib.hid (HK_x0_12.out.old hb13)
  clear HK_x0_12
  clear cb_x0_0 cb_x0_1 cb_x0_2 cb_x0_3 cb_x0_4 zb_x0
  have zb_x0 : w6.heap.size < w13.heap.size := HK_x0_13.out.lt
  have cb_x0_0 : w13.cell? ⟨w6.heap.size, 0, none⟩ = some (.int .i64 li) := HK_x0_13.out.cell 0
  have cb_x0_1 : w13.cell? ⟨w6.heap.size, 1, none⟩ = some (.int .i64 by_) := HK_x0_13.out.cell 1
  have cb_x0_2 : w13.cell? ⟨w6.heap.size, 2, none⟩ = some (.slice A_x n cap_x) := HK_x0_13.out.cell 2
  have cb_x0_3 : w13.cell? ⟨w6.heap.size, 3, none⟩ = some (.int .i64 se) := HK_x0_13.out.cell 3
  have cb_x0_4 : w13.cell? ⟨w6.heap.size, 4, none⟩ = some (.int .i64 dr) := HK_x0_13.out.cell 4
  have HK_g0_13 : Hid (Bk w13 (w8.heap.size) 30 #[.int .i64 xl, .int .i64 xb, .slice A_g M.length cap_g, .int .i64 xs, .int .i64 xd]) := Lib.hid (HK_g0_12.out.old hb13)
  clear HK_g0_12
  clear cb_g0_0 cb_g0_1 cb_g0_2 cb_g0_3 cb_g0_4 zb_g0
  have zb_g0 : w8.heap.size < w13.heap.size := HK_g0_13.out.lt
  have cb_g0_0 : w13.cell? ⟨w8.heap.size, 0, none⟩ = some (.int .i64 xl) := HK_g0_13.out.cell 0
  have cb_g0_1 : w13.cell? ⟨w8.heap.size, 1, none⟩ = some (.int .i64 xb) := HK_g0_13.out.cell 1
  have cb_g0_2 : w13.cell? ⟨w8.heap.size, 2, none⟩ = some (.slice A_g M.length cap_g) := HK_g0_13.out.cell 2
  have cb_g0_3 : w13.cell? ⟨w8.heap.size, 3, none⟩ = some (.int .i64 xs) := HK_g0_13.out.cell 3
  have cb_g0_4 : w13.cell? ⟨w8.heap.size, 4, none⟩ = some (.int .i64 xd) := HK_g0_13.out.cell 4
  have HO_s_13 := Lib.hid (HO_s_12.out.old hb13)
  clear HO_s_12
  have HO_t_13 := Lib.hid (HO_t_12.out.old hb13)
  clear HO_t_12
  have HO_v_13 := Lib.hid (HO_v_12.out.old hb13)
  clear HO_v_12
  have HO_vt_13 := Lib.hid (HO_vt_12.out.old hb13)
  clear HO_vt_12
  have HO_vd_13 := Lib.hid (HO_vd_12.out.old hb13)
  clear HO_vd_12
  have HO_x_13 := Lib.hid (HO_x_12.out.old hb13)
  clear HO_x_12
  have HO_u_13 := Lib.hid (HO_u_12.out.old hb13)
  clear HO_u_12
  have HO_g_13 := Lib.hid (HO_g_12.out.old hb13)
  clear HO_g_12
  have HO_gt_13 := Lib.hid (HO_gt_12.out.old hb13)
  clear HO_gt_12
  have HO_gd_13 := Lib.hid (HO_gd_12.out.old hb13)
  clear HO_gd_12
  have HO_y_13 := Lib.hid (HO_y_12.out.old hb13)
  clear HO_y_12
  have HB_13 := Lib.hid (bt HB_12.out hb13)
  clear hb13
  go_wp2_with fail
  refine (toPacketS_any B m capp (fl P) _ HP.out (HR_p.out.below HB_13.out) (by omega)).mono ?_
  rintro e w14 ⟨A_z, n_z, cap_z, rfl, ho_z, hb14⟩
  have HN_z := Lib.hid ho_z.len
  have HO_z_14 := Lib.hid ho_z
  clear ho_z
  have z14 := hb14.size
  (try simp at z14)
  have HK_q_14 : Hid (Bk w14 (w.heap.size) 24 #[.int .i64 li, .int .i64 by_, .slice A n cap, .int .i64 se, .int .i64 dr]) := Lib.hid (HK_q_13.out.old hb14)
  clear HK_q_13
  clear cb_q_0 cb_q_1 cb_q_2 cb_q_3 cb_q_4 zb_q
  have zb_q : w.heap.size < w14.heap.size := HK_q_14.out.lt
  have cb_q_0 : w14.cell? ⟨w.heap.size, 0, none⟩ = some (.int .i64 li) := HK_q_14.out.cell 0
  have cb_q_1 : w14.cell? ⟨w.heap.size, 1, none⟩ = some (.int .i64 by_) := HK_q_14.out.cell 1
  have cb_q_2 : w14.cell? ⟨w.heap.size, 2, none⟩ = some (.slice A n cap) := HK_q_14.out.cell 2
  have cb_q_3 : w14.cell? ⟨w.heap.size, 3, none⟩ = some (.int .i64 se) := HK_q_14.out.cell 3
  have cb_q_4 : w14.cell? ⟨w.heap.size, 4, none⟩ = some (.int .i64 dr) := HK_q_14.out.cell 4
  have HK_w0_14 : Hid (Bk w14 (w5.heap.size) 30 #[.int .i64 xl, .int .i64 xb, .slice A_v M.length cap_v, .int .i64 xs, .int .i64 xd]) := Lib.hid (HK_w0_13.out.old hb14)
  clear HK_w0_13
  clear cb_w0_0 cb_w0_1 cb_w0_2 cb_w0_3 cb_w0_4 zb_w0
  have zb_w0 : w5.heap.size < w14.heap.size := HK_w0_14.out.lt
  have cb_w0_0 : w14.cell? ⟨w5.heap.size, 0, none⟩ = some (.int .i64 xl) := HK_w0_14.out.cell 0
  have cb_w0_1 : w14.cell? ⟨w5.heap.size, 1, none⟩ = some (.int .i64 xb) := HK_w0_14.out.cell 1
  have cb_w0_2 : w14.cell? ⟨w5.heap.size, 2, none⟩ = some (.slice A_v M.length cap_v) := HK_w0_14.out.cell 2
  have cb_w0_3 : w14.cell? ⟨w5.heap.size, 3, none⟩ = some (.int .i64 xs) := HK_w0_14.out.cell 3
  have cb_w0_4 : w14.cell? ⟨w5.heap.size, 4, none⟩ = some (.int .i64 xd) := HK_w0_14.out.cell 4
  have HK_x0_14 : Hid (Bk w14 (w6.heap.size) 30 #[.int .i64 li, .int .i64 by_, .slice A_x n cap_x, .int .i64 se, .int .i64 dr]) := Lib.hid (HK_x0_13.out.old hb14)
  clear HK_x0_13
  clear cb_x0_0 cb_x0_1 cb_x0_2 cb_x0_3 cb_x0_4 zb_x0
  have zb_x0 : w6.heap.size < w14.heap.size := HK_x0_14.out.lt
  have cb_x0_0 : w14.cell? ⟨w6.heap.size, 0, none⟩ = some (.int .i64 li) := HK_x0_14.out.cell 0
  have cb_x0_1 : w14.cell? ⟨w6.heap.size, 1, none⟩ = some (.int .i64 by_) := HK_x0_14.out.cell 1
  have cb_x0_2 : w14.cell? ⟨w6.heap.size, 2, none⟩ = some (.slice A_x n cap_x) := HK_x0_14.out.cell 2
  have cb_x0_3 : w14.cell? ⟨w6.heap.size, 3, none⟩ = some (.int .i64 se) := HK_x0_14.out.cell 3
  have cb_x0_4 : w14.cell? ⟨w6.heap.size, 4, none⟩ = some (.int .i64 dr) := HK_x0_14.out.cell 4
  have HK_g0_14 : Hid (Bk w14 (w8.heap.size) 30 #[.int .i64 xl, .int .i64 xb, .slice A_g M.length cap_g, .int .i64 xs, .int .i64 xd]) := Lib.hid (HK_g0_13.out.old hb14)
  clear HK_g0_13
  clear cb_g0_0 cb_g0_1 cb_g0_2 cb_g0_3 cb_g0_4 zb_g0
  have zb_g0 : w8.heap.size < w14.heap.size := HK_g0_14.out.lt
  have cb_g0_0 : w14.cell? ⟨w8.heap.size, 0, none⟩ = some (.int .i64 xl) := HK_g0_14.out.cell 0
  have cb_g0_1 : w14.cell? ⟨w8.heap.size, 1, none⟩ = some (.int .i64 xb) := HK_g0_14.out.cell 1
  have cb_g0_2 : w14.cell? ⟨w8.heap.size, 2, none⟩ = some (.slice A_g M.length cap_g) := HK_g0_14.out.cell 2
  have cb_g0_3 : w14.cell? ⟨w8.heap.size, 3, none⟩ = some (.int .i64 xs) := HK_g0_14.out.cell 3
  have cb_g0_4 : w14.cell? ⟨w8.heap.size, 4, none⟩ = some (.int .i64 xd) := HK_g0_14.out.cell 4
  have HO_s_14 := Lib.hid (HO_s_13.out.old hb14)
  clear HO_s_13
  have HO_t_14 := Lib.hid (HO_t_13.out.old hb14)
  clear HO_t_13
  have HO_v_14 := Lib.hid (HO_v_13.out.old hb14)
  clear HO_v_13
  have HO_vt_14 := Lib.hid (HO_vt_13.out.old hb14)
  clear HO_vt_13
  have HO_vd_14 := Lib.hid (HO_vd_13.out.old hb14)
  clear HO_vd_13
  have HO_x_14 := Lib.hid (HO_x_13.out.old hb14)
  clear HO_x_13
  have HO_u_14 := Lib.hid (HO_u_13.out.old hb14)
  clear HO_u_13
  have HO_g_14 := Lib.hid (HO_g_13.out.old hb14)
  clear HO_g_13
  have HO_gt_14 := Lib.hid (HO_gt_13.out.old hb14)
  clear HO_gt_13
  have HO_gd_14 := Lib.hid (HO_gd_13.out.old hb14)
  clear HO_gd_13
  have HO_y_14 := Lib.hid (HO_y_13.out.old hb14)
  clear HO_y_13
  have HB_14 := Lib.hid (bt HB_13.out hb14)
  clear hb14
  obtain rfl : m = n_z := by have := HN_z.out; have := HP.out; omega
  go_wp2_with fail
  refine (eqPacketS_any _ _ _ _ _ (fl P) _ HP.out (by omega) HO_u_14.out.row HO_z_14.out.row).mono ?_
  rintro e w15 ⟨rfl, hb15⟩
  have z15 := hb15.size
  (try simp at z15)
  have HK_q_15 : Hid (Bk w15 (w.heap.size) 24 #[.int .i64 li, .int .i64 by_, .slice A n cap, .int .i64 se, .int .i64 dr]) := Lib.hid (HK_q_14.out.old hb15)
  clear HK_q_14
  clear cb_q_0 cb_q_1 cb_q_2 cb_q_3 cb_q_4 zb_q
  have zb_q : w.heap.size < w15.heap.size := HK_q_15.out.lt
  have cb_q_0 : w15.cell? ⟨w.heap.size, 0, none⟩ = some (.int .i64 li) := HK_q_15.out.cell 0
  have cb_q_1 : w15.cell? ⟨w.heap.size, 1, none⟩ = some (.int .i64 by_) := HK_q_15.out.cell 1
  have cb_q_2 : w15.cell? ⟨w.heap.size, 2, none⟩ = some (.slice A n cap) := HK_q_15.out.cell 2
  have cb_q_3 : w15.cell? ⟨w.heap.size, 3, none⟩ = some (.int .i64 se) := HK_q_15.out.cell 3
  have cb_q_4 : w15.cell? ⟨w.heap.size, 4, none⟩ = some (.int .i64 dr) := HK_q_15.out.cell 4
  have HK_w0_15 : Hid (Bk w15 (w5.heap.size) 30 #[.int .i64 xl, .int .i64 xb, .slice A_v M.length cap_v, .int .i64 xs, .int .i64 xd]) := Lib.hid (HK_w0_14.out.old hb15)
  clear HK_w0_14
  clear cb_w0_0 cb_w0_1 cb_w0_2 cb_w0_3 cb_w0_4 zb_w0
  have zb_w0 : w5.heap.size < w15.heap.size := HK_w0_15.out.lt
  have cb_w0_0 : w15.cell? ⟨w5.heap.size, 0, none⟩ = some (.int .i64 xl) := HK_w0_15.out.cell 0
  have cb_w0_1 : w15.cell? ⟨w5.heap.size, 1, none⟩ = some (.int .i64 xb) := HK_w0_15.out.cell 1
  have cb_w0_2 : w15.cell? ⟨w5.heap.size, 2, none⟩ = some (.slice A_v M.length cap_v) := HK_w0_15.out.cell 2
  have cb_w0_3 : w15.cell? ⟨w5.heap.size, 3, none⟩ = some (.int .i64 xs) := HK_w0_15.out.cell 3
  have cb_w0_4 : w15.cell? ⟨w5.heap.size, 4, none⟩ = some (.int .i64 xd) := HK_w0_15.out.cell 4
  have HK_x0_15 : Hid (Bk w15 (w6.heap.size) 30 #[.int .i64 li, .int .i64 by_, .slice A_x n cap_x, .int .i64 se, .int .i64 dr]) := Lib.hid (HK_x0_14.out.old hb15)
  clear HK_x0_14
  clear cb_x0_0 cb_x0_1 cb_x0_2 cb_x0_3 cb_x0_4 zb_x0
  have zb_x0 : w6.heap.size < w15.heap.size := HK_x0_15.out.lt
  have cb_x0_0 : w15.cell? ⟨w6.heap.size, 0, none⟩ = some (.int .i64 li) := HK_x0_15.out.cell 0
  have cb_x0_1 : w15.cell? ⟨w6.heap.size, 1, none⟩ = some (.int .i64 by_) := HK_x0_15.out.cell 1
  have cb_x0_2 : w15.cell? ⟨w6.heap.size, 2, none⟩ = some (.slice A_x n cap_x) := HK_x0_15.out.cell 2
  have cb_x0_3 : w15.cell? ⟨w6.heap.size, 3, none⟩ = some (.int .i64 se) := HK_x0_15.out.cell 3
  have cb_x0_4 : w15.cell? ⟨w6.heap.size, 4, none⟩ = some (.int .i64 dr) := HK_x0_15.out.cell 4
  have HK_g0_15 : Hid (Bk w15 (w8.heap.size) 30 #[.int .i64 xl, .int .i64 xb, .slice A_g M.length cap_g, .int .i64 xs, .int .i64 xd]) := Lib.hid (HK_g0_14.out.old hb15)
  clear HK_g0_14
  clear cb_g0_0 cb_g0_1 cb_g0_2 cb_g0_3 cb_g0_4 zb_g0
  have zb_g0 : w8.heap.size < w15.heap.size := HK_g0_15.out.lt
  have cb_g0_0 : w15.cell? ⟨w8.heap.size, 0, none⟩ = some (.int .i64 xl) := HK_g0_15.out.cell 0
  have cb_g0_1 : w15.cell? ⟨w8.heap.size, 1, none⟩ = some (.int .i64 xb) := HK_g0_15.out.cell 1
  have cb_g0_2 : w15.cell? ⟨w8.heap.size, 2, none⟩ = some (.slice A_g M.length cap_g) := HK_g0_15.out.cell 2
  have cb_g0_3 : w15.cell? ⟨w8.heap.size, 3, none⟩ = some (.int .i64 xs) := HK_g0_15.out.cell 3
  have cb_g0_4 : w15.cell? ⟨w8.heap.size, 4, none⟩ = some (.int .i64 xd) := HK_g0_15.out.cell 4
  have HO_s_15 := Lib.hid (HO_s_14.out.old hb15)
  clear HO_s_14
  have HO_t_15 := Lib.hid (HO_t_14.out.old hb15)
  clear HO_t_14
  have HO_v_15 := Lib.hid (HO_v_14.out.old hb15)
  clear HO_v_14
  have HO_vt_15 := Lib.hid (HO_vt_14.out.old hb15)
  clear HO_vt_14
  have HO_vd_15 := Lib.hid (HO_vd_14.out.old hb15)
  clear HO_vd_14
  have HO_x_15 := Lib.hid (HO_x_14.out.old hb15)
  clear HO_x_14
  have HO_u_15 := Lib.hid (HO_u_14.out.old hb15)
  clear HO_u_14
  have HO_g_15 := Lib.hid (HO_g_14.out.old hb15)
  clear HO_g_14
  have HO_gt_15 := Lib.hid (HO_gt_14.out.old hb15)
  clear HO_gt_14
  have HO_gd_15 := Lib.hid (HO_gd_14.out.old hb15)
  clear HO_gd_14
  have HO_y_15 := Lib.hid (HO_y_14.out.old hb15)
  clear HO_y_14
  have HO_z_15 := Lib.hid (HO_z_14.out.old hb15)
  clear HO_z_14
  have HB_15 := Lib.hid (bt HB_14.out hb15)
  clear hb15
  go_wp2_with fail
  refine (markQueue_any _ _ _ _ _ _ _ (fl L) 1 _ _ _ HO_x_15.out (by omega) (by omega) (by omega) (by omega)).mono ?_
  rintro e w16 ⟨rfl, ho16, hb16⟩
  have HO_x_16 := Lib.hid ho16
  clear ho16
  have z16 := hb16.size
  (try simp at z16)
  have HK_q_16 : Hid (Bk w16 (w.heap.size) 24 #[.int .i64 li, .int .i64 by_, .slice A n cap, .int .i64 se, .int .i64 dr]) := Lib.hid (HK_q_15.out.chg hb16 (by first | omega | (simp; done) | (simp; omega)))
  clear HK_q_15
  clear cb_q_0 cb_q_1 cb_q_2 cb_q_3 cb_q_4 zb_q
  have zb_q : w.heap.size < w16.heap.size := HK_q_16.out.lt
  have cb_q_0 : w16.cell? ⟨w.heap.size, 0, none⟩ = some (.int .i64 li) := HK_q_16.out.cell 0
  have cb_q_1 : w16.cell? ⟨w.heap.size, 1, none⟩ = some (.int .i64 by_) := HK_q_16.out.cell 1
  have cb_q_2 : w16.cell? ⟨w.heap.size, 2, none⟩ = some (.slice A n cap) := HK_q_16.out.cell 2
  have cb_q_3 : w16.cell? ⟨w.heap.size, 3, none⟩ = some (.int .i64 se) := HK_q_16.out.cell 3
  have cb_q_4 : w16.cell? ⟨w.heap.size, 4, none⟩ = some (.int .i64 dr) := HK_q_16.out.cell 4
  have HK_w0_16 : Hid (Bk w16 (w5.heap.size) 30 #[.int .i64 xl, .int .i64 xb, .slice A_v M.length cap_v, .int .i64 xs, .int .i64 xd]) := Lib.hid (HK_w0_15.out.chg hb16 (by first | omega | (simp; done) | (simp; omega)))
  clear HK_w0_15
  clear cb_w0_0 cb_w0_1 cb_w0_2 cb_w0_3 cb_w0_4 zb_w0
  have zb_w0 : w5.heap.size < w16.heap.size := HK_w0_16.out.lt
  have cb_w0_0 : w16.cell? ⟨w5.heap.size, 0, none⟩ = some (.int .i64 xl) := HK_w0_16.out.cell 0
  have cb_w0_1 : w16.cell? ⟨w5.heap.size, 1, none⟩ = some (.int .i64 xb) := HK_w0_16.out.cell 1
  have cb_w0_2 : w16.cell? ⟨w5.heap.size, 2, none⟩ = some (.slice A_v M.length cap_v) := HK_w0_16.out.cell 2
  have cb_w0_3 : w16.cell? ⟨w5.heap.size, 3, none⟩ = some (.int .i64 xs) := HK_w0_16.out.cell 3
  have cb_w0_4 : w16.cell? ⟨w5.heap.size, 4, none⟩ = some (.int .i64 xd) := HK_w0_16.out.cell 4
  have HK_x0_16 : Hid (Bk w16 (w6.heap.size) 30 #[.int .i64 li, .int .i64 by_, .slice A_x n cap_x, .int .i64 se, .int .i64 dr]) := Lib.hid (HK_x0_15.out.chg hb16 (by first | omega | (simp; done) | (simp; omega)))
  clear HK_x0_15
  clear cb_x0_0 cb_x0_1 cb_x0_2 cb_x0_3 cb_x0_4 zb_x0
  have zb_x0 : w6.heap.size < w16.heap.size := HK_x0_16.out.lt
  have cb_x0_0 : w16.cell? ⟨w6.heap.size, 0, none⟩ = some (.int .i64 li) := HK_x0_16.out.cell 0
  have cb_x0_1 : w16.cell? ⟨w6.heap.size, 1, none⟩ = some (.int .i64 by_) := HK_x0_16.out.cell 1
  have cb_x0_2 : w16.cell? ⟨w6.heap.size, 2, none⟩ = some (.slice A_x n cap_x) := HK_x0_16.out.cell 2
  have cb_x0_3 : w16.cell? ⟨w6.heap.size, 3, none⟩ = some (.int .i64 se) := HK_x0_16.out.cell 3
  have cb_x0_4 : w16.cell? ⟨w6.heap.size, 4, none⟩ = some (.int .i64 dr) := HK_x0_16.out.cell 4
  have HK_g0_16 : Hid (Bk w16 (w8.heap.size) 30 #[.int .i64 xl, .int .i64 xb, .slice A_g M.length cap_g, .int .i64 xs, .int .i64 xd]) := Lib.hid (HK_g0_15.out.chg hb16 (by first | omega | (simp; done) | (simp; omega)))
  clear HK_g0_15
  clear cb_g0_0 cb_g0_1 cb_g0_2 cb_g0_3 cb_g0_4 zb_g0
  have zb_g0 : w8.heap.size < w16.heap.size := HK_g0_16.out.lt
  have cb_g0_0 : w16.cell? ⟨w8.heap.size, 0, none⟩ = some (.int .i64 xl) := HK_g0_16.out.cell 0
  have cb_g0_1 : w16.cell? ⟨w8.heap.size, 1, none⟩ = some (.int .i64 xb) := HK_g0_16.out.cell 1
  have cb_g0_2 : w16.cell? ⟨w8.heap.size, 2, none⟩ = some (.slice A_g M.length cap_g) := HK_g0_16.out.cell 2
  have cb_g0_3 : w16.cell? ⟨w8.heap.size, 3, none⟩ = some (.int .i64 xs) := HK_g0_16.out.cell 3
  have cb_g0_4 : w16.cell? ⟨w8.heap.size, 4, none⟩ = some (.int .i64 xd) := HK_g0_16.out.cell 4
  have HO_s_16 := Lib.hid (HO_s_15.out.chg hb16 (by first | omega | (simp; done) | (simp; omega)))
  clear HO_s_15
  have HO_t_16 := Lib.hid (HO_t_15.out.chg hb16 (by first | omega | (simp; done) | (simp; omega)))
  clear HO_t_15
  have HO_v_16 := Lib.hid (HO_v_15.out.chg hb16 (by first | omega | (simp; done) | (simp; omega)))
  clear HO_v_15
  have HO_vt_16 := Lib.hid (HO_vt_15.out.chg hb16 (by first | omega | (simp; done) | (simp; omega)))
  clear HO_vt_15
  have HO_vd_16 := Lib.hid (HO_vd_15.out.chg hb16 (by first | omega | (simp; done) | (simp; omega)))
  clear HO_vd_15
  have HO_u_16 := Lib.hid (HO_u_15.out.chg hb16 (by first | omega | (simp; done) | (simp; omega)))
  clear HO_u_15
  have HO_g_16 := Lib.hid (HO_g_15.out.chg hb16 (by first | omega | (simp; done) | (simp; omega)))
  clear HO_g_15
  have HO_gt_16 := Lib.hid (HO_gt_15.out.chg hb16 (by first | omega | (simp; done) | (simp; omega)))
  clear HO_gt_15
  have HO_gd_16 := Lib.hid (HO_gd_15.out.chg hb16 (by first | omega | (simp; done) | (simp; omega)))
  clear HO_gd_15
  have HO_y_16 := Lib.hid (HO_y_15.out.chg hb16 (by first | omega | (simp; done) | (simp; omega)))
  clear HO_y_15
  have HO_z_16 := Lib.hid (HO_z_15.out.chg hb16 (by first | omega | (simp; done) | (simp; omega)))
  clear HO_z_15
  have HB_16 := Lib.hid (Chg.below HB_15.out hb16 (by first | omega | (simp; done) | (simp; omega)))
  clear hb16
  clear HO_x_15
  go_wp2_with fail
  refine (markPacketS_any _ _ _ (fl P) _ _ _ _ HO_u_16.out (by omega) (by omega) (by omega)).mono ?_
  rintro e w17 ⟨rfl, ho17, hb17⟩
  have HO_u_17 := Lib.hid ho17
  clear ho17
  have z17 := hb17.size
  (try simp at z17)
  have HK_q_17 : Hid (Bk w17 (w.heap.size) 24 #[.int .i64 li, .int .i64 by_, .slice A n cap, .int .i64 se, .int .i64 dr]) := Lib.hid (HK_q_16.out.chg hb17 (by first | omega | (simp; done) | (simp; omega)))
  clear HK_q_16
  clear cb_q_0 cb_q_1 cb_q_2 cb_q_3 cb_q_4 zb_q
  have zb_q : w.heap.size < w17.heap.size := HK_q_17.out.lt
  have cb_q_0 : w17.cell? ⟨w.heap.size, 0, none⟩ = some (.int .i64 li) := HK_q_17.out.cell 0
  have cb_q_1 : w17.cell? ⟨w.heap.size, 1, none⟩ = some (.int .i64 by_) := HK_q_17.out.cell 1
  have cb_q_2 : w17.cell? ⟨w.heap.size, 2, none⟩ = some (.slice A n cap) := HK_q_17.out.cell 2
  have cb_q_3 : w17.cell? ⟨w.heap.size, 3, none⟩ = some (.int .i64 se) := HK_q_17.out.cell 3
  have cb_q_4 : w17.cell? ⟨w.heap.size, 4, none⟩ = some (.int .i64 dr) := HK_q_17.out.cell 4
  have HK_w0_17 : Hid (Bk w17 (w5.heap.size) 30 #[.int .i64 xl, .int .i64 xb, .slice A_v M.length cap_v, .int .i64 xs, .int .i64 xd]) := Lib.hid (HK_w0_16.out.chg hb17 (by first | omega | (simp; done) | (simp; omega)))
  clear HK_w0_16
  clear cb_w0_0 cb_w0_1 cb_w0_2 cb_w0_3 cb_w0_4 zb_w0
  have zb_w0 : w5.heap.size < w17.heap.size := HK_w0_17.out.lt
  have cb_w0_0 : w17.cell? ⟨w5.heap.size, 0, none⟩ = some (.int .i64 xl) := HK_w0_17.out.cell 0
  have cb_w0_1 : w17.cell? ⟨w5.heap.size, 1, none⟩ = some (.int .i64 xb) := HK_w0_17.out.cell 1
  have cb_w0_2 : w17.cell? ⟨w5.heap.size, 2, none⟩ = some (.slice A_v M.length cap_v) := HK_w0_17.out.cell 2
  have cb_w0_3 : w17.cell? ⟨w5.heap.size, 3, none⟩ = some (.int .i64 xs) := HK_w0_17.out.cell 3
  have cb_w0_4 : w17.cell? ⟨w5.heap.size, 4, none⟩ = some (.int .i64 xd) := HK_w0_17.out.cell 4
  have HK_x0_17 : Hid (Bk w17 (w6.heap.size) 30 #[.int .i64 li, .int .i64 by_, .slice A_x n cap_x, .int .i64 se, .int .i64 dr]) := Lib.hid (HK_x0_16.out.chg hb17 (by first | omega | (simp; done) | (simp; omega)))
  clear HK_x0_16
  clear cb_x0_0 cb_x0_1 cb_x0_2 cb_x0_3 cb_x0_4 zb_x0
  have zb_x0 : w6.heap.size < w17.heap.size := HK_x0_17.out.lt
  have cb_x0_0 : w17.cell? ⟨w6.heap.size, 0, none⟩ = some (.int .i64 li) := HK_x0_17.out.cell 0
  have cb_x0_1 : w17.cell? ⟨w6.heap.size, 1, none⟩ = some (.int .i64 by_) := HK_x0_17.out.cell 1
  have cb_x0_2 : w17.cell? ⟨w6.heap.size, 2, none⟩ = some (.slice A_x n cap_x) := HK_x0_17.out.cell 2
  have cb_x0_3 : w17.cell? ⟨w6.heap.size, 3, none⟩ = some (.int .i64 se) := HK_x0_17.out.cell 3
  have cb_x0_4 : w17.cell? ⟨w6.heap.size, 4, none⟩ = some (.int .i64 dr) := HK_x0_17.out.cell 4
  have HK_g0_17 : Hid (Bk w17 (w8.heap.size) 30 #[.int .i64 xl, .int .i64 xb, .slice A_g M.length cap_g, .int .i64 xs, .int .i64 xd]) := Lib.hid (HK_g0_16.out.chg hb17 (by first | omega | (simp; done) | (simp; omega)))
  clear HK_g0_16
  clear cb_g0_0 cb_g0_1 cb_g0_2 cb_g0_3 cb_g0_4 zb_g0
  have zb_g0 : w8.heap.size < w17.heap.size := HK_g0_17.out.lt
  have cb_g0_0 : w17.cell? ⟨w8.heap.size, 0, none⟩ = some (.int .i64 xl) := HK_g0_17.out.cell 0
  have cb_g0_1 : w17.cell? ⟨w8.heap.size, 1, none⟩ = some (.int .i64 xb) := HK_g0_17.out.cell 1
  have cb_g0_2 : w17.cell? ⟨w8.heap.size, 2, none⟩ = some (.slice A_g M.length cap_g) := HK_g0_17.out.cell 2
  have cb_g0_3 : w17.cell? ⟨w8.heap.size, 3, none⟩ = some (.int .i64 xs) := HK_g0_17.out.cell 3
  have cb_g0_4 : w17.cell? ⟨w8.heap.size, 4, none⟩ = some (.int .i64 xd) := HK_g0_17.out.cell 4
  have HO_s_17 := Lib.hid (HO_s_16.out.chg hb17 (by first | omega | (simp; done) | (simp; omega)))
  clear HO_s_16
  have HO_t_17 := Lib.hid (HO_t_16.out.chg hb17 (by first | omega | (simp; done) | (simp; omega)))
  clear HO_t_16
  have HO_v_17 := Lib.hid (HO_v_16.out.chg hb17 (by first | omega | (simp; done) | (simp; omega)))
  clear HO_v_16
  have HO_vt_17 := Lib.hid (HO_vt_16.out.chg hb17 (by first | omega | (simp; done) | (simp; omega)))
  clear HO_vt_16
  have HO_vd_17 := Lib.hid (HO_vd_16.out.chg hb17 (by first | omega | (simp; done) | (simp; omega)))
  clear HO_vd_16
  have HO_x_17 := Lib.hid (HO_x_16.out.chg hb17 (by first | omega | (simp; done) | (simp; omega)))
  clear HO_x_16
  have HO_g_17 := Lib.hid (HO_g_16.out.chg hb17 (by first | omega | (simp; done) | (simp; omega)))
  clear HO_g_16
  have HO_gt_17 := Lib.hid (HO_gt_16.out.chg hb17 (by first | omega | (simp; done) | (simp; omega)))
  clear HO_gt_16
  have HO_gd_17 := Lib.hid (HO_gd_16.out.chg hb17 (by first | omega | (simp; done) | (simp; omega)))
  clear HO_gd_16
  have HO_y_17 := Lib.hid (HO_y_16.out.chg hb17 (by first | omega | (simp; done) | (simp; omega)))
  clear HO_y_16
  have HO_z_17 := Lib.hid (HO_z_16.out.chg hb17 (by first | omega | (simp; done) | (simp; omega)))
  clear HO_z_16
  have HB_17 := Lib.hid (Chg.below HB_16.out hb17 (by first | omega | (simp; done) | (simp; omega)))
  clear hb17
  clear HO_u_16
  go_wp2_with fail
  refine (eqQueue_any _ _ _ _ _ _ _ _ _ (fl M) _ HMM.out HO_g_17.out.row HO_v_17.out.row (by omega)).mono ?_
  rintro e w18 ⟨rfl, hb18⟩
  have z18 := hb18.size
  (try simp at z18)
  have HK_q_18 : Hid (Bk w18 (w.heap.size) 24 #[.int .i64 li, .int .i64 by_, .slice A n cap, .int .i64 se, .int .i64 dr]) := Lib.hid (HK_q_17.out.old hb18)
  clear HK_q_17
  clear cb_q_0 cb_q_1 cb_q_2 cb_q_3 cb_q_4 zb_q
  have zb_q : w.heap.size < w18.heap.size := HK_q_18.out.lt
  have cb_q_0 : w18.cell? ⟨w.heap.size, 0, none⟩ = some (.int .i64 li) := HK_q_18.out.cell 0
  have cb_q_1 : w18.cell? ⟨w.heap.size, 1, none⟩ = some (.int .i64 by_) := HK_q_18.out.cell 1
  have cb_q_2 : w18.cell? ⟨w.heap.size, 2, none⟩ = some (.slice A n cap) := HK_q_18.out.cell 2
  have cb_q_3 : w18.cell? ⟨w.heap.size, 3, none⟩ = some (.int .i64 se) := HK_q_18.out.cell 3
  have cb_q_4 : w18.cell? ⟨w.heap.size, 4, none⟩ = some (.int .i64 dr) := HK_q_18.out.cell 4
  have HK_w0_18 : Hid (Bk w18 (w5.heap.size) 30 #[.int .i64 xl, .int .i64 xb, .slice A_v M.length cap_v, .int .i64 xs, .int .i64 xd]) := Lib.hid (HK_w0_17.out.old hb18)
  clear HK_w0_17
  clear cb_w0_0 cb_w0_1 cb_w0_2 cb_w0_3 cb_w0_4 zb_w0
  have zb_w0 : w5.heap.size < w18.heap.size := HK_w0_18.out.lt
  have cb_w0_0 : w18.cell? ⟨w5.heap.size, 0, none⟩ = some (.int .i64 xl) := HK_w0_18.out.cell 0
  have cb_w0_1 : w18.cell? ⟨w5.heap.size, 1, none⟩ = some (.int .i64 xb) := HK_w0_18.out.cell 1
  have cb_w0_2 : w18.cell? ⟨w5.heap.size, 2, none⟩ = some (.slice A_v M.length cap_v) := HK_w0_18.out.cell 2
  have cb_w0_3 : w18.cell? ⟨w5.heap.size, 3, none⟩ = some (.int .i64 xs) := HK_w0_18.out.cell 3
  have cb_w0_4 : w18.cell? ⟨w5.heap.size, 4, none⟩ = some (.int .i64 xd) := HK_w0_18.out.cell 4
  have HK_x0_18 : Hid (Bk w18 (w6.heap.size) 30 #[.int .i64 li, .int .i64 by_, .slice A_x n cap_x, .int .i64 se, .int .i64 dr]) := Lib.hid (HK_x0_17.out.old hb18)
  clear HK_x0_17
  clear cb_x0_0 cb_x0_1 cb_x0_2 cb_x0_3 cb_x0_4 zb_x0
  have zb_x0 : w6.heap.size < w18.heap.size := HK_x0_18.out.lt
  have cb_x0_0 : w18.cell? ⟨w6.heap.size, 0, none⟩ = some (.int .i64 li) := HK_x0_18.out.cell 0
  have cb_x0_1 : w18.cell? ⟨w6.heap.size, 1, none⟩ = some (.int .i64 by_) := HK_x0_18.out.cell 1
  have cb_x0_2 : w18.cell? ⟨w6.heap.size, 2, none⟩ = some (.slice A_x n cap_x) := HK_x0_18.out.cell 2
  have cb_x0_3 : w18.cell? ⟨w6.heap.size, 3, none⟩ = some (.int .i64 se) := HK_x0_18.out.cell 3
  have cb_x0_4 : w18.cell? ⟨w6.heap.size, 4, none⟩ = some (.int .i64 dr) := HK_x0_18.out.cell 4
  have HK_g0_18 : Hid (Bk w18 (w8.heap.size) 30 #[.int .i64 xl, .int .i64 xb, .slice A_g M.length cap_g, .int .i64 xs, .int .i64 xd]) := Lib.hid (HK_g0_17.out.old hb18)
  clear HK_g0_17
  clear cb_g0_0 cb_g0_1 cb_g0_2 cb_g0_3 cb_g0_4 zb_g0
  have zb_g0 : w8.heap.size < w18.heap.size := HK_g0_18.out.lt
  have cb_g0_0 : w18.cell? ⟨w8.heap.size, 0, none⟩ = some (.int .i64 xl) := HK_g0_18.out.cell 0
  have cb_g0_1 : w18.cell? ⟨w8.heap.size, 1, none⟩ = some (.int .i64 xb) := HK_g0_18.out.cell 1
  have cb_g0_2 : w18.cell? ⟨w8.heap.size, 2, none⟩ = some (.slice A_g M.length cap_g) := HK_g0_18.out.cell 2
  have cb_g0_3 : w18.cell? ⟨w8.heap.size, 3, none⟩ = some (.int .i64 xs) := HK_g0_18.out.cell 3
  have cb_g0_4 : w18.cell? ⟨w8.heap.size, 4, none⟩ = some (.int .i64 xd) := HK_g0_18.out.cell 4
  have HO_s_18 := Lib.hid (HO_s_17.out.old hb18)
  clear HO_s_17
  have HO_t_18 := Lib.hid (HO_t_17.out.old hb18)
  clear HO_t_17
  have HO_v_18 := Lib.hid (HO_v_17.out.old hb18)
  clear HO_v_17
  have HO_vt_18 := Lib.hid (HO_vt_17.out.old hb18)
  clear HO_vt_17
  have HO_vd_18 := Lib.hid (HO_vd_17.out.old hb18)
  clear HO_vd_17
  have HO_x_18 := Lib.hid (HO_x_17.out.old hb18)
  clear HO_x_17
  have HO_u_18 := Lib.hid (HO_u_17.out.old hb18)
  clear HO_u_17
  have HO_g_18 := Lib.hid (HO_g_17.out.old hb18)
  clear HO_g_17
  have HO_gt_18 := Lib.hid (HO_gt_17.out.old hb18)
  clear HO_gt_17
  have HO_gd_18 := Lib.hid (HO_gd_17.out.old hb18)
  clear HO_gd_17
  have HO_y_18 := Lib.hid (HO_y_17.out.old hb18)
  clear HO_y_17
  have HO_z_18 := Lib.hid (HO_z_17.out.old hb18)
  clear HO_z_17
  have HB_18 := Lib.hid (bt HB_17.out hb18)
  clear hb18
  go_wp2_with fail
  refine (eqIntS_any _ _ _ _ _ T _ HT.out (by omega) HO_gt_18.out.row HO_vt_18.out.row).mono ?_
  rintro e w19 ⟨rfl, hb19⟩
  have z19 := hb19.size
  (try simp at z19)
  have HK_q_19 : Hid (Bk w19 (w.heap.size) 24 #[.int .i64 li, .int .i64 by_, .slice A n cap, .int .i64 se, .int .i64 dr]) := Lib.hid (HK_q_18.out.old hb19)
  clear HK_q_18
  clear cb_q_0 cb_q_1 cb_q_2 cb_q_3 cb_q_4 zb_q
  have zb_q : w.heap.size < w19.heap.size := HK_q_19.out.lt
  have cb_q_0 : w19.cell? ⟨w.heap.size, 0, none⟩ = some (.int .i64 li) := HK_q_19.out.cell 0
  have cb_q_1 : w19.cell? ⟨w.heap.size, 1, none⟩ = some (.int .i64 by_) := HK_q_19.out.cell 1
  have cb_q_2 : w19.cell? ⟨w.heap.size, 2, none⟩ = some (.slice A n cap) := HK_q_19.out.cell 2
  have cb_q_3 : w19.cell? ⟨w.heap.size, 3, none⟩ = some (.int .i64 se) := HK_q_19.out.cell 3
  have cb_q_4 : w19.cell? ⟨w.heap.size, 4, none⟩ = some (.int .i64 dr) := HK_q_19.out.cell 4
  have HK_w0_19 : Hid (Bk w19 (w5.heap.size) 30 #[.int .i64 xl, .int .i64 xb, .slice A_v M.length cap_v, .int .i64 xs, .int .i64 xd]) := Lib.hid (HK_w0_18.out.old hb19)
  clear HK_w0_18
  clear cb_w0_0 cb_w0_1 cb_w0_2 cb_w0_3 cb_w0_4 zb_w0
  have zb_w0 : w5.heap.size < w19.heap.size := HK_w0_19.out.lt
  have cb_w0_0 : w19.cell? ⟨w5.heap.size, 0, none⟩ = some (.int .i64 xl) := HK_w0_19.out.cell 0
  have cb_w0_1 : w19.cell? ⟨w5.heap.size, 1, none⟩ = some (.int .i64 xb) := HK_w0_19.out.cell 1
  have cb_w0_2 : w19.cell? ⟨w5.heap.size, 2, none⟩ = some (.slice A_v M.length cap_v) := HK_w0_19.out.cell 2
  have cb_w0_3 : w19.cell? ⟨w5.heap.size, 3, none⟩ = some (.int .i64 xs) := HK_w0_19.out.cell 3
  have cb_w0_4 : w19.cell? ⟨w5.heap.size, 4, none⟩ = some (.int .i64 xd) := HK_w0_19.out.cell 4
  have HK_x0_19 : Hid (Bk w19 (w6.heap.size) 30 #[.int .i64 li, .int .i64 by_, .slice A_x n cap_x, .int .i64 se, .int .i64 dr]) := Lib.hid (HK_x0_18.out.old hb19)
  clear HK_x0_18
  clear cb_x0_0 cb_x0_1 cb_x0_2 cb_x0_3 cb_x0_4 zb_x0
  have zb_x0 : w6.heap.size < w19.heap.size := HK_x0_19.out.lt
  have cb_x0_0 : w19.cell? ⟨w6.heap.size, 0, none⟩ = some (.int .i64 li) := HK_x0_19.out.cell 0
  have cb_x0_1 : w19.cell? ⟨w6.heap.size, 1, none⟩ = some (.int .i64 by_) := HK_x0_19.out.cell 1
  have cb_x0_2 : w19.cell? ⟨w6.heap.size, 2, none⟩ = some (.slice A_x n cap_x) := HK_x0_19.out.cell 2
  have cb_x0_3 : w19.cell? ⟨w6.heap.size, 3, none⟩ = some (.int .i64 se) := HK_x0_19.out.cell 3
  have cb_x0_4 : w19.cell? ⟨w6.heap.size, 4, none⟩ = some (.int .i64 dr) := HK_x0_19.out.cell 4
  have HK_g0_19 : Hid (Bk w19 (w8.heap.size) 30 #[.int .i64 xl, .int .i64 xb, .slice A_g M.length cap_g, .int .i64 xs, .int .i64 xd]) := Lib.hid (HK_g0_18.out.old hb19)
  clear HK_g0_18
  clear cb_g0_0 cb_g0_1 cb_g0_2 cb_g0_3 cb_g0_4 zb_g0
  have zb_g0 : w8.heap.size < w19.heap.size := HK_g0_19.out.lt
  have cb_g0_0 : w19.cell? ⟨w8.heap.size, 0, none⟩ = some (.int .i64 xl) := HK_g0_19.out.cell 0
  have cb_g0_1 : w19.cell? ⟨w8.heap.size, 1, none⟩ = some (.int .i64 xb) := HK_g0_19.out.cell 1
  have cb_g0_2 : w19.cell? ⟨w8.heap.size, 2, none⟩ = some (.slice A_g M.length cap_g) := HK_g0_19.out.cell 2
  have cb_g0_3 : w19.cell? ⟨w8.heap.size, 3, none⟩ = some (.int .i64 xs) := HK_g0_19.out.cell 3
  have cb_g0_4 : w19.cell? ⟨w8.heap.size, 4, none⟩ = some (.int .i64 xd) := HK_g0_19.out.cell 4
  have HO_s_19 := Lib.hid (HO_s_18.out.old hb19)
  clear HO_s_18
  have HO_t_19 := Lib.hid (HO_t_18.out.old hb19)
  clear HO_t_18
  have HO_v_19 := Lib.hid (HO_v_18.out.old hb19)
  clear HO_v_18
  have HO_vt_19 := Lib.hid (HO_vt_18.out.old hb19)
  clear HO_vt_18
  have HO_vd_19 := Lib.hid (HO_vd_18.out.old hb19)
  clear HO_vd_18
  have HO_x_19 := Lib.hid (HO_x_18.out.old hb19)
  clear HO_x_18
  have HO_u_19 := Lib.hid (HO_u_18.out.old hb19)
  clear HO_u_18
  have HO_g_19 := Lib.hid (HO_g_18.out.old hb19)
  clear HO_g_18
  have HO_gt_19 := Lib.hid (HO_gt_18.out.old hb19)
  clear HO_gt_18
  have HO_gd_19 := Lib.hid (HO_gd_18.out.old hb19)
  clear HO_gd_18
  have HO_y_19 := Lib.hid (HO_y_18.out.old hb19)
  clear HO_y_18
  have HO_z_19 := Lib.hid (HO_z_18.out.old hb19)
  clear HO_z_18
  have HB_19 := Lib.hid (bt HB_18.out hb19)
  clear hb19
  go_wp2_with fail
  refine (eqIntS_any _ _ _ _ _ D _ HD.out (by omega) HO_gd_19.out.row HO_vd_19.out.row).mono ?_
  rintro e w20 ⟨rfl, hb20⟩
  have z20 := hb20.size
  (try simp at z20)
  have HK_q_20 : Hid (Bk w20 (w.heap.size) 24 #[.int .i64 li, .int .i64 by_, .slice A n cap, .int .i64 se, .int .i64 dr]) := Lib.hid (HK_q_19.out.old hb20)
  clear HK_q_19
  clear cb_q_0 cb_q_1 cb_q_2 cb_q_3 cb_q_4 zb_q
  have zb_q : w.heap.size < w20.heap.size := HK_q_20.out.lt
  have cb_q_0 : w20.cell? ⟨w.heap.size, 0, none⟩ = some (.int .i64 li) := HK_q_20.out.cell 0
  have cb_q_1 : w20.cell? ⟨w.heap.size, 1, none⟩ = some (.int .i64 by_) := HK_q_20.out.cell 1
  have cb_q_2 : w20.cell? ⟨w.heap.size, 2, none⟩ = some (.slice A n cap) := HK_q_20.out.cell 2
  have cb_q_3 : w20.cell? ⟨w.heap.size, 3, none⟩ = some (.int .i64 se) := HK_q_20.out.cell 3
  have cb_q_4 : w20.cell? ⟨w.heap.size, 4, none⟩ = some (.int .i64 dr) := HK_q_20.out.cell 4
  have HK_w0_20 : Hid (Bk w20 (w5.heap.size) 30 #[.int .i64 xl, .int .i64 xb, .slice A_v M.length cap_v, .int .i64 xs, .int .i64 xd]) := Lib.hid (HK_w0_19.out.old hb20)
  clear HK_w0_19
  clear cb_w0_0 cb_w0_1 cb_w0_2 cb_w0_3 cb_w0_4 zb_w0
  have zb_w0 : w5.heap.size < w20.heap.size := HK_w0_20.out.lt
  have cb_w0_0 : w20.cell? ⟨w5.heap.size, 0, none⟩ = some (.int .i64 xl) := HK_w0_20.out.cell 0
  have cb_w0_1 : w20.cell? ⟨w5.heap.size, 1, none⟩ = some (.int .i64 xb) := HK_w0_20.out.cell 1
  have cb_w0_2 : w20.cell? ⟨w5.heap.size, 2, none⟩ = some (.slice A_v M.length cap_v) := HK_w0_20.out.cell 2
  have cb_w0_3 : w20.cell? ⟨w5.heap.size, 3, none⟩ = some (.int .i64 xs) := HK_w0_20.out.cell 3
  have cb_w0_4 : w20.cell? ⟨w5.heap.size, 4, none⟩ = some (.int .i64 xd) := HK_w0_20.out.cell 4
  have HK_x0_20 : Hid (Bk w20 (w6.heap.size) 30 #[.int .i64 li, .int .i64 by_, .slice A_x n cap_x, .int .i64 se, .int .i64 dr]) := Lib.hid (HK_x0_19.out.old hb20)
  clear HK_x0_19
  clear cb_x0_0 cb_x0_1 cb_x0_2 cb_x0_3 cb_x0_4 zb_x0
  have zb_x0 : w6.heap.size < w20.heap.size := HK_x0_20.out.lt
  have cb_x0_0 : w20.cell? ⟨w6.heap.size, 0, none⟩ = some (.int .i64 li) := HK_x0_20.out.cell 0
  have cb_x0_1 : w20.cell? ⟨w6.heap.size, 1, none⟩ = some (.int .i64 by_) := HK_x0_20.out.cell 1
  have cb_x0_2 : w20.cell? ⟨w6.heap.size, 2, none⟩ = some (.slice A_x n cap_x) := HK_x0_20.out.cell 2
  have cb_x0_3 : w20.cell? ⟨w6.heap.size, 3, none⟩ = some (.int .i64 se) := HK_x0_20.out.cell 3
  have cb_x0_4 : w20.cell? ⟨w6.heap.size, 4, none⟩ = some (.int .i64 dr) := HK_x0_20.out.cell 4
  have HK_g0_20 : Hid (Bk w20 (w8.heap.size) 30 #[.int .i64 xl, .int .i64 xb, .slice A_g M.length cap_g, .int .i64 xs, .int .i64 xd]) := Lib.hid (HK_g0_19.out.old hb20)
  clear HK_g0_19
  clear cb_g0_0 cb_g0_1 cb_g0_2 cb_g0_3 cb_g0_4 zb_g0
  have zb_g0 : w8.heap.size < w20.heap.size := HK_g0_20.out.lt
  have cb_g0_0 : w20.cell? ⟨w8.heap.size, 0, none⟩ = some (.int .i64 xl) := HK_g0_20.out.cell 0
  have cb_g0_1 : w20.cell? ⟨w8.heap.size, 1, none⟩ = some (.int .i64 xb) := HK_g0_20.out.cell 1
  have cb_g0_2 : w20.cell? ⟨w8.heap.size, 2, none⟩ = some (.slice A_g M.length cap_g) := HK_g0_20.out.cell 2
  have cb_g0_3 : w20.cell? ⟨w8.heap.size, 3, none⟩ = some (.int .i64 xs) := HK_g0_20.out.cell 3
  have cb_g0_4 : w20.cell? ⟨w8.heap.size, 4, none⟩ = some (.int .i64 xd) := HK_g0_20.out.cell 4
  have HO_s_20 := Lib.hid (HO_s_19.out.old hb20)
  clear HO_s_19
  have HO_t_20 := Lib.hid (HO_t_19.out.old hb20)
  clear HO_t_19
  have HO_v_20 := Lib.hid (HO_v_19.out.old hb20)
  clear HO_v_19
  have HO_vt_20 := Lib.hid (HO_vt_19.out.old hb20)
  clear HO_vt_19
  have HO_vd_20 := Lib.hid (HO_vd_19.out.old hb20)
  clear HO_vd_19
  have HO_x_20 := Lib.hid (HO_x_19.out.old hb20)
  clear HO_x_19
  have HO_u_20 := Lib.hid (HO_u_19.out.old hb20)
  clear HO_u_19
  have HO_g_20 := Lib.hid (HO_g_19.out.old hb20)
  clear HO_g_19
  have HO_gt_20 := Lib.hid (HO_gt_19.out.old hb20)
  clear HO_gt_19
  have HO_gd_20 := Lib.hid (HO_gd_19.out.old hb20)
  clear HO_gd_19
  have HO_y_20 := Lib.hid (HO_y_19.out.old hb20)
  clear HO_y_19
  have HO_z_20 := Lib.hid (HO_z_19.out.old hb20)
  clear HO_z_19
  have HB_20 := Lib.hid (bt HB_19.out hb20)
  clear hb20
  go_wp2_with fail
  refine (markQueue_any _ _ _ _ _ _ _ (fl M) 1 _ _ _ HO_g_20.out (by omega) (by omega) (by omega) (by omega)).mono ?_
  rintro e w21 ⟨rfl, ho21, hb21⟩
  have HO_g_21 := Lib.hid ho21
  clear ho21
  have z21 := hb21.size
  (try simp at z21)
  have HK_q_21 : Hid (Bk w21 (w.heap.size) 24 #[.int .i64 li, .int .i64 by_, .slice A n cap, .int .i64 se, .int .i64 dr]) := Lib.hid (HK_q_20.out.chg hb21 (by first | omega | (simp; done) | (simp; omega)))
  clear HK_q_20
  clear cb_q_0 cb_q_1 cb_q_2 cb_q_3 cb_q_4 zb_q
  have zb_q : w.heap.size < w21.heap.size := HK_q_21.out.lt
  have cb_q_0 : w21.cell? ⟨w.heap.size, 0, none⟩ = some (.int .i64 li) := HK_q_21.out.cell 0
  have cb_q_1 : w21.cell? ⟨w.heap.size, 1, none⟩ = some (.int .i64 by_) := HK_q_21.out.cell 1
  have cb_q_2 : w21.cell? ⟨w.heap.size, 2, none⟩ = some (.slice A n cap) := HK_q_21.out.cell 2
  have cb_q_3 : w21.cell? ⟨w.heap.size, 3, none⟩ = some (.int .i64 se) := HK_q_21.out.cell 3
  have cb_q_4 : w21.cell? ⟨w.heap.size, 4, none⟩ = some (.int .i64 dr) := HK_q_21.out.cell 4
  have HK_w0_21 : Hid (Bk w21 (w5.heap.size) 30 #[.int .i64 xl, .int .i64 xb, .slice A_v M.length cap_v, .int .i64 xs, .int .i64 xd]) := Lib.hid (HK_w0_20.out.chg hb21 (by first | omega | (simp; done) | (simp; omega)))
  clear HK_w0_20
  clear cb_w0_0 cb_w0_1 cb_w0_2 cb_w0_3 cb_w0_4 zb_w0
  have zb_w0 : w5.heap.size < w21.heap.size := HK_w0_21.out.lt
  have cb_w0_0 : w21.cell? ⟨w5.heap.size, 0, none⟩ = some (.int .i64 xl) := HK_w0_21.out.cell 0
  have cb_w0_1 : w21.cell? ⟨w5.heap.size, 1, none⟩ = some (.int .i64 xb) := HK_w0_21.out.cell 1
  have cb_w0_2 : w21.cell? ⟨w5.heap.size, 2, none⟩ = some (.slice A_v M.length cap_v) := HK_w0_21.out.cell 2
  have cb_w0_3 : w21.cell? ⟨w5.heap.size, 3, none⟩ = some (.int .i64 xs) := HK_w0_21.out.cell 3
  have cb_w0_4 : w21.cell? ⟨w5.heap.size, 4, none⟩ = some (.int .i64 xd) := HK_w0_21.out.cell 4
  have HK_x0_21 : Hid (Bk w21 (w6.heap.size) 30 #[.int .i64 li, .int .i64 by_, .slice A_x n cap_x, .int .i64 se, .int .i64 dr]) := Lib.hid (HK_x0_20.out.chg hb21 (by first | omega | (simp; done) | (simp; omega)))
  clear HK_x0_20
  clear cb_x0_0 cb_x0_1 cb_x0_2 cb_x0_3 cb_x0_4 zb_x0
  have zb_x0 : w6.heap.size < w21.heap.size := HK_x0_21.out.lt
  have cb_x0_0 : w21.cell? ⟨w6.heap.size, 0, none⟩ = some (.int .i64 li) := HK_x0_21.out.cell 0
  have cb_x0_1 : w21.cell? ⟨w6.heap.size, 1, none⟩ = some (.int .i64 by_) := HK_x0_21.out.cell 1
  have cb_x0_2 : w21.cell? ⟨w6.heap.size, 2, none⟩ = some (.slice A_x n cap_x) := HK_x0_21.out.cell 2
  have cb_x0_3 : w21.cell? ⟨w6.heap.size, 3, none⟩ = some (.int .i64 se) := HK_x0_21.out.cell 3
  have cb_x0_4 : w21.cell? ⟨w6.heap.size, 4, none⟩ = some (.int .i64 dr) := HK_x0_21.out.cell 4
  have HK_g0_21 : Hid (Bk w21 (w8.heap.size) 30 #[.int .i64 xl, .int .i64 xb, .slice A_g M.length cap_g, .int .i64 xs, .int .i64 xd]) := Lib.hid (HK_g0_20.out.chg hb21 (by first | omega | (simp; done) | (simp; omega)))
  clear HK_g0_20
  clear cb_g0_0 cb_g0_1 cb_g0_2 cb_g0_3 cb_g0_4 zb_g0
  have zb_g0 : w8.heap.size < w21.heap.size := HK_g0_21.out.lt
  have cb_g0_0 : w21.cell? ⟨w8.heap.size, 0, none⟩ = some (.int .i64 xl) := HK_g0_21.out.cell 0
  have cb_g0_1 : w21.cell? ⟨w8.heap.size, 1, none⟩ = some (.int .i64 xb) := HK_g0_21.out.cell 1
  have cb_g0_2 : w21.cell? ⟨w8.heap.size, 2, none⟩ = some (.slice A_g M.length cap_g) := HK_g0_21.out.cell 2
  have cb_g0_3 : w21.cell? ⟨w8.heap.size, 3, none⟩ = some (.int .i64 xs) := HK_g0_21.out.cell 3
  have cb_g0_4 : w21.cell? ⟨w8.heap.size, 4, none⟩ = some (.int .i64 xd) := HK_g0_21.out.cell 4
  have HO_s_21 := Lib.hid (HO_s_20.out.chg hb21 (by first | omega | (simp; done) | (simp; omega)))
  clear HO_s_20
  have HO_t_21 := Lib.hid (HO_t_20.out.chg hb21 (by first | omega | (simp; done) | (simp; omega)))
  clear HO_t_20
  have HO_v_21 := Lib.hid (HO_v_20.out.chg hb21 (by first | omega | (simp; done) | (simp; omega)))
  clear HO_v_20
  have HO_vt_21 := Lib.hid (HO_vt_20.out.chg hb21 (by first | omega | (simp; done) | (simp; omega)))
  clear HO_vt_20
  have HO_vd_21 := Lib.hid (HO_vd_20.out.chg hb21 (by first | omega | (simp; done) | (simp; omega)))
  clear HO_vd_20
  have HO_x_21 := Lib.hid (HO_x_20.out.chg hb21 (by first | omega | (simp; done) | (simp; omega)))
  clear HO_x_20
  have HO_u_21 := Lib.hid (HO_u_20.out.chg hb21 (by first | omega | (simp; done) | (simp; omega)))
  clear HO_u_20
  have HO_gt_21 := Lib.hid (HO_gt_20.out.chg hb21 (by first | omega | (simp; done) | (simp; omega)))
  clear HO_gt_20
  have HO_gd_21 := Lib.hid (HO_gd_20.out.chg hb21 (by first | omega | (simp; done) | (simp; omega)))
  clear HO_gd_20
  have HO_y_21 := Lib.hid (HO_y_20.out.chg hb21 (by first | omega | (simp; done) | (simp; omega)))
  clear HO_y_20
  have HO_z_21 := Lib.hid (HO_z_20.out.chg hb21 (by first | omega | (simp; done) | (simp; omega)))
  clear HO_z_20
  have HB_21 := Lib.hid (Chg.below HB_20.out hb21 (by first | omega | (simp; done) | (simp; omega)))
  clear hb21
  clear HO_g_20
  go_wp2_with fail
  refine (markIntS_any _ _ _ T _ _ _ _ HO_gt_21.out (by omega) (by omega) (by omega)).mono ?_
  rintro e w22 ⟨rfl, ho22, hb22⟩
  have HO_gt_22 := Lib.hid ho22
  clear ho22
  have z22 := hb22.size
  (try simp at z22)
  have HK_q_22 : Hid (Bk w22 (w.heap.size) 24 #[.int .i64 li, .int .i64 by_, .slice A n cap, .int .i64 se, .int .i64 dr]) := Lib.hid (HK_q_21.out.chg hb22 (by first | omega | (simp; done) | (simp; omega)))
  clear HK_q_21
  clear cb_q_0 cb_q_1 cb_q_2 cb_q_3 cb_q_4 zb_q
  have zb_q : w.heap.size < w22.heap.size := HK_q_22.out.lt
  have cb_q_0 : w22.cell? ⟨w.heap.size, 0, none⟩ = some (.int .i64 li) := HK_q_22.out.cell 0
  have cb_q_1 : w22.cell? ⟨w.heap.size, 1, none⟩ = some (.int .i64 by_) := HK_q_22.out.cell 1
  have cb_q_2 : w22.cell? ⟨w.heap.size, 2, none⟩ = some (.slice A n cap) := HK_q_22.out.cell 2
  have cb_q_3 : w22.cell? ⟨w.heap.size, 3, none⟩ = some (.int .i64 se) := HK_q_22.out.cell 3
  have cb_q_4 : w22.cell? ⟨w.heap.size, 4, none⟩ = some (.int .i64 dr) := HK_q_22.out.cell 4
  have HK_w0_22 : Hid (Bk w22 (w5.heap.size) 30 #[.int .i64 xl, .int .i64 xb, .slice A_v M.length cap_v, .int .i64 xs, .int .i64 xd]) := Lib.hid (HK_w0_21.out.chg hb22 (by first | omega | (simp; done) | (simp; omega)))
  clear HK_w0_21
  clear cb_w0_0 cb_w0_1 cb_w0_2 cb_w0_3 cb_w0_4 zb_w0
  have zb_w0 : w5.heap.size < w22.heap.size := HK_w0_22.out.lt
  have cb_w0_0 : w22.cell? ⟨w5.heap.size, 0, none⟩ = some (.int .i64 xl) := HK_w0_22.out.cell 0
  have cb_w0_1 : w22.cell? ⟨w5.heap.size, 1, none⟩ = some (.int .i64 xb) := HK_w0_22.out.cell 1
  have cb_w0_2 : w22.cell? ⟨w5.heap.size, 2, none⟩ = some (.slice A_v M.length cap_v) := HK_w0_22.out.cell 2
  have cb_w0_3 : w22.cell? ⟨w5.heap.size, 3, none⟩ = some (.int .i64 xs) := HK_w0_22.out.cell 3
  have cb_w0_4 : w22.cell? ⟨w5.heap.size, 4, none⟩ = some (.int .i64 xd) := HK_w0_22.out.cell 4
  have HK_x0_22 : Hid (Bk w22 (w6.heap.size) 30 #[.int .i64 li, .int .i64 by_, .slice A_x n cap_x, .int .i64 se, .int .i64 dr]) := Lib.hid (HK_x0_21.out.chg hb22 (by first | omega | (simp; done) | (simp; omega)))
  clear HK_x0_21
  clear cb_x0_0 cb_x0_1 cb_x0_2 cb_x0_3 cb_x0_4 zb_x0
  have zb_x0 : w6.heap.size < w22.heap.size := HK_x0_22.out.lt
  have cb_x0_0 : w22.cell? ⟨w6.heap.size, 0, none⟩ = some (.int .i64 li) := HK_x0_22.out.cell 0
  have cb_x0_1 : w22.cell? ⟨w6.heap.size, 1, none⟩ = some (.int .i64 by_) := HK_x0_22.out.cell 1
  have cb_x0_2 : w22.cell? ⟨w6.heap.size, 2, none⟩ = some (.slice A_x n cap_x) := HK_x0_22.out.cell 2
  have cb_x0_3 : w22.cell? ⟨w6.heap.size, 3, none⟩ = some (.int .i64 se) := HK_x0_22.out.cell 3
  have cb_x0_4 : w22.cell? ⟨w6.heap.size, 4, none⟩ = some (.int .i64 dr) := HK_x0_22.out.cell 4
  have HK_g0_22 : Hid (Bk w22 (w8.heap.size) 30 #[.int .i64 xl, .int .i64 xb, .slice A_g M.length cap_g, .int .i64 xs, .int .i64 xd]) := Lib.hid (HK_g0_21.out.chg hb22 (by first | omega | (simp; done) | (simp; omega)))
  clear HK_g0_21
  clear cb_g0_0 cb_g0_1 cb_g0_2 cb_g0_3 cb_g0_4 zb_g0
  have zb_g0 : w8.heap.size < w22.heap.size := HK_g0_22.out.lt
  have cb_g0_0 : w22.cell? ⟨w8.heap.size, 0, none⟩ = some (.int .i64 xl) := HK_g0_22.out.cell 0
  have cb_g0_1 : w22.cell? ⟨w8.heap.size, 1, none⟩ = some (.int .i64 xb) := HK_g0_22.out.cell 1
  have cb_g0_2 : w22.cell? ⟨w8.heap.size, 2, none⟩ = some (.slice A_g M.length cap_g) := HK_g0_22.out.cell 2
  have cb_g0_3 : w22.cell? ⟨w8.heap.size, 3, none⟩ = some (.int .i64 xs) := HK_g0_22.out.cell 3
  have cb_g0_4 : w22.cell? ⟨w8.heap.size, 4, none⟩ = some (.int .i64 xd) := HK_g0_22.out.cell 4
  have HO_s_22 := Lib.hid (HO_s_21.out.chg hb22 (by first | omega | (simp; done) | (simp; omega)))
  clear HO_s_21
  have HO_t_22 := Lib.hid (HO_t_21.out.chg hb22 (by first | omega | (simp; done) | (simp; omega)))
  clear HO_t_21
  have HO_v_22 := Lib.hid (HO_v_21.out.chg hb22 (by first | omega | (simp; done) | (simp; omega)))
  clear HO_v_21
  have HO_vt_22 := Lib.hid (HO_vt_21.out.chg hb22 (by first | omega | (simp; done) | (simp; omega)))
  clear HO_vt_21
  have HO_vd_22 := Lib.hid (HO_vd_21.out.chg hb22 (by first | omega | (simp; done) | (simp; omega)))
  clear HO_vd_21
  have HO_x_22 := Lib.hid (HO_x_21.out.chg hb22 (by first | omega | (simp; done) | (simp; omega)))
  clear HO_x_21
  have HO_u_22 := Lib.hid (HO_u_21.out.chg hb22 (by first | omega | (simp; done) | (simp; omega)))
  clear HO_u_21
  have HO_g_22 := Lib.hid (HO_g_21.out.chg hb22 (by first | omega | (simp; done) | (simp; omega)))
  clear HO_g_21
  have HO_gd_22 := Lib.hid (HO_gd_21.out.chg hb22 (by first | omega | (simp; done) | (simp; omega)))
  clear HO_gd_21
  have HO_y_22 := Lib.hid (HO_y_21.out.chg hb22 (by first | omega | (simp; done) | (simp; omega)))
  clear HO_y_21
  have HO_z_22 := Lib.hid (HO_z_21.out.chg hb22 (by first | omega | (simp; done) | (simp; omega)))
  clear HO_z_21
  have HB_22 := Lib.hid (Chg.below HB_21.out hb22 (by first | omega | (simp; done) | (simp; omega)))
  clear hb22
  clear HO_gt_21
  go_wp2_with fail
  refine (markIntS_any _ _ _ D _ _ _ _ HO_gd_22.out (by omega) (by omega) (by omega)).mono ?_
  rintro e w23 ⟨rfl, ho23, hb23⟩
  have HO_gd_23 := Lib.hid ho23
  clear ho23
  have z23 := hb23.size
  (try simp at z23)
  have HK_q_23 : Hid (Bk w23 (w.heap.size) 24 #[.int .i64 li, .int .i64 by_, .slice A n cap, .int .i64 se, .int .i64 dr]) := Lib.hid (HK_q_22.out.chg hb23 (by first | omega | (simp; done) | (simp; omega)))
  clear HK_q_22
  clear cb_q_0 cb_q_1 cb_q_2 cb_q_3 cb_q_4 zb_q
  have zb_q : w.heap.size < w23.heap.size := HK_q_23.out.lt
  have cb_q_0 : w23.cell? ⟨w.heap.size, 0, none⟩ = some (.int .i64 li) := HK_q_23.out.cell 0
  have cb_q_1 : w23.cell? ⟨w.heap.size, 1, none⟩ = some (.int .i64 by_) := HK_q_23.out.cell 1
  have cb_q_2 : w23.cell? ⟨w.heap.size, 2, none⟩ = some (.slice A n cap) := HK_q_23.out.cell 2
  have cb_q_3 : w23.cell? ⟨w.heap.size, 3, none⟩ = some (.int .i64 se) := HK_q_23.out.cell 3
  have cb_q_4 : w23.cell? ⟨w.heap.size, 4, none⟩ = some (.int .i64 dr) := HK_q_23.out.cell 4
  have HK_w0_23 : Hid (Bk w23 (w5.heap.size) 30 #[.int .i64 xl, .int .i64 xb, .slice A_v M.length cap_v, .int .i64 xs, .int .i64 xd]) := Lib.hid (HK_w0_22.out.chg hb23 (by first | omega | (simp; done) | (simp; omega)))
  clear HK_w0_22
  clear cb_w0_0 cb_w0_1 cb_w0_2 cb_w0_3 cb_w0_4 zb_w0
  have zb_w0 : w5.heap.size < w23.heap.size := HK_w0_23.out.lt
  have cb_w0_0 : w23.cell? ⟨w5.heap.size, 0, none⟩ = some (.int .i64 xl) := HK_w0_23.out.cell 0
  have cb_w0_1 : w23.cell? ⟨w5.heap.size, 1, none⟩ = some (.int .i64 xb) := HK_w0_23.out.cell 1
  have cb_w0_2 : w23.cell? ⟨w5.heap.size, 2, none⟩ = some (.slice A_v M.length cap_v) := HK_w0_23.out.cell 2
  have cb_w0_3 : w23.cell? ⟨w5.heap.size, 3, none⟩ = some (.int .i64 xs) := HK_w0_23.out.cell 3
  have cb_w0_4 : w23.cell? ⟨w5.heap.size, 4, none⟩ = some (.int .i64 xd) := HK_w0_23.out.cell 4
  have HK_x0_23 : Hid (Bk w23 (w6.heap.size) 30 #[.int .i64 li, .int .i64 by_, .slice A_x n cap_x, .int .i64 se, .int .i64 dr]) := Lib.hid (HK_x0_22.out.chg hb23 (by first | omega | (simp; done) | (simp; omega)))
  clear HK_x0_22
  clear cb_x0_0 cb_x0_1 cb_x0_2 cb_x0_3 cb_x0_4 zb_x0
  have zb_x0 : w6.heap.size < w23.heap.size := HK_x0_23.out.lt
  have cb_x0_0 : w23.cell? ⟨w6.heap.size, 0, none⟩ = some (.int .i64 li) := HK_x0_23.out.cell 0
  have cb_x0_1 : w23.cell? ⟨w6.heap.size, 1, none⟩ = some (.int .i64 by_) := HK_x0_23.out.cell 1
  have cb_x0_2 : w23.cell? ⟨w6.heap.size, 2, none⟩ = some (.slice A_x n cap_x) := HK_x0_23.out.cell 2
  have cb_x0_3 : w23.cell? ⟨w6.heap.size, 3, none⟩ = some (.int .i64 se) := HK_x0_23.out.cell 3
  have cb_x0_4 : w23.cell? ⟨w6.heap.size, 4, none⟩ = some (.int .i64 dr) := HK_x0_23.out.cell 4
  have HK_g0_23 : Hid (Bk w23 (w8.heap.size) 30 #[.int .i64 xl, .int .i64 xb, .slice A_g M.length cap_g, .int .i64 xs, .int .i64 xd]) := Lib.hid (HK_g0_22.out.chg hb23 (by first | omega | (simp; done) | (simp; omega)))
  clear HK_g0_22
  clear cb_g0_0 cb_g0_1 cb_g0_2 cb_g0_3 cb_g0_4 zb_g0
  have zb_g0 : w8.heap.size < w23.heap.size := HK_g0_23.out.lt
  have cb_g0_0 : w23.cell? ⟨w8.heap.size, 0, none⟩ = some (.int .i64 xl) := HK_g0_23.out.cell 0
  have cb_g0_1 : w23.cell? ⟨w8.heap.size, 1, none⟩ = some (.int .i64 xb) := HK_g0_23.out.cell 1
  have cb_g0_2 : w23.cell? ⟨w8.heap.size, 2, none⟩ = some (.slice A_g M.length cap_g) := HK_g0_23.out.cell 2
  have cb_g0_3 : w23.cell? ⟨w8.heap.size, 3, none⟩ = some (.int .i64 xs) := HK_g0_23.out.cell 3
  have cb_g0_4 : w23.cell? ⟨w8.heap.size, 4, none⟩ = some (.int .i64 xd) := HK_g0_23.out.cell 4
  have HO_s_23 := Lib.hid (HO_s_22.out.chg hb23 (by first | omega | (simp; done) | (simp; omega)))
  clear HO_s_22
  have HO_t_23 := Lib.hid (HO_t_22.out.chg hb23 (by first | omega | (simp; done) | (simp; omega)))
  clear HO_t_22
  have HO_v_23 := Lib.hid (HO_v_22.out.chg hb23 (by first | omega | (simp; done) | (simp; omega)))
  clear HO_v_22
  have HO_vt_23 := Lib.hid (HO_vt_22.out.chg hb23 (by first | omega | (simp; done) | (simp; omega)))
  clear HO_vt_22
  have HO_vd_23 := Lib.hid (HO_vd_22.out.chg hb23 (by first | omega | (simp; done) | (simp; omega)))
  clear HO_vd_22
  have HO_x_23 := Lib.hid (HO_x_22.out.chg hb23 (by first | omega | (simp; done) | (simp; omega)))
  clear HO_x_22
  have HO_u_23 := Lib.hid (HO_u_22.out.chg hb23 (by first | omega | (simp; done) | (simp; omega)))
  clear HO_u_22
  have HO_g_23 := Lib.hid (HO_g_22.out.chg hb23 (by first | omega | (simp; done) | (simp; omega)))
  clear HO_g_22
  have HO_gt_23 := Lib.hid (HO_gt_22.out.chg hb23 (by first | omega | (simp; done) | (simp; omega)))
  clear HO_gt_22
  have HO_y_23 := Lib.hid (HO_y_22.out.chg hb23 (by first | omega | (simp; done) | (simp; omega)))
  clear HO_y_22
  have HO_z_23 := Lib.hid (HO_z_22.out.chg hb23 (by first | omega | (simp; done) | (simp; omega)))
  clear HO_z_22
  have HB_23 := Lib.hid (Chg.below HB_22.out hb23 (by first | omega | (simp; done) | (simp; omega)))
  clear hb23
  clear HO_gd_22
  go_wp2_with fail
  refine (heldQueue_any _ _ _ _ _ _ _ 1 _ HO_g_23.out.row (by omega) (by omega) (by omega)).mono ?_
  rintro e w24 ⟨rfl, hb24⟩
  have z24 := hb24.size
  (try simp at z24)
  have HK_q_24 : Hid (Bk w24 (w.heap.size) 24 #[.int .i64 li, .int .i64 by_, .slice A n cap, .int .i64 se, .int .i64 dr]) := Lib.hid (HK_q_23.out.old hb24)
  clear HK_q_23
  clear cb_q_0 cb_q_1 cb_q_2 cb_q_3 cb_q_4 zb_q
  have zb_q : w.heap.size < w24.heap.size := HK_q_24.out.lt
  have cb_q_0 : w24.cell? ⟨w.heap.size, 0, none⟩ = some (.int .i64 li) := HK_q_24.out.cell 0
  have cb_q_1 : w24.cell? ⟨w.heap.size, 1, none⟩ = some (.int .i64 by_) := HK_q_24.out.cell 1
  have cb_q_2 : w24.cell? ⟨w.heap.size, 2, none⟩ = some (.slice A n cap) := HK_q_24.out.cell 2
  have cb_q_3 : w24.cell? ⟨w.heap.size, 3, none⟩ = some (.int .i64 se) := HK_q_24.out.cell 3
  have cb_q_4 : w24.cell? ⟨w.heap.size, 4, none⟩ = some (.int .i64 dr) := HK_q_24.out.cell 4
  have HK_w0_24 : Hid (Bk w24 (w5.heap.size) 30 #[.int .i64 xl, .int .i64 xb, .slice A_v M.length cap_v, .int .i64 xs, .int .i64 xd]) := Lib.hid (HK_w0_23.out.old hb24)
  clear HK_w0_23
  clear cb_w0_0 cb_w0_1 cb_w0_2 cb_w0_3 cb_w0_4 zb_w0
  have zb_w0 : w5.heap.size < w24.heap.size := HK_w0_24.out.lt
  have cb_w0_0 : w24.cell? ⟨w5.heap.size, 0, none⟩ = some (.int .i64 xl) := HK_w0_24.out.cell 0
  have cb_w0_1 : w24.cell? ⟨w5.heap.size, 1, none⟩ = some (.int .i64 xb) := HK_w0_24.out.cell 1
  have cb_w0_2 : w24.cell? ⟨w5.heap.size, 2, none⟩ = some (.slice A_v M.length cap_v) := HK_w0_24.out.cell 2
  have cb_w0_3 : w24.cell? ⟨w5.heap.size, 3, none⟩ = some (.int .i64 xs) := HK_w0_24.out.cell 3
  have cb_w0_4 : w24.cell? ⟨w5.heap.size, 4, none⟩ = some (.int .i64 xd) := HK_w0_24.out.cell 4
  have HK_x0_24 : Hid (Bk w24 (w6.heap.size) 30 #[.int .i64 li, .int .i64 by_, .slice A_x n cap_x, .int .i64 se, .int .i64 dr]) := Lib.hid (HK_x0_23.out.old hb24)
  clear HK_x0_23
  clear cb_x0_0 cb_x0_1 cb_x0_2 cb_x0_3 cb_x0_4 zb_x0
  have zb_x0 : w6.heap.size < w24.heap.size := HK_x0_24.out.lt
  have cb_x0_0 : w24.cell? ⟨w6.heap.size, 0, none⟩ = some (.int .i64 li) := HK_x0_24.out.cell 0
  have cb_x0_1 : w24.cell? ⟨w6.heap.size, 1, none⟩ = some (.int .i64 by_) := HK_x0_24.out.cell 1
  have cb_x0_2 : w24.cell? ⟨w6.heap.size, 2, none⟩ = some (.slice A_x n cap_x) := HK_x0_24.out.cell 2
  have cb_x0_3 : w24.cell? ⟨w6.heap.size, 3, none⟩ = some (.int .i64 se) := HK_x0_24.out.cell 3
  have cb_x0_4 : w24.cell? ⟨w6.heap.size, 4, none⟩ = some (.int .i64 dr) := HK_x0_24.out.cell 4
  have HK_g0_24 : Hid (Bk w24 (w8.heap.size) 30 #[.int .i64 xl, .int .i64 xb, .slice A_g M.length cap_g, .int .i64 xs, .int .i64 xd]) := Lib.hid (HK_g0_23.out.old hb24)
  clear HK_g0_23
  clear cb_g0_0 cb_g0_1 cb_g0_2 cb_g0_3 cb_g0_4 zb_g0
  have zb_g0 : w8.heap.size < w24.heap.size := HK_g0_24.out.lt
  have cb_g0_0 : w24.cell? ⟨w8.heap.size, 0, none⟩ = some (.int .i64 xl) := HK_g0_24.out.cell 0
  have cb_g0_1 : w24.cell? ⟨w8.heap.size, 1, none⟩ = some (.int .i64 xb) := HK_g0_24.out.cell 1
  have cb_g0_2 : w24.cell? ⟨w8.heap.size, 2, none⟩ = some (.slice A_g M.length cap_g) := HK_g0_24.out.cell 2
  have cb_g0_3 : w24.cell? ⟨w8.heap.size, 3, none⟩ = some (.int .i64 xs) := HK_g0_24.out.cell 3
  have cb_g0_4 : w24.cell? ⟨w8.heap.size, 4, none⟩ = some (.int .i64 xd) := HK_g0_24.out.cell 4
  have HO_s_24 := Lib.hid (HO_s_23.out.old hb24)
  clear HO_s_23
  have HO_t_24 := Lib.hid (HO_t_23.out.old hb24)
  clear HO_t_23
  have HO_v_24 := Lib.hid (HO_v_23.out.old hb24)
  clear HO_v_23
  have HO_vt_24 := Lib.hid (HO_vt_23.out.old hb24)
  clear HO_vt_23
  have HO_vd_24 := Lib.hid (HO_vd_23.out.old hb24)
  clear HO_vd_23
  have HO_x_24 := Lib.hid (HO_x_23.out.old hb24)
  clear HO_x_23
  have HO_u_24 := Lib.hid (HO_u_23.out.old hb24)
  clear HO_u_23
  have HO_g_24 := Lib.hid (HO_g_23.out.old hb24)
  clear HO_g_23
  have HO_gt_24 := Lib.hid (HO_gt_23.out.old hb24)
  clear HO_gt_23
  have HO_gd_24 := Lib.hid (HO_gd_23.out.old hb24)
  clear HO_gd_23
  have HO_y_24 := Lib.hid (HO_y_23.out.old hb24)
  clear HO_y_23
  have HO_z_24 := Lib.hid (HO_z_23.out.old hb24)
  clear HO_z_23
  have HB_24 := Lib.hid (bt HB_23.out hb24)
  clear hb24
  go_wp2_with fail
  refine (heldIntS_any _ _ _ _ _ HO_gt_24.out.row (by omega) (by omega) (by omega)).mono ?_
  rintro e w25 ⟨rfl, hb25⟩
  have z25 := hb25.size
  (try simp at z25)
  have HK_q_25 : Hid (Bk w25 (w.heap.size) 24 #[.int .i64 li, .int .i64 by_, .slice A n cap, .int .i64 se, .int .i64 dr]) := Lib.hid (HK_q_24.out.old hb25)
  clear HK_q_24
  clear cb_q_0 cb_q_1 cb_q_2 cb_q_3 cb_q_4 zb_q
  have zb_q : w.heap.size < w25.heap.size := HK_q_25.out.lt
  have cb_q_0 : w25.cell? ⟨w.heap.size, 0, none⟩ = some (.int .i64 li) := HK_q_25.out.cell 0
  have cb_q_1 : w25.cell? ⟨w.heap.size, 1, none⟩ = some (.int .i64 by_) := HK_q_25.out.cell 1
  have cb_q_2 : w25.cell? ⟨w.heap.size, 2, none⟩ = some (.slice A n cap) := HK_q_25.out.cell 2
  have cb_q_3 : w25.cell? ⟨w.heap.size, 3, none⟩ = some (.int .i64 se) := HK_q_25.out.cell 3
  have cb_q_4 : w25.cell? ⟨w.heap.size, 4, none⟩ = some (.int .i64 dr) := HK_q_25.out.cell 4
  have HK_w0_25 : Hid (Bk w25 (w5.heap.size) 30 #[.int .i64 xl, .int .i64 xb, .slice A_v M.length cap_v, .int .i64 xs, .int .i64 xd]) := Lib.hid (HK_w0_24.out.old hb25)
  clear HK_w0_24
  clear cb_w0_0 cb_w0_1 cb_w0_2 cb_w0_3 cb_w0_4 zb_w0
  have zb_w0 : w5.heap.size < w25.heap.size := HK_w0_25.out.lt
  have cb_w0_0 : w25.cell? ⟨w5.heap.size, 0, none⟩ = some (.int .i64 xl) := HK_w0_25.out.cell 0
  have cb_w0_1 : w25.cell? ⟨w5.heap.size, 1, none⟩ = some (.int .i64 xb) := HK_w0_25.out.cell 1
  have cb_w0_2 : w25.cell? ⟨w5.heap.size, 2, none⟩ = some (.slice A_v M.length cap_v) := HK_w0_25.out.cell 2
  have cb_w0_3 : w25.cell? ⟨w5.heap.size, 3, none⟩ = some (.int .i64 xs) := HK_w0_25.out.cell 3
  have cb_w0_4 : w25.cell? ⟨w5.heap.size, 4, none⟩ = some (.int .i64 xd) := HK_w0_25.out.cell 4
  have HK_x0_25 : Hid (Bk w25 (w6.heap.size) 30 #[.int .i64 li, .int .i64 by_, .slice A_x n cap_x, .int .i64 se, .int .i64 dr]) := Lib.hid (HK_x0_24.out.old hb25)
  clear HK_x0_24
  clear cb_x0_0 cb_x0_1 cb_x0_2 cb_x0_3 cb_x0_4 zb_x0
  have zb_x0 : w6.heap.size < w25.heap.size := HK_x0_25.out.lt
  have cb_x0_0 : w25.cell? ⟨w6.heap.size, 0, none⟩ = some (.int .i64 li) := HK_x0_25.out.cell 0
  have cb_x0_1 : w25.cell? ⟨w6.heap.size, 1, none⟩ = some (.int .i64 by_) := HK_x0_25.out.cell 1
  have cb_x0_2 : w25.cell? ⟨w6.heap.size, 2, none⟩ = some (.slice A_x n cap_x) := HK_x0_25.out.cell 2
  have cb_x0_3 : w25.cell? ⟨w6.heap.size, 3, none⟩ = some (.int .i64 se) := HK_x0_25.out.cell 3
  have cb_x0_4 : w25.cell? ⟨w6.heap.size, 4, none⟩ = some (.int .i64 dr) := HK_x0_25.out.cell 4
  have HK_g0_25 : Hid (Bk w25 (w8.heap.size) 30 #[.int .i64 xl, .int .i64 xb, .slice A_g M.length cap_g, .int .i64 xs, .int .i64 xd]) := Lib.hid (HK_g0_24.out.old hb25)
  clear HK_g0_24
  clear cb_g0_0 cb_g0_1 cb_g0_2 cb_g0_3 cb_g0_4 zb_g0
  have zb_g0 : w8.heap.size < w25.heap.size := HK_g0_25.out.lt
  have cb_g0_0 : w25.cell? ⟨w8.heap.size, 0, none⟩ = some (.int .i64 xl) := HK_g0_25.out.cell 0
  have cb_g0_1 : w25.cell? ⟨w8.heap.size, 1, none⟩ = some (.int .i64 xb) := HK_g0_25.out.cell 1
  have cb_g0_2 : w25.cell? ⟨w8.heap.size, 2, none⟩ = some (.slice A_g M.length cap_g) := HK_g0_25.out.cell 2
  have cb_g0_3 : w25.cell? ⟨w8.heap.size, 3, none⟩ = some (.int .i64 xs) := HK_g0_25.out.cell 3
  have cb_g0_4 : w25.cell? ⟨w8.heap.size, 4, none⟩ = some (.int .i64 xd) := HK_g0_25.out.cell 4
  have HO_s_25 := Lib.hid (HO_s_24.out.old hb25)
  clear HO_s_24
  have HO_t_25 := Lib.hid (HO_t_24.out.old hb25)
  clear HO_t_24
  have HO_v_25 := Lib.hid (HO_v_24.out.old hb25)
  clear HO_v_24
  have HO_vt_25 := Lib.hid (HO_vt_24.out.old hb25)
  clear HO_vt_24
  have HO_vd_25 := Lib.hid (HO_vd_24.out.old hb25)
  clear HO_vd_24
  have HO_x_25 := Lib.hid (HO_x_24.out.old hb25)
  clear HO_x_24
  have HO_u_25 := Lib.hid (HO_u_24.out.old hb25)
  clear HO_u_24
  have HO_g_25 := Lib.hid (HO_g_24.out.old hb25)
  clear HO_g_24
  have HO_gt_25 := Lib.hid (HO_gt_24.out.old hb25)
  clear HO_gt_24
  have HO_gd_25 := Lib.hid (HO_gd_24.out.old hb25)
  clear HO_gd_24
  have HO_y_25 := Lib.hid (HO_y_24.out.old hb25)
  clear HO_y_24
  have HO_z_25 := Lib.hid (HO_z_24.out.old hb25)
  clear HO_z_24
  have HB_25 := Lib.hid (bt HB_24.out hb25)
  clear hb25
  go_wp2_with fail
  refine (heldIntS_any _ _ _ _ _ HO_gd_25.out.row (by omega) (by omega) (by omega)).mono ?_
  rintro e w26 ⟨rfl, hb26⟩
  have z26 := hb26.size
  (try simp at z26)
  have HK_q_26 : Hid (Bk w26 (w.heap.size) 24 #[.int .i64 li, .int .i64 by_, .slice A n cap, .int .i64 se, .int .i64 dr]) := Lib.hid (HK_q_25.out.old hb26)
  clear HK_q_25
  clear cb_q_0 cb_q_1 cb_q_2 cb_q_3 cb_q_4 zb_q
  have zb_q : w.heap.size < w26.heap.size := HK_q_26.out.lt
  have cb_q_0 : w26.cell? ⟨w.heap.size, 0, none⟩ = some (.int .i64 li) := HK_q_26.out.cell 0
  have cb_q_1 : w26.cell? ⟨w.heap.size, 1, none⟩ = some (.int .i64 by_) := HK_q_26.out.cell 1
  have cb_q_2 : w26.cell? ⟨w.heap.size, 2, none⟩ = some (.slice A n cap) := HK_q_26.out.cell 2
  have cb_q_3 : w26.cell? ⟨w.heap.size, 3, none⟩ = some (.int .i64 se) := HK_q_26.out.cell 3
  have cb_q_4 : w26.cell? ⟨w.heap.size, 4, none⟩ = some (.int .i64 dr) := HK_q_26.out.cell 4
  have HK_w0_26 : Hid (Bk w26 (w5.heap.size) 30 #[.int .i64 xl, .int .i64 xb, .slice A_v M.length cap_v, .int .i64 xs, .int .i64 xd]) := Lib.hid (HK_w0_25.out.old hb26)
  clear HK_w0_25
  clear cb_w0_0 cb_w0_1 cb_w0_2 cb_w0_3 cb_w0_4 zb_w0
  have zb_w0 : w5.heap.size < w26.heap.size := HK_w0_26.out.lt
  have cb_w0_0 : w26.cell? ⟨w5.heap.size, 0, none⟩ = some (.int .i64 xl) := HK_w0_26.out.cell 0
  have cb_w0_1 : w26.cell? ⟨w5.heap.size, 1, none⟩ = some (.int .i64 xb) := HK_w0_26.out.cell 1
  have cb_w0_2 : w26.cell? ⟨w5.heap.size, 2, none⟩ = some (.slice A_v M.length cap_v) := HK_w0_26.out.cell 2
  have cb_w0_3 : w26.cell? ⟨w5.heap.size, 3, none⟩ = some (.int .i64 xs) := HK_w0_26.out.cell 3
  have cb_w0_4 : w26.cell? ⟨w5.heap.size, 4, none⟩ = some (.int .i64 xd) := HK_w0_26.out.cell 4
  have HK_x0_26 : Hid (Bk w26 (w6.heap.size) 30 #[.int .i64 li, .int .i64 by_, .slice A_x n cap_x, .int .i64 se, .int .i64 dr]) := Lib.hid (HK_x0_25.out.old hb26)
  clear HK_x0_25
  clear cb_x0_0 cb_x0_1 cb_x0_2 cb_x0_3 cb_x0_4 zb_x0
  have zb_x0 : w6.heap.size < w26.heap.size := HK_x0_26.out.lt
  have cb_x0_0 : w26.cell? ⟨w6.heap.size, 0, none⟩ = some (.int .i64 li) := HK_x0_26.out.cell 0
  have cb_x0_1 : w26.cell? ⟨w6.heap.size, 1, none⟩ = some (.int .i64 by_) := HK_x0_26.out.cell 1
  have cb_x0_2 : w26.cell? ⟨w6.heap.size, 2, none⟩ = some (.slice A_x n cap_x) := HK_x0_26.out.cell 2
  have cb_x0_3 : w26.cell? ⟨w6.heap.size, 3, none⟩ = some (.int .i64 se) := HK_x0_26.out.cell 3
  have cb_x0_4 : w26.cell? ⟨w6.heap.size, 4, none⟩ = some (.int .i64 dr) := HK_x0_26.out.cell 4
  have HK_g0_26 : Hid (Bk w26 (w8.heap.size) 30 #[.int .i64 xl, .int .i64 xb, .slice A_g M.length cap_g, .int .i64 xs, .int .i64 xd]) := Lib.hid (HK_g0_25.out.old hb26)
  clear HK_g0_25
  clear cb_g0_0 cb_g0_1 cb_g0_2 cb_g0_3 cb_g0_4 zb_g0
  have zb_g0 : w8.heap.size < w26.heap.size := HK_g0_26.out.lt
  have cb_g0_0 : w26.cell? ⟨w8.heap.size, 0, none⟩ = some (.int .i64 xl) := HK_g0_26.out.cell 0
  have cb_g0_1 : w26.cell? ⟨w8.heap.size, 1, none⟩ = some (.int .i64 xb) := HK_g0_26.out.cell 1
  have cb_g0_2 : w26.cell? ⟨w8.heap.size, 2, none⟩ = some (.slice A_g M.length cap_g) := HK_g0_26.out.cell 2
  have cb_g0_3 : w26.cell? ⟨w8.heap.size, 3, none⟩ = some (.int .i64 xs) := HK_g0_26.out.cell 3
  have cb_g0_4 : w26.cell? ⟨w8.heap.size, 4, none⟩ = some (.int .i64 xd) := HK_g0_26.out.cell 4
  have HO_s_26 := Lib.hid (HO_s_25.out.old hb26)
  clear HO_s_25
  have HO_t_26 := Lib.hid (HO_t_25.out.old hb26)
  clear HO_t_25
  have HO_v_26 := Lib.hid (HO_v_25.out.old hb26)
  clear HO_v_25
  have HO_vt_26 := Lib.hid (HO_vt_25.out.old hb26)
  clear HO_vt_25
  have HO_vd_26 := Lib.hid (HO_vd_25.out.old hb26)
  clear HO_vd_25
  have HO_x_26 := Lib.hid (HO_x_25.out.old hb26)
  clear HO_x_25
  have HO_u_26 := Lib.hid (HO_u_25.out.old hb26)
  clear HO_u_25
  have HO_g_26 := Lib.hid (HO_g_25.out.old hb26)
  clear HO_g_25
  have HO_gt_26 := Lib.hid (HO_gt_25.out.old hb26)
  clear HO_gt_25
  have HO_gd_26 := Lib.hid (HO_gd_25.out.old hb26)
  clear HO_gd_25
  have HO_y_26 := Lib.hid (HO_y_25.out.old hb26)
  clear HO_y_25
  have HO_z_26 := Lib.hid (HO_z_25.out.old hb26)
  clear HO_z_25
  have HB_26 := Lib.hid (bt HB_25.out hb26)
  clear hb26
  go_wp2_with fail
  refine (toQueue_any _ _ _ _ _ _ _ L _ HLL.out (HR_a.out.below HB_26.out) (by omega)).mono ?_
  rintro e w27 ⟨A_k, cap_k, rfl, ho_k, hb27⟩
  have HN_k := Lib.hid ho_k.len
  have HO_k_27 := Lib.hid ho_k
  clear ho_k
  have z27 := hb27.size
  (try simp at z27)
  have HK_q_27 : Hid (Bk w27 (w.heap.size) 24 #[.int .i64 li, .int .i64 by_, .slice A n cap, .int .i64 se, .int .i64 dr]) := Lib.hid (HK_q_26.out.old hb27)
  clear HK_q_26
  clear cb_q_0 cb_q_1 cb_q_2 cb_q_3 cb_q_4 zb_q
  have zb_q : w.heap.size < w27.heap.size := HK_q_27.out.lt
  have cb_q_0 : w27.cell? ⟨w.heap.size, 0, none⟩ = some (.int .i64 li) := HK_q_27.out.cell 0
  have cb_q_1 : w27.cell? ⟨w.heap.size, 1, none⟩ = some (.int .i64 by_) := HK_q_27.out.cell 1
  have cb_q_2 : w27.cell? ⟨w.heap.size, 2, none⟩ = some (.slice A n cap) := HK_q_27.out.cell 2
  have cb_q_3 : w27.cell? ⟨w.heap.size, 3, none⟩ = some (.int .i64 se) := HK_q_27.out.cell 3
  have cb_q_4 : w27.cell? ⟨w.heap.size, 4, none⟩ = some (.int .i64 dr) := HK_q_27.out.cell 4
  have HK_w0_27 : Hid (Bk w27 (w5.heap.size) 30 #[.int .i64 xl, .int .i64 xb, .slice A_v M.length cap_v, .int .i64 xs, .int .i64 xd]) := Lib.hid (HK_w0_26.out.old hb27)
  clear HK_w0_26
  clear cb_w0_0 cb_w0_1 cb_w0_2 cb_w0_3 cb_w0_4 zb_w0
  have zb_w0 : w5.heap.size < w27.heap.size := HK_w0_27.out.lt
  have cb_w0_0 : w27.cell? ⟨w5.heap.size, 0, none⟩ = some (.int .i64 xl) := HK_w0_27.out.cell 0
  have cb_w0_1 : w27.cell? ⟨w5.heap.size, 1, none⟩ = some (.int .i64 xb) := HK_w0_27.out.cell 1
  have cb_w0_2 : w27.cell? ⟨w5.heap.size, 2, none⟩ = some (.slice A_v M.length cap_v) := HK_w0_27.out.cell 2
  have cb_w0_3 : w27.cell? ⟨w5.heap.size, 3, none⟩ = some (.int .i64 xs) := HK_w0_27.out.cell 3
  have cb_w0_4 : w27.cell? ⟨w5.heap.size, 4, none⟩ = some (.int .i64 xd) := HK_w0_27.out.cell 4
  have HK_x0_27 : Hid (Bk w27 (w6.heap.size) 30 #[.int .i64 li, .int .i64 by_, .slice A_x n cap_x, .int .i64 se, .int .i64 dr]) := Lib.hid (HK_x0_26.out.old hb27)
  clear HK_x0_26
  clear cb_x0_0 cb_x0_1 cb_x0_2 cb_x0_3 cb_x0_4 zb_x0
  have zb_x0 : w6.heap.size < w27.heap.size := HK_x0_27.out.lt
  have cb_x0_0 : w27.cell? ⟨w6.heap.size, 0, none⟩ = some (.int .i64 li) := HK_x0_27.out.cell 0
  have cb_x0_1 : w27.cell? ⟨w6.heap.size, 1, none⟩ = some (.int .i64 by_) := HK_x0_27.out.cell 1
  have cb_x0_2 : w27.cell? ⟨w6.heap.size, 2, none⟩ = some (.slice A_x n cap_x) := HK_x0_27.out.cell 2
  have cb_x0_3 : w27.cell? ⟨w6.heap.size, 3, none⟩ = some (.int .i64 se) := HK_x0_27.out.cell 3
  have cb_x0_4 : w27.cell? ⟨w6.heap.size, 4, none⟩ = some (.int .i64 dr) := HK_x0_27.out.cell 4
  have HK_g0_27 : Hid (Bk w27 (w8.heap.size) 30 #[.int .i64 xl, .int .i64 xb, .slice A_g M.length cap_g, .int .i64 xs, .int .i64 xd]) := Lib.hid (HK_g0_26.out.old hb27)
  clear HK_g0_26
  clear cb_g0_0 cb_g0_1 cb_g0_2 cb_g0_3 cb_g0_4 zb_g0
  have zb_g0 : w8.heap.size < w27.heap.size := HK_g0_27.out.lt
  have cb_g0_0 : w27.cell? ⟨w8.heap.size, 0, none⟩ = some (.int .i64 xl) := HK_g0_27.out.cell 0
  have cb_g0_1 : w27.cell? ⟨w8.heap.size, 1, none⟩ = some (.int .i64 xb) := HK_g0_27.out.cell 1
  have cb_g0_2 : w27.cell? ⟨w8.heap.size, 2, none⟩ = some (.slice A_g M.length cap_g) := HK_g0_27.out.cell 2
  have cb_g0_3 : w27.cell? ⟨w8.heap.size, 3, none⟩ = some (.int .i64 xs) := HK_g0_27.out.cell 3
  have cb_g0_4 : w27.cell? ⟨w8.heap.size, 4, none⟩ = some (.int .i64 xd) := HK_g0_27.out.cell 4
  have HO_s_27 := Lib.hid (HO_s_26.out.old hb27)
  clear HO_s_26
  have HO_t_27 := Lib.hid (HO_t_26.out.old hb27)
  clear HO_t_26
  have HO_v_27 := Lib.hid (HO_v_26.out.old hb27)
  clear HO_v_26
  have HO_vt_27 := Lib.hid (HO_vt_26.out.old hb27)
  clear HO_vt_26
  have HO_vd_27 := Lib.hid (HO_vd_26.out.old hb27)
  clear HO_vd_26
  have HO_x_27 := Lib.hid (HO_x_26.out.old hb27)
  clear HO_x_26
  have HO_u_27 := Lib.hid (HO_u_26.out.old hb27)
  clear HO_u_26
  have HO_g_27 := Lib.hid (HO_g_26.out.old hb27)
  clear HO_g_26
  have HO_gt_27 := Lib.hid (HO_gt_26.out.old hb27)
  clear HO_gt_26
  have HO_gd_27 := Lib.hid (HO_gd_26.out.old hb27)
  clear HO_gd_26
  have HO_y_27 := Lib.hid (HO_y_26.out.old hb27)
  clear HO_y_26
  have HO_z_27 := Lib.hid (HO_z_26.out.old hb27)
  clear HO_z_26
  have HB_27 := Lib.hid (bt HB_26.out hb27)
  clear hb27
  go_wp2_with fail
  refine (toPacketS_any B m capp (fl P) _ HP.out (HR_p.out.below HB_27.out) (by omega)).mono ?_
  rintro e w28 ⟨A_l, n_l, cap_l, rfl, ho_l, hb28⟩
  have HN_l := Lib.hid ho_l.len
  have HO_l_28 := Lib.hid ho_l
  clear ho_l
  have z28 := hb28.size
  (try simp at z28)
  have HK_q_28 : Hid (Bk w28 (w.heap.size) 24 #[.int .i64 li, .int .i64 by_, .slice A n cap, .int .i64 se, .int .i64 dr]) := Lib.hid (HK_q_27.out.old hb28)
  clear HK_q_27
  clear cb_q_0 cb_q_1 cb_q_2 cb_q_3 cb_q_4 zb_q
  have zb_q : w.heap.size < w28.heap.size := HK_q_28.out.lt
  have cb_q_0 : w28.cell? ⟨w.heap.size, 0, none⟩ = some (.int .i64 li) := HK_q_28.out.cell 0
  have cb_q_1 : w28.cell? ⟨w.heap.size, 1, none⟩ = some (.int .i64 by_) := HK_q_28.out.cell 1
  have cb_q_2 : w28.cell? ⟨w.heap.size, 2, none⟩ = some (.slice A n cap) := HK_q_28.out.cell 2
  have cb_q_3 : w28.cell? ⟨w.heap.size, 3, none⟩ = some (.int .i64 se) := HK_q_28.out.cell 3
  have cb_q_4 : w28.cell? ⟨w.heap.size, 4, none⟩ = some (.int .i64 dr) := HK_q_28.out.cell 4
  have HK_w0_28 : Hid (Bk w28 (w5.heap.size) 30 #[.int .i64 xl, .int .i64 xb, .slice A_v M.length cap_v, .int .i64 xs, .int .i64 xd]) := Lib.hid (HK_w0_27.out.old hb28)
  clear HK_w0_27
  clear cb_w0_0 cb_w0_1 cb_w0_2 cb_w0_3 cb_w0_4 zb_w0
  have zb_w0 : w5.heap.size < w28.heap.size := HK_w0_28.out.lt
  have cb_w0_0 : w28.cell? ⟨w5.heap.size, 0, none⟩ = some (.int .i64 xl) := HK_w0_28.out.cell 0
  have cb_w0_1 : w28.cell? ⟨w5.heap.size, 1, none⟩ = some (.int .i64 xb) := HK_w0_28.out.cell 1
  have cb_w0_2 : w28.cell? ⟨w5.heap.size, 2, none⟩ = some (.slice A_v M.length cap_v) := HK_w0_28.out.cell 2
  have cb_w0_3 : w28.cell? ⟨w5.heap.size, 3, none⟩ = some (.int .i64 xs) := HK_w0_28.out.cell 3
  have cb_w0_4 : w28.cell? ⟨w5.heap.size, 4, none⟩ = some (.int .i64 xd) := HK_w0_28.out.cell 4
  have HK_x0_28 : Hid (Bk w28 (w6.heap.size) 30 #[.int .i64 li, .int .i64 by_, .slice A_x n cap_x, .int .i64 se, .int .i64 dr]) := Lib.hid (HK_x0_27.out.old hb28)
  clear HK_x0_27
  clear cb_x0_0 cb_x0_1 cb_x0_2 cb_x0_3 cb_x0_4 zb_x0
  have zb_x0 : w6.heap.size < w28.heap.size := HK_x0_28.out.lt
  have cb_x0_0 : w28.cell? ⟨w6.heap.size, 0, none⟩ = some (.int .i64 li) := HK_x0_28.out.cell 0
  have cb_x0_1 : w28.cell? ⟨w6.heap.size, 1, none⟩ = some (.int .i64 by_) := HK_x0_28.out.cell 1
  have cb_x0_2 : w28.cell? ⟨w6.heap.size, 2, none⟩ = some (.slice A_x n cap_x) := HK_x0_28.out.cell 2
  have cb_x0_3 : w28.cell? ⟨w6.heap.size, 3, none⟩ = some (.int .i64 se) := HK_x0_28.out.cell 3
  have cb_x0_4 : w28.cell? ⟨w6.heap.size, 4, none⟩ = some (.int .i64 dr) := HK_x0_28.out.cell 4
  have HK_g0_28 : Hid (Bk w28 (w8.heap.size) 30 #[.int .i64 xl, .int .i64 xb, .slice A_g M.length cap_g, .int .i64 xs, .int .i64 xd]) := Lib.hid (HK_g0_27.out.old hb28)
  clear HK_g0_27
  clear cb_g0_0 cb_g0_1 cb_g0_2 cb_g0_3 cb_g0_4 zb_g0
  have zb_g0 : w8.heap.size < w28.heap.size := HK_g0_28.out.lt
  have cb_g0_0 : w28.cell? ⟨w8.heap.size, 0, none⟩ = some (.int .i64 xl) := HK_g0_28.out.cell 0
  have cb_g0_1 : w28.cell? ⟨w8.heap.size, 1, none⟩ = some (.int .i64 xb) := HK_g0_28.out.cell 1
  have cb_g0_2 : w28.cell? ⟨w8.heap.size, 2, none⟩ = some (.slice A_g M.length cap_g) := HK_g0_28.out.cell 2
  have cb_g0_3 : w28.cell? ⟨w8.heap.size, 3, none⟩ = some (.int .i64 xs) := HK_g0_28.out.cell 3
  have cb_g0_4 : w28.cell? ⟨w8.heap.size, 4, none⟩ = some (.int .i64 xd) := HK_g0_28.out.cell 4
  have HO_s_28 := Lib.hid (HO_s_27.out.old hb28)
  clear HO_s_27
  have HO_t_28 := Lib.hid (HO_t_27.out.old hb28)
  clear HO_t_27
  have HO_v_28 := Lib.hid (HO_v_27.out.old hb28)
  clear HO_v_27
  have HO_vt_28 := Lib.hid (HO_vt_27.out.old hb28)
  clear HO_vt_27
  have HO_vd_28 := Lib.hid (HO_vd_27.out.old hb28)
  clear HO_vd_27
  have HO_x_28 := Lib.hid (HO_x_27.out.old hb28)
  clear HO_x_27
  have HO_u_28 := Lib.hid (HO_u_27.out.old hb28)
  clear HO_u_27
  have HO_g_28 := Lib.hid (HO_g_27.out.old hb28)
  clear HO_g_27
  have HO_gt_28 := Lib.hid (HO_gt_27.out.old hb28)
  clear HO_gt_27
  have HO_gd_28 := Lib.hid (HO_gd_27.out.old hb28)
  clear HO_gd_27
  have HO_y_28 := Lib.hid (HO_y_27.out.old hb28)
  clear HO_y_27
  have HO_z_28 := Lib.hid (HO_z_27.out.old hb28)
  clear HO_z_27
  have HO_k_28 := Lib.hid (HO_k_27.out.old hb28)
  clear HO_k_27
  have HB_28 := Lib.hid (bt HB_27.out hb28)
  clear hb28
  obtain rfl : m = n_l := by have := HN_l.out; have := HP.out; omega
  go_wp2_with fail
  refine (HIM.out _ _ _ HO_k_28.out.row HO_k_28.out.cap (HO_k_28.out).none_cap _ _ HO_l_28.out.row HO_l_28.out.cap (HO_l_28.out).none_cap).mono ?_
  rintro e w29 ⟨A_h, cap_h, A_ht, n_ht, cap_ht, A_hd, n_hd, cap_hd, a1_h, b1_h, a2_h, b2_h, a3_h, b3_h, rfl, ho_h, ho_ht, ho_hd, ⟨t1_h, t2_h, t3_h, t4_h, t5_h, t6_h⟩, ⟨s1_h, s2_h, s3_h⟩, hb29⟩
  have HN_h := Lib.hid ho_h.len
  have HO_h_29 := Lib.hid ho_h
  clear ho_h
  have HN_ht := Lib.hid ho_ht.len
  have HO_ht_29 := Lib.hid ho_ht
  clear ho_ht
  have HN_hd := Lib.hid ho_hd.len
  have HO_hd_29 := Lib.hid ho_hd
  clear ho_hd
  have z29 := hb29.size
  (try simp at z29)
  have HK_q_29 : Hid (Bk w29 (w.heap.size) 24 #[.int .i64 li, .int .i64 by_, .slice A n cap, .int .i64 se, .int .i64 dr]) := Lib.hid (HK_q_28.out.old hb29)
  clear HK_q_28
  clear cb_q_0 cb_q_1 cb_q_2 cb_q_3 cb_q_4 zb_q
  have zb_q : w.heap.size < w29.heap.size := HK_q_29.out.lt
  have cb_q_0 : w29.cell? ⟨w.heap.size, 0, none⟩ = some (.int .i64 li) := HK_q_29.out.cell 0
  have cb_q_1 : w29.cell? ⟨w.heap.size, 1, none⟩ = some (.int .i64 by_) := HK_q_29.out.cell 1
  have cb_q_2 : w29.cell? ⟨w.heap.size, 2, none⟩ = some (.slice A n cap) := HK_q_29.out.cell 2
  have cb_q_3 : w29.cell? ⟨w.heap.size, 3, none⟩ = some (.int .i64 se) := HK_q_29.out.cell 3
  have cb_q_4 : w29.cell? ⟨w.heap.size, 4, none⟩ = some (.int .i64 dr) := HK_q_29.out.cell 4
  have HK_w0_29 : Hid (Bk w29 (w5.heap.size) 30 #[.int .i64 xl, .int .i64 xb, .slice A_v M.length cap_v, .int .i64 xs, .int .i64 xd]) := Lib.hid (HK_w0_28.out.old hb29)
  clear HK_w0_28
  clear cb_w0_0 cb_w0_1 cb_w0_2 cb_w0_3 cb_w0_4 zb_w0
  have zb_w0 : w5.heap.size < w29.heap.size := HK_w0_29.out.lt
  have cb_w0_0 : w29.cell? ⟨w5.heap.size, 0, none⟩ = some (.int .i64 xl) := HK_w0_29.out.cell 0
  have cb_w0_1 : w29.cell? ⟨w5.heap.size, 1, none⟩ = some (.int .i64 xb) := HK_w0_29.out.cell 1
  have cb_w0_2 : w29.cell? ⟨w5.heap.size, 2, none⟩ = some (.slice A_v M.length cap_v) := HK_w0_29.out.cell 2
  have cb_w0_3 : w29.cell? ⟨w5.heap.size, 3, none⟩ = some (.int .i64 xs) := HK_w0_29.out.cell 3
  have cb_w0_4 : w29.cell? ⟨w5.heap.size, 4, none⟩ = some (.int .i64 xd) := HK_w0_29.out.cell 4
  have HK_x0_29 : Hid (Bk w29 (w6.heap.size) 30 #[.int .i64 li, .int .i64 by_, .slice A_x n cap_x, .int .i64 se, .int .i64 dr]) := Lib.hid (HK_x0_28.out.old hb29)
  clear HK_x0_28
  clear cb_x0_0 cb_x0_1 cb_x0_2 cb_x0_3 cb_x0_4 zb_x0
  have zb_x0 : w6.heap.size < w29.heap.size := HK_x0_29.out.lt
  have cb_x0_0 : w29.cell? ⟨w6.heap.size, 0, none⟩ = some (.int .i64 li) := HK_x0_29.out.cell 0
  have cb_x0_1 : w29.cell? ⟨w6.heap.size, 1, none⟩ = some (.int .i64 by_) := HK_x0_29.out.cell 1
  have cb_x0_2 : w29.cell? ⟨w6.heap.size, 2, none⟩ = some (.slice A_x n cap_x) := HK_x0_29.out.cell 2
  have cb_x0_3 : w29.cell? ⟨w6.heap.size, 3, none⟩ = some (.int .i64 se) := HK_x0_29.out.cell 3
  have cb_x0_4 : w29.cell? ⟨w6.heap.size, 4, none⟩ = some (.int .i64 dr) := HK_x0_29.out.cell 4
  have HK_g0_29 : Hid (Bk w29 (w8.heap.size) 30 #[.int .i64 xl, .int .i64 xb, .slice A_g M.length cap_g, .int .i64 xs, .int .i64 xd]) := Lib.hid (HK_g0_28.out.old hb29)
  clear HK_g0_28
  clear cb_g0_0 cb_g0_1 cb_g0_2 cb_g0_3 cb_g0_4 zb_g0
  have zb_g0 : w8.heap.size < w29.heap.size := HK_g0_29.out.lt
  have cb_g0_0 : w29.cell? ⟨w8.heap.size, 0, none⟩ = some (.int .i64 xl) := HK_g0_29.out.cell 0
  have cb_g0_1 : w29.cell? ⟨w8.heap.size, 1, none⟩ = some (.int .i64 xb) := HK_g0_29.out.cell 1
  have cb_g0_2 : w29.cell? ⟨w8.heap.size, 2, none⟩ = some (.slice A_g M.length cap_g) := HK_g0_29.out.cell 2
  have cb_g0_3 : w29.cell? ⟨w8.heap.size, 3, none⟩ = some (.int .i64 xs) := HK_g0_29.out.cell 3
  have cb_g0_4 : w29.cell? ⟨w8.heap.size, 4, none⟩ = some (.int .i64 xd) := HK_g0_29.out.cell 4
  have HO_s_29 := Lib.hid (HO_s_28.out.old hb29)
  clear HO_s_28
  have HO_t_29 := Lib.hid (HO_t_28.out.old hb29)
  clear HO_t_28
  have HO_v_29 := Lib.hid (HO_v_28.out.old hb29)
  clear HO_v_28
  have HO_vt_29 := Lib.hid (HO_vt_28.out.old hb29)
  clear HO_vt_28
  have HO_vd_29 := Lib.hid (HO_vd_28.out.old hb29)
  clear HO_vd_28
  have HO_x_29 := Lib.hid (HO_x_28.out.old hb29)
  clear HO_x_28
  have HO_u_29 := Lib.hid (HO_u_28.out.old hb29)
  clear HO_u_28
  have HO_g_29 := Lib.hid (HO_g_28.out.old hb29)
  clear HO_g_28
  have HO_gt_29 := Lib.hid (HO_gt_28.out.old hb29)
  clear HO_gt_28
  have HO_gd_29 := Lib.hid (HO_gd_28.out.old hb29)
  clear HO_gd_28
  have HO_y_29 := Lib.hid (HO_y_28.out.old hb29)
  clear HO_y_28
  have HO_z_29 := Lib.hid (HO_z_28.out.old hb29)
  clear HO_z_28
  have HO_k_29 := Lib.hid (HO_k_28.out.old hb29)
  clear HO_k_28
  have HO_l_29 := Lib.hid (HO_l_28.out.old hb29)
  clear HO_l_28
  have HB_29 := Lib.hid (bt HB_28.out hb29)
  clear hb29
  (try simp at t1_h); (try simp at t3_h); (try simp at t5_h)
  obtain rfl : n_ht = n_gt := by have := HN_ht.out; have := HT.out; omega
  obtain rfl : n_hd = n_gd := by have := HN_hd.out; have := HD.out; omega
  go_wp2_with fail
  refine (eqQueue_any _ _ _ _ _ _ _ _ _ (fl M) _ HMM.out (HO_h_29.out.alloc _).row (HO_v_29.out.alloc _).row (by omega)).mono ?_
  rintro e w30 ⟨rfl, hb30⟩
  have z30 := hb30.size
  (try simp at z30)
  have HK_q_30 : Hid (Bk w30 (w.heap.size) 24 #[.int .i64 li, .int .i64 by_, .slice A n cap, .int .i64 se, .int .i64 dr]) := Lib.hid ((HK_q_29.out.alloc _).old hb30)
  clear HK_q_29
  clear cb_q_0 cb_q_1 cb_q_2 cb_q_3 cb_q_4 zb_q
  have zb_q : w.heap.size < w30.heap.size := HK_q_30.out.lt
  have cb_q_0 : w30.cell? ⟨w.heap.size, 0, none⟩ = some (.int .i64 li) := HK_q_30.out.cell 0
  have cb_q_1 : w30.cell? ⟨w.heap.size, 1, none⟩ = some (.int .i64 by_) := HK_q_30.out.cell 1
  have cb_q_2 : w30.cell? ⟨w.heap.size, 2, none⟩ = some (.slice A n cap) := HK_q_30.out.cell 2
  have cb_q_3 : w30.cell? ⟨w.heap.size, 3, none⟩ = some (.int .i64 se) := HK_q_30.out.cell 3
  have cb_q_4 : w30.cell? ⟨w.heap.size, 4, none⟩ = some (.int .i64 dr) := HK_q_30.out.cell 4
  have HK_w0_30 : Hid (Bk w30 (w5.heap.size) 30 #[.int .i64 xl, .int .i64 xb, .slice A_v M.length cap_v, .int .i64 xs, .int .i64 xd]) := Lib.hid ((HK_w0_29.out.alloc _).old hb30)
  clear HK_w0_29
  clear cb_w0_0 cb_w0_1 cb_w0_2 cb_w0_3 cb_w0_4 zb_w0
  have zb_w0 : w5.heap.size < w30.heap.size := HK_w0_30.out.lt
  have cb_w0_0 : w30.cell? ⟨w5.heap.size, 0, none⟩ = some (.int .i64 xl) := HK_w0_30.out.cell 0
  have cb_w0_1 : w30.cell? ⟨w5.heap.size, 1, none⟩ = some (.int .i64 xb) := HK_w0_30.out.cell 1
  have cb_w0_2 : w30.cell? ⟨w5.heap.size, 2, none⟩ = some (.slice A_v M.length cap_v) := HK_w0_30.out.cell 2
  have cb_w0_3 : w30.cell? ⟨w5.heap.size, 3, none⟩ = some (.int .i64 xs) := HK_w0_30.out.cell 3
  have cb_w0_4 : w30.cell? ⟨w5.heap.size, 4, none⟩ = some (.int .i64 xd) := HK_w0_30.out.cell 4
  have HK_x0_30 : Hid (Bk w30 (w6.heap.size) 30 #[.int .i64 li, .int .i64 by_, .slice A_x n cap_x, .int .i64 se, .int .i64 dr]) := Lib.hid ((HK_x0_29.out.alloc _).old hb30)
  clear HK_x0_29
  clear cb_x0_0 cb_x0_1 cb_x0_2 cb_x0_3 cb_x0_4 zb_x0
  have zb_x0 : w6.heap.size < w30.heap.size := HK_x0_30.out.lt
  have cb_x0_0 : w30.cell? ⟨w6.heap.size, 0, none⟩ = some (.int .i64 li) := HK_x0_30.out.cell 0
  have cb_x0_1 : w30.cell? ⟨w6.heap.size, 1, none⟩ = some (.int .i64 by_) := HK_x0_30.out.cell 1
  have cb_x0_2 : w30.cell? ⟨w6.heap.size, 2, none⟩ = some (.slice A_x n cap_x) := HK_x0_30.out.cell 2
  have cb_x0_3 : w30.cell? ⟨w6.heap.size, 3, none⟩ = some (.int .i64 se) := HK_x0_30.out.cell 3
  have cb_x0_4 : w30.cell? ⟨w6.heap.size, 4, none⟩ = some (.int .i64 dr) := HK_x0_30.out.cell 4
  have HK_g0_30 : Hid (Bk w30 (w8.heap.size) 30 #[.int .i64 xl, .int .i64 xb, .slice A_g M.length cap_g, .int .i64 xs, .int .i64 xd]) := Lib.hid ((HK_g0_29.out.alloc _).old hb30)
  clear HK_g0_29
  clear cb_g0_0 cb_g0_1 cb_g0_2 cb_g0_3 cb_g0_4 zb_g0
  have zb_g0 : w8.heap.size < w30.heap.size := HK_g0_30.out.lt
  have cb_g0_0 : w30.cell? ⟨w8.heap.size, 0, none⟩ = some (.int .i64 xl) := HK_g0_30.out.cell 0
  have cb_g0_1 : w30.cell? ⟨w8.heap.size, 1, none⟩ = some (.int .i64 xb) := HK_g0_30.out.cell 1
  have cb_g0_2 : w30.cell? ⟨w8.heap.size, 2, none⟩ = some (.slice A_g M.length cap_g) := HK_g0_30.out.cell 2
  have cb_g0_3 : w30.cell? ⟨w8.heap.size, 3, none⟩ = some (.int .i64 xs) := HK_g0_30.out.cell 3
  have cb_g0_4 : w30.cell? ⟨w8.heap.size, 4, none⟩ = some (.int .i64 xd) := HK_g0_30.out.cell 4
  have HK_h0_30 : Hid (Bk w30 (w29.heap.size) 30 #[.int .i64 xl, .int .i64 xb, .slice A_h M.length cap_h, .int .i64 xs, .int .i64 xd]) := Lib.hid ((Bk.new_ (by simp) : Bk _ (w29.heap.size) 30 #[.int .i64 xl, .int .i64 xb, .slice A_h M.length cap_h, .int .i64 xs, .int .i64 xd]).old hb30)
  have zb_h0 : w29.heap.size < w30.heap.size := HK_h0_30.out.lt
  have cb_h0_0 : w30.cell? ⟨w29.heap.size, 0, none⟩ = some (.int .i64 xl) := HK_h0_30.out.cell 0
  have cb_h0_1 : w30.cell? ⟨w29.heap.size, 1, none⟩ = some (.int .i64 xb) := HK_h0_30.out.cell 1
  have cb_h0_2 : w30.cell? ⟨w29.heap.size, 2, none⟩ = some (.slice A_h M.length cap_h) := HK_h0_30.out.cell 2
  have cb_h0_3 : w30.cell? ⟨w29.heap.size, 3, none⟩ = some (.int .i64 xs) := HK_h0_30.out.cell 3
  have cb_h0_4 : w30.cell? ⟨w29.heap.size, 4, none⟩ = some (.int .i64 xd) := HK_h0_30.out.cell 4
  have HO_s_30 := Lib.hid ((HO_s_29.out.alloc _).old hb30)
  clear HO_s_29
  have HO_t_30 := Lib.hid ((HO_t_29.out.alloc _).old hb30)
  clear HO_t_29
  have HO_v_30 := Lib.hid ((HO_v_29.out.alloc _).old hb30)
  clear HO_v_29
  have HO_vt_30 := Lib.hid ((HO_vt_29.out.alloc _).old hb30)
  clear HO_vt_29
  have HO_vd_30 := Lib.hid ((HO_vd_29.out.alloc _).old hb30)
  clear HO_vd_29
  have HO_x_30 := Lib.hid ((HO_x_29.out.alloc _).old hb30)
  clear HO_x_29
  have HO_u_30 := Lib.hid ((HO_u_29.out.alloc _).old hb30)
  clear HO_u_29
  have HO_g_30 := Lib.hid ((HO_g_29.out.alloc _).old hb30)
  clear HO_g_29
  have HO_gt_30 := Lib.hid ((HO_gt_29.out.alloc _).old hb30)
  clear HO_gt_29
  have HO_gd_30 := Lib.hid ((HO_gd_29.out.alloc _).old hb30)
  clear HO_gd_29
  have HO_y_30 := Lib.hid ((HO_y_29.out.alloc _).old hb30)
  clear HO_y_29
  have HO_z_30 := Lib.hid ((HO_z_29.out.alloc _).old hb30)
  clear HO_z_29
  have HO_k_30 := Lib.hid ((HO_k_29.out.alloc _).old hb30)
  clear HO_k_29
  have HO_l_30 := Lib.hid ((HO_l_29.out.alloc _).old hb30)
  clear HO_l_29
  have HO_h_30 := Lib.hid ((HO_h_29.out.alloc _).old hb30)
  clear HO_h_29
  have HO_ht_30 := Lib.hid ((HO_ht_29.out.alloc _).old hb30)
  clear HO_ht_29
  have HO_hd_30 := Lib.hid ((HO_hd_29.out.alloc _).old hb30)
  clear HO_hd_29
  have HB_30 := Lib.hid (bt (ba HB_29.out _) hb30)
  clear hb30
  go_wp2_with fail
  refine (eqIntS_any _ _ _ _ _ T _ HT.out (by omega) HO_ht_30.out.row HO_vt_30.out.row).mono ?_
  rintro e w31 ⟨rfl, hb31⟩
  have z31 := hb31.size
  (try simp at z31)
  have HK_q_31 : Hid (Bk w31 (w.heap.size) 24 #[.int .i64 li, .int .i64 by_, .slice A n cap, .int .i64 se, .int .i64 dr]) := Lib.hid (HK_q_30.out.old hb31)
  clear HK_q_30
  clear cb_q_0 cb_q_1 cb_q_2 cb_q_3 cb_q_4 zb_q
  have zb_q : w.heap.size < w31.heap.size := HK_q_31.out.lt
  have cb_q_0 : w31.cell? ⟨w.heap.size, 0, none⟩ = some (.int .i64 li) := HK_q_31.out.cell 0
  have cb_q_1 : w31.cell? ⟨w.heap.size, 1, none⟩ = some (.int .i64 by_) := HK_q_31.out.cell 1
  have cb_q_2 : w31.cell? ⟨w.heap.size, 2, none⟩ = some (.slice A n cap) := HK_q_31.out.cell 2
  have cb_q_3 : w31.cell? ⟨w.heap.size, 3, none⟩ = some (.int .i64 se) := HK_q_31.out.cell 3
  have cb_q_4 : w31.cell? ⟨w.heap.size, 4, none⟩ = some (.int .i64 dr) := HK_q_31.out.cell 4
  have HK_w0_31 : Hid (Bk w31 (w5.heap.size) 30 #[.int .i64 xl, .int .i64 xb, .slice A_v M.length cap_v, .int .i64 xs, .int .i64 xd]) := Lib.hid (HK_w0_30.out.old hb31)
  clear HK_w0_30
  clear cb_w0_0 cb_w0_1 cb_w0_2 cb_w0_3 cb_w0_4 zb_w0
  have zb_w0 : w5.heap.size < w31.heap.size := HK_w0_31.out.lt
  have cb_w0_0 : w31.cell? ⟨w5.heap.size, 0, none⟩ = some (.int .i64 xl) := HK_w0_31.out.cell 0
  have cb_w0_1 : w31.cell? ⟨w5.heap.size, 1, none⟩ = some (.int .i64 xb) := HK_w0_31.out.cell 1
  have cb_w0_2 : w31.cell? ⟨w5.heap.size, 2, none⟩ = some (.slice A_v M.length cap_v) := HK_w0_31.out.cell 2
  have cb_w0_3 : w31.cell? ⟨w5.heap.size, 3, none⟩ = some (.int .i64 xs) := HK_w0_31.out.cell 3
  have cb_w0_4 : w31.cell? ⟨w5.heap.size, 4, none⟩ = some (.int .i64 xd) := HK_w0_31.out.cell 4
  have HK_x0_31 : Hid (Bk w31 (w6.heap.size) 30 #[.int .i64 li, .int .i64 by_, .slice A_x n cap_x, .int .i64 se, .int .i64 dr]) := Lib.hid (HK_x0_30.out.old hb31)
  clear HK_x0_30
  clear cb_x0_0 cb_x0_1 cb_x0_2 cb_x0_3 cb_x0_4 zb_x0
  have zb_x0 : w6.heap.size < w31.heap.size := HK_x0_31.out.lt
  have cb_x0_0 : w31.cell? ⟨w6.heap.size, 0, none⟩ = some (.int .i64 li) := HK_x0_31.out.cell 0
  have cb_x0_1 : w31.cell? ⟨w6.heap.size, 1, none⟩ = some (.int .i64 by_) := HK_x0_31.out.cell 1
  have cb_x0_2 : w31.cell? ⟨w6.heap.size, 2, none⟩ = some (.slice A_x n cap_x) := HK_x0_31.out.cell 2
  have cb_x0_3 : w31.cell? ⟨w6.heap.size, 3, none⟩ = some (.int .i64 se) := HK_x0_31.out.cell 3
  have cb_x0_4 : w31.cell? ⟨w6.heap.size, 4, none⟩ = some (.int .i64 dr) := HK_x0_31.out.cell 4
  have HK_g0_31 : Hid (Bk w31 (w8.heap.size) 30 #[.int .i64 xl, .int .i64 xb, .slice A_g M.length cap_g, .int .i64 xs, .int .i64 xd]) := Lib.hid (HK_g0_30.out.old hb31)
  clear HK_g0_30
  clear cb_g0_0 cb_g0_1 cb_g0_2 cb_g0_3 cb_g0_4 zb_g0
  have zb_g0 : w8.heap.size < w31.heap.size := HK_g0_31.out.lt
  have cb_g0_0 : w31.cell? ⟨w8.heap.size, 0, none⟩ = some (.int .i64 xl) := HK_g0_31.out.cell 0
  have cb_g0_1 : w31.cell? ⟨w8.heap.size, 1, none⟩ = some (.int .i64 xb) := HK_g0_31.out.cell 1
  have cb_g0_2 : w31.cell? ⟨w8.heap.size, 2, none⟩ = some (.slice A_g M.length cap_g) := HK_g0_31.out.cell 2
  have cb_g0_3 : w31.cell? ⟨w8.heap.size, 3, none⟩ = some (.int .i64 xs) := HK_g0_31.out.cell 3
  have cb_g0_4 : w31.cell? ⟨w8.heap.size, 4, none⟩ = some (.int .i64 xd) := HK_g0_31.out.cell 4
  have HK_h0_31 : Hid (Bk w31 (w29.heap.size) 30 #[.int .i64 xl, .int .i64 xb, .slice A_h M.length cap_h, .int .i64 xs, .int .i64 xd]) := Lib.hid (HK_h0_30.out.old hb31)
  clear HK_h0_30
  clear cb_h0_0 cb_h0_1 cb_h0_2 cb_h0_3 cb_h0_4 zb_h0
  have zb_h0 : w29.heap.size < w31.heap.size := HK_h0_31.out.lt
  have cb_h0_0 : w31.cell? ⟨w29.heap.size, 0, none⟩ = some (.int .i64 xl) := HK_h0_31.out.cell 0
  have cb_h0_1 : w31.cell? ⟨w29.heap.size, 1, none⟩ = some (.int .i64 xb) := HK_h0_31.out.cell 1
  have cb_h0_2 : w31.cell? ⟨w29.heap.size, 2, none⟩ = some (.slice A_h M.length cap_h) := HK_h0_31.out.cell 2
  have cb_h0_3 : w31.cell? ⟨w29.heap.size, 3, none⟩ = some (.int .i64 xs) := HK_h0_31.out.cell 3
  have cb_h0_4 : w31.cell? ⟨w29.heap.size, 4, none⟩ = some (.int .i64 xd) := HK_h0_31.out.cell 4
  have HO_s_31 := Lib.hid (HO_s_30.out.old hb31)
  clear HO_s_30
  have HO_t_31 := Lib.hid (HO_t_30.out.old hb31)
  clear HO_t_30
  have HO_v_31 := Lib.hid (HO_v_30.out.old hb31)
  clear HO_v_30
  have HO_vt_31 := Lib.hid (HO_vt_30.out.old hb31)
  clear HO_vt_30
  have HO_vd_31 := Lib.hid (HO_vd_30.out.old hb31)
  clear HO_vd_30
  have HO_x_31 := Lib.hid (HO_x_30.out.old hb31)
  clear HO_x_30
  have HO_u_31 := Lib.hid (HO_u_30.out.old hb31)
  clear HO_u_30
  have HO_g_31 := Lib.hid (HO_g_30.out.old hb31)
  clear HO_g_30
  have HO_gt_31 := Lib.hid (HO_gt_30.out.old hb31)
  clear HO_gt_30
  have HO_gd_31 := Lib.hid (HO_gd_30.out.old hb31)
  clear HO_gd_30
  have HO_y_31 := Lib.hid (HO_y_30.out.old hb31)
  clear HO_y_30
  have HO_z_31 := Lib.hid (HO_z_30.out.old hb31)
  clear HO_z_30
  have HO_k_31 := Lib.hid (HO_k_30.out.old hb31)
  clear HO_k_30
  have HO_l_31 := Lib.hid (HO_l_30.out.old hb31)
  clear HO_l_30
  have HO_h_31 := Lib.hid (HO_h_30.out.old hb31)
  clear HO_h_30
  have HO_ht_31 := Lib.hid (HO_ht_30.out.old hb31)
  clear HO_ht_30
  have HO_hd_31 := Lib.hid (HO_hd_30.out.old hb31)
  clear HO_hd_30
  have HB_31 := Lib.hid (bt HB_30.out hb31)
  clear hb31
  go_wp2_with fail
  refine (eqIntS_any _ _ _ _ _ D _ HD.out (by omega) HO_hd_31.out.row HO_vd_31.out.row).mono ?_
  rintro e w32 ⟨rfl, hb32⟩
  have z32 := hb32.size
  (try simp at z32)
  have HK_q_32 : Hid (Bk w32 (w.heap.size) 24 #[.int .i64 li, .int .i64 by_, .slice A n cap, .int .i64 se, .int .i64 dr]) := Lib.hid (HK_q_31.out.old hb32)
  clear HK_q_31
  clear cb_q_0 cb_q_1 cb_q_2 cb_q_3 cb_q_4 zb_q
  have zb_q : w.heap.size < w32.heap.size := HK_q_32.out.lt
  have cb_q_0 : w32.cell? ⟨w.heap.size, 0, none⟩ = some (.int .i64 li) := HK_q_32.out.cell 0
  have cb_q_1 : w32.cell? ⟨w.heap.size, 1, none⟩ = some (.int .i64 by_) := HK_q_32.out.cell 1
  have cb_q_2 : w32.cell? ⟨w.heap.size, 2, none⟩ = some (.slice A n cap) := HK_q_32.out.cell 2
  have cb_q_3 : w32.cell? ⟨w.heap.size, 3, none⟩ = some (.int .i64 se) := HK_q_32.out.cell 3
  have cb_q_4 : w32.cell? ⟨w.heap.size, 4, none⟩ = some (.int .i64 dr) := HK_q_32.out.cell 4
  have HK_w0_32 : Hid (Bk w32 (w5.heap.size) 30 #[.int .i64 xl, .int .i64 xb, .slice A_v M.length cap_v, .int .i64 xs, .int .i64 xd]) := Lib.hid (HK_w0_31.out.old hb32)
  clear HK_w0_31
  clear cb_w0_0 cb_w0_1 cb_w0_2 cb_w0_3 cb_w0_4 zb_w0
  have zb_w0 : w5.heap.size < w32.heap.size := HK_w0_32.out.lt
  have cb_w0_0 : w32.cell? ⟨w5.heap.size, 0, none⟩ = some (.int .i64 xl) := HK_w0_32.out.cell 0
  have cb_w0_1 : w32.cell? ⟨w5.heap.size, 1, none⟩ = some (.int .i64 xb) := HK_w0_32.out.cell 1
  have cb_w0_2 : w32.cell? ⟨w5.heap.size, 2, none⟩ = some (.slice A_v M.length cap_v) := HK_w0_32.out.cell 2
  have cb_w0_3 : w32.cell? ⟨w5.heap.size, 3, none⟩ = some (.int .i64 xs) := HK_w0_32.out.cell 3
  have cb_w0_4 : w32.cell? ⟨w5.heap.size, 4, none⟩ = some (.int .i64 xd) := HK_w0_32.out.cell 4
  have HK_x0_32 : Hid (Bk w32 (w6.heap.size) 30 #[.int .i64 li, .int .i64 by_, .slice A_x n cap_x, .int .i64 se, .int .i64 dr]) := Lib.hid (HK_x0_31.out.old hb32)
  clear HK_x0_31
  clear cb_x0_0 cb_x0_1 cb_x0_2 cb_x0_3 cb_x0_4 zb_x0
  have zb_x0 : w6.heap.size < w32.heap.size := HK_x0_32.out.lt
  have cb_x0_0 : w32.cell? ⟨w6.heap.size, 0, none⟩ = some (.int .i64 li) := HK_x0_32.out.cell 0
  have cb_x0_1 : w32.cell? ⟨w6.heap.size, 1, none⟩ = some (.int .i64 by_) := HK_x0_32.out.cell 1
  have cb_x0_2 : w32.cell? ⟨w6.heap.size, 2, none⟩ = some (.slice A_x n cap_x) := HK_x0_32.out.cell 2
  have cb_x0_3 : w32.cell? ⟨w6.heap.size, 3, none⟩ = some (.int .i64 se) := HK_x0_32.out.cell 3
  have cb_x0_4 : w32.cell? ⟨w6.heap.size, 4, none⟩ = some (.int .i64 dr) := HK_x0_32.out.cell 4
  have HK_g0_32 : Hid (Bk w32 (w8.heap.size) 30 #[.int .i64 xl, .int .i64 xb, .slice A_g M.length cap_g, .int .i64 xs, .int .i64 xd]) := Lib.hid (HK_g0_31.out.old hb32)
  clear HK_g0_31
  clear cb_g0_0 cb_g0_1 cb_g0_2 cb_g0_3 cb_g0_4 zb_g0
  have zb_g0 : w8.heap.size < w32.heap.size := HK_g0_32.out.lt
  have cb_g0_0 : w32.cell? ⟨w8.heap.size, 0, none⟩ = some (.int .i64 xl) := HK_g0_32.out.cell 0
  have cb_g0_1 : w32.cell? ⟨w8.heap.size, 1, none⟩ = some (.int .i64 xb) := HK_g0_32.out.cell 1
  have cb_g0_2 : w32.cell? ⟨w8.heap.size, 2, none⟩ = some (.slice A_g M.length cap_g) := HK_g0_32.out.cell 2
  have cb_g0_3 : w32.cell? ⟨w8.heap.size, 3, none⟩ = some (.int .i64 xs) := HK_g0_32.out.cell 3
  have cb_g0_4 : w32.cell? ⟨w8.heap.size, 4, none⟩ = some (.int .i64 xd) := HK_g0_32.out.cell 4
  have HK_h0_32 : Hid (Bk w32 (w29.heap.size) 30 #[.int .i64 xl, .int .i64 xb, .slice A_h M.length cap_h, .int .i64 xs, .int .i64 xd]) := Lib.hid (HK_h0_31.out.old hb32)
  clear HK_h0_31
  clear cb_h0_0 cb_h0_1 cb_h0_2 cb_h0_3 cb_h0_4 zb_h0
  have zb_h0 : w29.heap.size < w32.heap.size := HK_h0_32.out.lt
  have cb_h0_0 : w32.cell? ⟨w29.heap.size, 0, none⟩ = some (.int .i64 xl) := HK_h0_32.out.cell 0
  have cb_h0_1 : w32.cell? ⟨w29.heap.size, 1, none⟩ = some (.int .i64 xb) := HK_h0_32.out.cell 1
  have cb_h0_2 : w32.cell? ⟨w29.heap.size, 2, none⟩ = some (.slice A_h M.length cap_h) := HK_h0_32.out.cell 2
  have cb_h0_3 : w32.cell? ⟨w29.heap.size, 3, none⟩ = some (.int .i64 xs) := HK_h0_32.out.cell 3
  have cb_h0_4 : w32.cell? ⟨w29.heap.size, 4, none⟩ = some (.int .i64 xd) := HK_h0_32.out.cell 4
  have HO_s_32 := Lib.hid (HO_s_31.out.old hb32)
  clear HO_s_31
  have HO_t_32 := Lib.hid (HO_t_31.out.old hb32)
  clear HO_t_31
  have HO_v_32 := Lib.hid (HO_v_31.out.old hb32)
  clear HO_v_31
  have HO_vt_32 := Lib.hid (HO_vt_31.out.old hb32)
  clear HO_vt_31
  have HO_vd_32 := Lib.hid (HO_vd_31.out.old hb32)
  clear HO_vd_31
  have HO_x_32 := Lib.hid (HO_x_31.out.old hb32)
  clear HO_x_31
  have HO_u_32 := Lib.hid (HO_u_31.out.old hb32)
  clear HO_u_31
  have HO_g_32 := Lib.hid (HO_g_31.out.old hb32)
  clear HO_g_31
  have HO_gt_32 := Lib.hid (HO_gt_31.out.old hb32)
  clear HO_gt_31
  have HO_gd_32 := Lib.hid (HO_gd_31.out.old hb32)
  clear HO_gd_31
  have HO_y_32 := Lib.hid (HO_y_31.out.old hb32)
  clear HO_y_31
  have HO_z_32 := Lib.hid (HO_z_31.out.old hb32)
  clear HO_z_31
  have HO_k_32 := Lib.hid (HO_k_31.out.old hb32)
  clear HO_k_31
  have HO_l_32 := Lib.hid (HO_l_31.out.old hb32)
  clear HO_l_31
  have HO_h_32 := Lib.hid (HO_h_31.out.old hb32)
  clear HO_h_31
  have HO_ht_32 := Lib.hid (HO_ht_31.out.old hb32)
  clear HO_ht_31
  have HO_hd_32 := Lib.hid (HO_hd_31.out.old hb32)
  clear HO_hd_31
  have HB_32 := Lib.hid (bt HB_31.out hb32)
  clear hb32
  go_wp2_with fail
  refine (heldQueue_any _ _ _ _ _ _ _ 1 _ HO_g_32.out.row (by omega) (by omega) (by omega)).mono ?_
  rintro e w33 ⟨rfl, hb33⟩
  have z33 := hb33.size
  (try simp at z33)
  have HK_q_33 : Hid (Bk w33 (w.heap.size) 24 #[.int .i64 li, .int .i64 by_, .slice A n cap, .int .i64 se, .int .i64 dr]) := Lib.hid (HK_q_32.out.old hb33)
  clear HK_q_32
  clear cb_q_0 cb_q_1 cb_q_2 cb_q_3 cb_q_4 zb_q
  have zb_q : w.heap.size < w33.heap.size := HK_q_33.out.lt
  have cb_q_0 : w33.cell? ⟨w.heap.size, 0, none⟩ = some (.int .i64 li) := HK_q_33.out.cell 0
  have cb_q_1 : w33.cell? ⟨w.heap.size, 1, none⟩ = some (.int .i64 by_) := HK_q_33.out.cell 1
  have cb_q_2 : w33.cell? ⟨w.heap.size, 2, none⟩ = some (.slice A n cap) := HK_q_33.out.cell 2
  have cb_q_3 : w33.cell? ⟨w.heap.size, 3, none⟩ = some (.int .i64 se) := HK_q_33.out.cell 3
  have cb_q_4 : w33.cell? ⟨w.heap.size, 4, none⟩ = some (.int .i64 dr) := HK_q_33.out.cell 4
  have HK_w0_33 : Hid (Bk w33 (w5.heap.size) 30 #[.int .i64 xl, .int .i64 xb, .slice A_v M.length cap_v, .int .i64 xs, .int .i64 xd]) := Lib.hid (HK_w0_32.out.old hb33)
  clear HK_w0_32
  clear cb_w0_0 cb_w0_1 cb_w0_2 cb_w0_3 cb_w0_4 zb_w0
  have zb_w0 : w5.heap.size < w33.heap.size := HK_w0_33.out.lt
  have cb_w0_0 : w33.cell? ⟨w5.heap.size, 0, none⟩ = some (.int .i64 xl) := HK_w0_33.out.cell 0
  have cb_w0_1 : w33.cell? ⟨w5.heap.size, 1, none⟩ = some (.int .i64 xb) := HK_w0_33.out.cell 1
  have cb_w0_2 : w33.cell? ⟨w5.heap.size, 2, none⟩ = some (.slice A_v M.length cap_v) := HK_w0_33.out.cell 2
  have cb_w0_3 : w33.cell? ⟨w5.heap.size, 3, none⟩ = some (.int .i64 xs) := HK_w0_33.out.cell 3
  have cb_w0_4 : w33.cell? ⟨w5.heap.size, 4, none⟩ = some (.int .i64 xd) := HK_w0_33.out.cell 4
  have HK_x0_33 : Hid (Bk w33 (w6.heap.size) 30 #[.int .i64 li, .int .i64 by_, .slice A_x n cap_x, .int .i64 se, .int .i64 dr]) := Lib.hid (HK_x0_32.out.old hb33)
  clear HK_x0_32
  clear cb_x0_0 cb_x0_1 cb_x0_2 cb_x0_3 cb_x0_4 zb_x0
  have zb_x0 : w6.heap.size < w33.heap.size := HK_x0_33.out.lt
  have cb_x0_0 : w33.cell? ⟨w6.heap.size, 0, none⟩ = some (.int .i64 li) := HK_x0_33.out.cell 0
  have cb_x0_1 : w33.cell? ⟨w6.heap.size, 1, none⟩ = some (.int .i64 by_) := HK_x0_33.out.cell 1
  have cb_x0_2 : w33.cell? ⟨w6.heap.size, 2, none⟩ = some (.slice A_x n cap_x) := HK_x0_33.out.cell 2
  have cb_x0_3 : w33.cell? ⟨w6.heap.size, 3, none⟩ = some (.int .i64 se) := HK_x0_33.out.cell 3
  have cb_x0_4 : w33.cell? ⟨w6.heap.size, 4, none⟩ = some (.int .i64 dr) := HK_x0_33.out.cell 4
  have HK_g0_33 : Hid (Bk w33 (w8.heap.size) 30 #[.int .i64 xl, .int .i64 xb, .slice A_g M.length cap_g, .int .i64 xs, .int .i64 xd]) := Lib.hid (HK_g0_32.out.old hb33)
  clear HK_g0_32
  clear cb_g0_0 cb_g0_1 cb_g0_2 cb_g0_3 cb_g0_4 zb_g0
  have zb_g0 : w8.heap.size < w33.heap.size := HK_g0_33.out.lt
  have cb_g0_0 : w33.cell? ⟨w8.heap.size, 0, none⟩ = some (.int .i64 xl) := HK_g0_33.out.cell 0
  have cb_g0_1 : w33.cell? ⟨w8.heap.size, 1, none⟩ = some (.int .i64 xb) := HK_g0_33.out.cell 1
  have cb_g0_2 : w33.cell? ⟨w8.heap.size, 2, none⟩ = some (.slice A_g M.length cap_g) := HK_g0_33.out.cell 2
  have cb_g0_3 : w33.cell? ⟨w8.heap.size, 3, none⟩ = some (.int .i64 xs) := HK_g0_33.out.cell 3
  have cb_g0_4 : w33.cell? ⟨w8.heap.size, 4, none⟩ = some (.int .i64 xd) := HK_g0_33.out.cell 4
  have HK_h0_33 : Hid (Bk w33 (w29.heap.size) 30 #[.int .i64 xl, .int .i64 xb, .slice A_h M.length cap_h, .int .i64 xs, .int .i64 xd]) := Lib.hid (HK_h0_32.out.old hb33)
  clear HK_h0_32
  clear cb_h0_0 cb_h0_1 cb_h0_2 cb_h0_3 cb_h0_4 zb_h0
  have zb_h0 : w29.heap.size < w33.heap.size := HK_h0_33.out.lt
  have cb_h0_0 : w33.cell? ⟨w29.heap.size, 0, none⟩ = some (.int .i64 xl) := HK_h0_33.out.cell 0
  have cb_h0_1 : w33.cell? ⟨w29.heap.size, 1, none⟩ = some (.int .i64 xb) := HK_h0_33.out.cell 1
  have cb_h0_2 : w33.cell? ⟨w29.heap.size, 2, none⟩ = some (.slice A_h M.length cap_h) := HK_h0_33.out.cell 2
  have cb_h0_3 : w33.cell? ⟨w29.heap.size, 3, none⟩ = some (.int .i64 xs) := HK_h0_33.out.cell 3
  have cb_h0_4 : w33.cell? ⟨w29.heap.size, 4, none⟩ = some (.int .i64 xd) := HK_h0_33.out.cell 4
  have HO_s_33 := Lib.hid (HO_s_32.out.old hb33)
  clear HO_s_32
  have HO_t_33 := Lib.hid (HO_t_32.out.old hb33)
  clear HO_t_32
  have HO_v_33 := Lib.hid (HO_v_32.out.old hb33)
  clear HO_v_32
  have HO_vt_33 := Lib.hid (HO_vt_32.out.old hb33)
  clear HO_vt_32
  have HO_vd_33 := Lib.hid (HO_vd_32.out.old hb33)
  clear HO_vd_32
  have HO_x_33 := Lib.hid (HO_x_32.out.old hb33)
  clear HO_x_32
  have HO_u_33 := Lib.hid (HO_u_32.out.old hb33)
  clear HO_u_32
  have HO_g_33 := Lib.hid (HO_g_32.out.old hb33)
  clear HO_g_32
  have HO_gt_33 := Lib.hid (HO_gt_32.out.old hb33)
  clear HO_gt_32
  have HO_gd_33 := Lib.hid (HO_gd_32.out.old hb33)
  clear HO_gd_32
  have HO_y_33 := Lib.hid (HO_y_32.out.old hb33)
  clear HO_y_32
  have HO_z_33 := Lib.hid (HO_z_32.out.old hb33)
  clear HO_z_32
  have HO_k_33 := Lib.hid (HO_k_32.out.old hb33)
  clear HO_k_32
  have HO_l_33 := Lib.hid (HO_l_32.out.old hb33)
  clear HO_l_32
  have HO_h_33 := Lib.hid (HO_h_32.out.old hb33)
  clear HO_h_32
  have HO_ht_33 := Lib.hid (HO_ht_32.out.old hb33)
  clear HO_ht_32
  have HO_hd_33 := Lib.hid (HO_hd_32.out.old hb33)
  clear HO_hd_32
  have HB_33 := Lib.hid (bt HB_32.out hb33)
  clear hb33
  go_wp2_with fail
  refine (heldIntS_any _ _ _ _ _ HO_gt_33.out.row (by omega) (by omega) (by omega)).mono ?_
  rintro e w34 ⟨rfl, hb34⟩
  have z34 := hb34.size
  (try simp at z34)
  have HK_q_34 : Hid (Bk w34 (w.heap.size) 24 #[.int .i64 li, .int .i64 by_, .slice A n cap, .int .i64 se, .int .i64 dr]) := Lib.hid (HK_q_33.out.old hb34)
  clear HK_q_33
  clear cb_q_0 cb_q_1 cb_q_2 cb_q_3 cb_q_4 zb_q
  have zb_q : w.heap.size < w34.heap.size := HK_q_34.out.lt
  have cb_q_0 : w34.cell? ⟨w.heap.size, 0, none⟩ = some (.int .i64 li) := HK_q_34.out.cell 0
  have cb_q_1 : w34.cell? ⟨w.heap.size, 1, none⟩ = some (.int .i64 by_) := HK_q_34.out.cell 1
  have cb_q_2 : w34.cell? ⟨w.heap.size, 2, none⟩ = some (.slice A n cap) := HK_q_34.out.cell 2
  have cb_q_3 : w34.cell? ⟨w.heap.size, 3, none⟩ = some (.int .i64 se) := HK_q_34.out.cell 3
  have cb_q_4 : w34.cell? ⟨w.heap.size, 4, none⟩ = some (.int .i64 dr) := HK_q_34.out.cell 4
  have HK_w0_34 : Hid (Bk w34 (w5.heap.size) 30 #[.int .i64 xl, .int .i64 xb, .slice A_v M.length cap_v, .int .i64 xs, .int .i64 xd]) := Lib.hid (HK_w0_33.out.old hb34)
  clear HK_w0_33
  clear cb_w0_0 cb_w0_1 cb_w0_2 cb_w0_3 cb_w0_4 zb_w0
  have zb_w0 : w5.heap.size < w34.heap.size := HK_w0_34.out.lt
  have cb_w0_0 : w34.cell? ⟨w5.heap.size, 0, none⟩ = some (.int .i64 xl) := HK_w0_34.out.cell 0
  have cb_w0_1 : w34.cell? ⟨w5.heap.size, 1, none⟩ = some (.int .i64 xb) := HK_w0_34.out.cell 1
  have cb_w0_2 : w34.cell? ⟨w5.heap.size, 2, none⟩ = some (.slice A_v M.length cap_v) := HK_w0_34.out.cell 2
  have cb_w0_3 : w34.cell? ⟨w5.heap.size, 3, none⟩ = some (.int .i64 xs) := HK_w0_34.out.cell 3
  have cb_w0_4 : w34.cell? ⟨w5.heap.size, 4, none⟩ = some (.int .i64 xd) := HK_w0_34.out.cell 4
  have HK_x0_34 : Hid (Bk w34 (w6.heap.size) 30 #[.int .i64 li, .int .i64 by_, .slice A_x n cap_x, .int .i64 se, .int .i64 dr]) := Lib.hid (HK_x0_33.out.old hb34)
  clear HK_x0_33
  clear cb_x0_0 cb_x0_1 cb_x0_2 cb_x0_3 cb_x0_4 zb_x0
  have zb_x0 : w6.heap.size < w34.heap.size := HK_x0_34.out.lt
  have cb_x0_0 : w34.cell? ⟨w6.heap.size, 0, none⟩ = some (.int .i64 li) := HK_x0_34.out.cell 0
  have cb_x0_1 : w34.cell? ⟨w6.heap.size, 1, none⟩ = some (.int .i64 by_) := HK_x0_34.out.cell 1
  have cb_x0_2 : w34.cell? ⟨w6.heap.size, 2, none⟩ = some (.slice A_x n cap_x) := HK_x0_34.out.cell 2
  have cb_x0_3 : w34.cell? ⟨w6.heap.size, 3, none⟩ = some (.int .i64 se) := HK_x0_34.out.cell 3
  have cb_x0_4 : w34.cell? ⟨w6.heap.size, 4, none⟩ = some (.int .i64 dr) := HK_x0_34.out.cell 4
  have HK_g0_34 : Hid (Bk w34 (w8.heap.size) 30 #[.int .i64 xl, .int .i64 xb, .slice A_g M.length cap_g, .int .i64 xs, .int .i64 xd]) := Lib.hid (HK_g0_33.out.old hb34)
  clear HK_g0_33
  clear cb_g0_0 cb_g0_1 cb_g0_2 cb_g0_3 cb_g0_4 zb_g0
  have zb_g0 : w8.heap.size < w34.heap.size := HK_g0_34.out.lt
  have cb_g0_0 : w34.cell? ⟨w8.heap.size, 0, none⟩ = some (.int .i64 xl) := HK_g0_34.out.cell 0
  have cb_g0_1 : w34.cell? ⟨w8.heap.size, 1, none⟩ = some (.int .i64 xb) := HK_g0_34.out.cell 1
  have cb_g0_2 : w34.cell? ⟨w8.heap.size, 2, none⟩ = some (.slice A_g M.length cap_g) := HK_g0_34.out.cell 2
  have cb_g0_3 : w34.cell? ⟨w8.heap.size, 3, none⟩ = some (.int .i64 xs) := HK_g0_34.out.cell 3
  have cb_g0_4 : w34.cell? ⟨w8.heap.size, 4, none⟩ = some (.int .i64 xd) := HK_g0_34.out.cell 4
  have HK_h0_34 : Hid (Bk w34 (w29.heap.size) 30 #[.int .i64 xl, .int .i64 xb, .slice A_h M.length cap_h, .int .i64 xs, .int .i64 xd]) := Lib.hid (HK_h0_33.out.old hb34)
  clear HK_h0_33
  clear cb_h0_0 cb_h0_1 cb_h0_2 cb_h0_3 cb_h0_4 zb_h0
  have zb_h0 : w29.heap.size < w34.heap.size := HK_h0_34.out.lt
  have cb_h0_0 : w34.cell? ⟨w29.heap.size, 0, none⟩ = some (.int .i64 xl) := HK_h0_34.out.cell 0
  have cb_h0_1 : w34.cell? ⟨w29.heap.size, 1, none⟩ = some (.int .i64 xb) := HK_h0_34.out.cell 1
  have cb_h0_2 : w34.cell? ⟨w29.heap.size, 2, none⟩ = some (.slice A_h M.length cap_h) := HK_h0_34.out.cell 2
  have cb_h0_3 : w34.cell? ⟨w29.heap.size, 3, none⟩ = some (.int .i64 xs) := HK_h0_34.out.cell 3
  have cb_h0_4 : w34.cell? ⟨w29.heap.size, 4, none⟩ = some (.int .i64 xd) := HK_h0_34.out.cell 4
  have HO_s_34 := Lib.hid (HO_s_33.out.old hb34)
  clear HO_s_33
  have HO_t_34 := Lib.hid (HO_t_33.out.old hb34)
  clear HO_t_33
  have HO_v_34 := Lib.hid (HO_v_33.out.old hb34)
  clear HO_v_33
  have HO_vt_34 := Lib.hid (HO_vt_33.out.old hb34)
  clear HO_vt_33
  have HO_vd_34 := Lib.hid (HO_vd_33.out.old hb34)
  clear HO_vd_33
  have HO_x_34 := Lib.hid (HO_x_33.out.old hb34)
  clear HO_x_33
  have HO_u_34 := Lib.hid (HO_u_33.out.old hb34)
  clear HO_u_33
  have HO_g_34 := Lib.hid (HO_g_33.out.old hb34)
  clear HO_g_33
  have HO_gt_34 := Lib.hid (HO_gt_33.out.old hb34)
  clear HO_gt_33
  have HO_gd_34 := Lib.hid (HO_gd_33.out.old hb34)
  clear HO_gd_33
  have HO_y_34 := Lib.hid (HO_y_33.out.old hb34)
  clear HO_y_33
  have HO_z_34 := Lib.hid (HO_z_33.out.old hb34)
  clear HO_z_33
  have HO_k_34 := Lib.hid (HO_k_33.out.old hb34)
  clear HO_k_33
  have HO_l_34 := Lib.hid (HO_l_33.out.old hb34)
  clear HO_l_33
  have HO_h_34 := Lib.hid (HO_h_33.out.old hb34)
  clear HO_h_33
  have HO_ht_34 := Lib.hid (HO_ht_33.out.old hb34)
  clear HO_ht_33
  have HO_hd_34 := Lib.hid (HO_hd_33.out.old hb34)
  clear HO_hd_33
  have HB_34 := Lib.hid (bt HB_33.out hb34)
  clear hb34
  go_wp2_with fail
  refine (heldIntS_any _ _ _ _ _ HO_gd_34.out.row (by omega) (by omega) (by omega)).mono ?_
  rintro e w35 ⟨rfl, hb35⟩
  have z35 := hb35.size
  (try simp at z35)
  have HK_q_35 : Hid (Bk w35 (w.heap.size) 24 #[.int .i64 li, .int .i64 by_, .slice A n cap, .int .i64 se, .int .i64 dr]) := Lib.hid (HK_q_34.out.old hb35)
  clear HK_q_34
  clear cb_q_0 cb_q_1 cb_q_2 cb_q_3 cb_q_4 zb_q
  have zb_q : w.heap.size < w35.heap.size := HK_q_35.out.lt
  have cb_q_0 : w35.cell? ⟨w.heap.size, 0, none⟩ = some (.int .i64 li) := HK_q_35.out.cell 0
  have cb_q_1 : w35.cell? ⟨w.heap.size, 1, none⟩ = some (.int .i64 by_) := HK_q_35.out.cell 1
  have cb_q_2 : w35.cell? ⟨w.heap.size, 2, none⟩ = some (.slice A n cap) := HK_q_35.out.cell 2
  have cb_q_3 : w35.cell? ⟨w.heap.size, 3, none⟩ = some (.int .i64 se) := HK_q_35.out.cell 3
  have cb_q_4 : w35.cell? ⟨w.heap.size, 4, none⟩ = some (.int .i64 dr) := HK_q_35.out.cell 4
  have HK_w0_35 : Hid (Bk w35 (w5.heap.size) 30 #[.int .i64 xl, .int .i64 xb, .slice A_v M.length cap_v, .int .i64 xs, .int .i64 xd]) := Lib.hid (HK_w0_34.out.old hb35)
  clear HK_w0_34
  clear cb_w0_0 cb_w0_1 cb_w0_2 cb_w0_3 cb_w0_4 zb_w0
  have zb_w0 : w5.heap.size < w35.heap.size := HK_w0_35.out.lt
  have cb_w0_0 : w35.cell? ⟨w5.heap.size, 0, none⟩ = some (.int .i64 xl) := HK_w0_35.out.cell 0
  have cb_w0_1 : w35.cell? ⟨w5.heap.size, 1, none⟩ = some (.int .i64 xb) := HK_w0_35.out.cell 1
  have cb_w0_2 : w35.cell? ⟨w5.heap.size, 2, none⟩ = some (.slice A_v M.length cap_v) := HK_w0_35.out.cell 2
  have cb_w0_3 : w35.cell? ⟨w5.heap.size, 3, none⟩ = some (.int .i64 xs) := HK_w0_35.out.cell 3
  have cb_w0_4 : w35.cell? ⟨w5.heap.size, 4, none⟩ = some (.int .i64 xd) := HK_w0_35.out.cell 4
  have HK_x0_35 : Hid (Bk w35 (w6.heap.size) 30 #[.int .i64 li, .int .i64 by_, .slice A_x n cap_x, .int .i64 se, .int .i64 dr]) := Lib.hid (HK_x0_34.out.old hb35)
  clear HK_x0_34
  clear cb_x0_0 cb_x0_1 cb_x0_2 cb_x0_3 cb_x0_4 zb_x0
  have zb_x0 : w6.heap.size < w35.heap.size := HK_x0_35.out.lt
  have cb_x0_0 : w35.cell? ⟨w6.heap.size, 0, none⟩ = some (.int .i64 li) := HK_x0_35.out.cell 0
  have cb_x0_1 : w35.cell? ⟨w6.heap.size, 1, none⟩ = some (.int .i64 by_) := HK_x0_35.out.cell 1
  have cb_x0_2 : w35.cell? ⟨w6.heap.size, 2, none⟩ = some (.slice A_x n cap_x) := HK_x0_35.out.cell 2
  have cb_x0_3 : w35.cell? ⟨w6.heap.size, 3, none⟩ = some (.int .i64 se) := HK_x0_35.out.cell 3
  have cb_x0_4 : w35.cell? ⟨w6.heap.size, 4, none⟩ = some (.int .i64 dr) := HK_x0_35.out.cell 4
  have HK_g0_35 : Hid (Bk w35 (w8.heap.size) 30 #[.int .i64 xl, .int .i64 xb, .slice A_g M.length cap_g, .int .i64 xs, .int .i64 xd]) := Lib.hid (HK_g0_34.out.old hb35)
  clear HK_g0_34
  clear cb_g0_0 cb_g0_1 cb_g0_2 cb_g0_3 cb_g0_4 zb_g0
  have zb_g0 : w8.heap.size < w35.heap.size := HK_g0_35.out.lt
  have cb_g0_0 : w35.cell? ⟨w8.heap.size, 0, none⟩ = some (.int .i64 xl) := HK_g0_35.out.cell 0
  have cb_g0_1 : w35.cell? ⟨w8.heap.size, 1, none⟩ = some (.int .i64 xb) := HK_g0_35.out.cell 1
  have cb_g0_2 : w35.cell? ⟨w8.heap.size, 2, none⟩ = some (.slice A_g M.length cap_g) := HK_g0_35.out.cell 2
  have cb_g0_3 : w35.cell? ⟨w8.heap.size, 3, none⟩ = some (.int .i64 xs) := HK_g0_35.out.cell 3
  have cb_g0_4 : w35.cell? ⟨w8.heap.size, 4, none⟩ = some (.int .i64 xd) := HK_g0_35.out.cell 4
  have HK_h0_35 : Hid (Bk w35 (w29.heap.size) 30 #[.int .i64 xl, .int .i64 xb, .slice A_h M.length cap_h, .int .i64 xs, .int .i64 xd]) := Lib.hid (HK_h0_34.out.old hb35)
  clear HK_h0_34
  clear cb_h0_0 cb_h0_1 cb_h0_2 cb_h0_3 cb_h0_4 zb_h0
  have zb_h0 : w29.heap.size < w35.heap.size := HK_h0_35.out.lt
  have cb_h0_0 : w35.cell? ⟨w29.heap.size, 0, none⟩ = some (.int .i64 xl) := HK_h0_35.out.cell 0
  have cb_h0_1 : w35.cell? ⟨w29.heap.size, 1, none⟩ = some (.int .i64 xb) := HK_h0_35.out.cell 1
  have cb_h0_2 : w35.cell? ⟨w29.heap.size, 2, none⟩ = some (.slice A_h M.length cap_h) := HK_h0_35.out.cell 2
  have cb_h0_3 : w35.cell? ⟨w29.heap.size, 3, none⟩ = some (.int .i64 xs) := HK_h0_35.out.cell 3
  have cb_h0_4 : w35.cell? ⟨w29.heap.size, 4, none⟩ = some (.int .i64 xd) := HK_h0_35.out.cell 4
  have HO_s_35 := Lib.hid (HO_s_34.out.old hb35)
  clear HO_s_34
  have HO_t_35 := Lib.hid (HO_t_34.out.old hb35)
  clear HO_t_34
  have HO_v_35 := Lib.hid (HO_v_34.out.old hb35)
  clear HO_v_34
  have HO_vt_35 := Lib.hid (HO_vt_34.out.old hb35)
  clear HO_vt_34
  have HO_vd_35 := Lib.hid (HO_vd_34.out.old hb35)
  clear HO_vd_34
  have HO_x_35 := Lib.hid (HO_x_34.out.old hb35)
  clear HO_x_34
  have HO_u_35 := Lib.hid (HO_u_34.out.old hb35)
  clear HO_u_34
  have HO_g_35 := Lib.hid (HO_g_34.out.old hb35)
  clear HO_g_34
  have HO_gt_35 := Lib.hid (HO_gt_34.out.old hb35)
  clear HO_gt_34
  have HO_gd_35 := Lib.hid (HO_gd_34.out.old hb35)
  clear HO_gd_34
  have HO_y_35 := Lib.hid (HO_y_34.out.old hb35)
  clear HO_y_34
  have HO_z_35 := Lib.hid (HO_z_34.out.old hb35)
  clear HO_z_34
  have HO_k_35 := Lib.hid (HO_k_34.out.old hb35)
  clear HO_k_34
  have HO_l_35 := Lib.hid (HO_l_34.out.old hb35)
  clear HO_l_34
  have HO_h_35 := Lib.hid (HO_h_34.out.old hb35)
  clear HO_h_34
  have HO_ht_35 := Lib.hid (HO_ht_34.out.old hb35)
  clear HO_ht_34
  have HO_hd_35 := Lib.hid (HO_hd_34.out.old hb35)
  clear HO_hd_34
  have HB_35 := Lib.hid (bt HB_34.out hb35)
  clear hb35
  go_wp2_with fail
  go_ret
  exact ⟨rfl, HB_35.out⟩
theorem own : ownKnob Try.prog.godebug = none := by kernel_rfl
theorem laidOut : laidOutB Try.prog = true := by kernel_rfl
set_option maxRecDepth 100000 in
theorem lifted (os : Os) (started : os.Started) (H : Type) (enc : TypeId × Value → H) :
    ReturnsInHanded {} Try.checked os 4 .any (Rows.fnExactRunQueueSpec.pre6 enc Try.prog Try.f4 Rows.fnExactRunQueueRow.domain false) (Rows.fnExactRunQueueSpec.post enc Try.prog Try.f4 false true false false) := by
  refine returnsInHanded_of_change (C := Try.checked) own started (by kernel_rfl) Try.func4
    (ChangeSpec.witness6 (enc := enc) (C := Try.checked) false ⟨#[], #[.agg #[.int .i64 0, .int .i64 0, .slice none 0 0, .int .i64 0, .int .i64 0], .slice none 0 0, .int .i64 0], []⟩ 8 (by kernel_rfl) (by kernel_rfl) (by kernel_rfl) (by kernel_rfl)) ?_
  intro W base args ds gs before hval0 hW hcnd _
  have hval : ∀ (j : Nat) t v, Try.f4.params[j]? = some t → args[j]? = some v → Value.okWide Try.prog W .any base t v := hval0
  have hW' := hW
  obtain ⟨p, q, hA0, hV, rfl, hfz, hnd⟩ := hW
  have hA : DataW.TrodAll enc Try.prog W 0 (fun _ => true) true Try.f4.params.toList args.toList ds p := hA0
  rw [Try.params4] at hA hval
  obtain ⟨v0, vs0, d0, ds0, p0, q0, hargs, rfl, rfl, h0, r0⟩ := trodAll_cons hA
  obtain ⟨v1, vs1, d1, ds1, p1, q1, rfl, rfl, rfl, h1, r1⟩ := trodAll_cons r0
  obtain ⟨v2, vs2, d2, ds2, p2, q2, rfl, rfl, rfl, h2, r2⟩ := trodAll_cons r1
  obtain ⟨rfl, rfl, rfl⟩ := trodAll_nil r2
  obtain rfl : args = #[v0, v1, v2] := by cases args; simp_all
  obtain ⟨rfl, rfl⟩ := trodVars_none hV
  have k0 := h0
  have lt0 : ∀ x ∈ p0, x.block < W.heap.size := by obtain ⟨m, hm⟩ := k0; exact DataW.trod_lt m _ _ _ hm
  have k1 := h1
  have lt1 : ∀ x ∈ p1, x.block < W.heap.size := by obtain ⟨m, hm⟩ := k1; exact DataW.trod_lt m _ _ _ hm
  have k2 := h2
  have lt2 : ∀ x ∈ p2, x.block < W.heap.size := by obtain ⟨m, hm⟩ := k2; exact DataW.trod_lt m _ _ _ hm
  obtain ⟨cs0, rfl, hsz0⟩ := okWide_struct Try.underlying24 (hval 0 24 v0 rfl rfl)
  obtain ⟨c0_0, c0_1, c0_2, c0_3, c0_4, rfl⟩ := arr5 (hsz0.trans (by kernel_rfl))
  have hf0 := h0
  obtain ⟨fu0, hf0⟩ := hf0
  simp only [Value.cells] at hf0
  obtain ⟨a0_0, ea0_0⟩ := leaf_int Try.underlying24 hf0 0 _ rfl Try.underlying3 (by kernel_rfl) rfl
  obtain ⟨ea0_0, wa0_0⟩ := ea0_0
  subst ea0_0
  obtain ⟨a0_1, ea0_1⟩ := leaf_int Try.underlying24 hf0 1 _ rfl Try.underlying3 (by kernel_rfl) rfl
  obtain ⟨ea0_1, wa0_1⟩ := ea0_1
  subst ea0_1
  obtain ⟨ma0_2, ya0_2, ta0_2⟩ := leaf Try.underlying24 hf0 2 _ rfl (by kernel_rfl) rfl
  obtain ⟨Aa0_2, lena0_2, capa0_2, la0_2, ea0_2, hra0_2⟩ := rows_leaf (s := 6) Try.underlying22 (by kernel_rfl) (by decide) (flatPacket enc W) ta0_2
  subst ea0_2
  obtain ⟨a0_3, ea0_3⟩ := leaf_int Try.underlying24 hf0 3 _ rfl Try.underlying3 (by kernel_rfl) rfl
  obtain ⟨ea0_3, wa0_3⟩ := ea0_3
  subst ea0_3
  obtain ⟨a0_4, ea0_4⟩ := leaf_int Try.underlying24 hf0 4 _ rfl Try.underlying3 (by kernel_rfl) rfl
  obtain ⟨ea0_4, wa0_4⟩ := ea0_4
  subst ea0_4
  obtain ⟨A1, len1, cap1, rfl⟩ := okWide_slice Try.underlying22 (hval 1 22 v1 rfl rfl)
  obtain ⟨l1, hr1⟩ := rows_row (s := 6) Try.underlying22 (by kernel_rfl) (by decide) (flatPacket enc W) h1
  obtain ⟨a2, rfl, rfl, rfl, wf2⟩ := open_int Try.underlying3 (hval 2 3 v2 rfl rfl) h2
  clear hA0 hval0
  refine (walk W a0_0 (ibounds wa0_0) a0_1 (ibounds wa0_1) Aa0_2 lena0_2 capa0_2 la0_2 hra0_2 a0_3 (ibounds wa0_3) a0_4 (ibounds wa0_4) A1 len1 cap1 l1 hr1 a2 (ibounds wf2)).mono fun e W' ⟨he, bel⟩ => ?_
  subst he
  exact ⟨_, rfl, _, _, _, [], _, [], hW', trodAll_mk1 (shut_bool Try.underlying4 _), (trodAll_cons_mk (Below.trod laidOut (by kernel_rfl) (of_decide_eq_true (by kernel_rfl)) k0 bel lt0) (trodAll_cons_mk (Below.trod laidOut (by kernel_rfl) (of_decide_eq_true (by kernel_rfl)) k1 bel lt1) (trodAll_cons_mk (Below.trod laidOut (by kernel_rfl) (of_decide_eq_true (by kernel_rfl)) k2 bel lt2) trodAll_mk0))), rfl, bel.frame _, fun h => by cases h⟩
theorem over : Rows.fnExactRunQueueRow.holds Try.pinned (OpenSpec.ofChange Rows.fnExactRunQueueSpec) :=
  OpenClaim.holds_of_wide 4 Try.f4 rfl rfl rfl rfl rfl rfl rfl ⟨rfl, rfl, rfl, rfl, rfl⟩ rfl rfl rfl rfl rfl (by kernel_rfl) Try.func4 (by kernel_rfl)
    (of_decide_eq_true (by kernel_rfl)) (by unfold Func.isWrapper; first | (rw [if_pos (by decide +kernel)]; kernel_rfl) | (rw [if_neg (by decide +kernel)]; exact ⟨rfl, rfl⟩))
    (fun os started H enc _ => lifted os started H enc)
/-- The given statement. -/
theorem proved : Rows.FnExactRunQueueSaid := over
#print axioms proved
end Go.Proofs.Ytgdldmeeaejjpaa.lawRunQueue
