/- The statement FnExactTakeHeadSaid: for every input the law FnExactTakeHead returns true, and its arguments read as before. No condition. -/
import Derived.Test.YtgcbpooflecbpaaTakeHead
import Derived.Deep.RegionHeld3
namespace Go.Proofs.Ytgcbpooflecbpaa.lawTakeHead
open Go.ChangeShapes Go.WideShapes Go.ChangeAt Go.RowKit
set_option linter.unusedVariables false
set_option maxRecDepth 100000 in
set_option maxHeartbeats 4000000 in
theorem walk (w : World) (li : Int) (_ : IB li) (by_ : Int) (_ : IB by_) (A : Option Addr) (n cap : Nat) (l : List Int) (h : IRow w A l ∧ l.length = n * 6 ∧ n ≤ 9223372036854775807 ∧ IBs l) (se : Int) (_ : IB se) (dr : Int) (_ : IB dr) :
    Calls Try.prog 8 #[.agg #[.int .i64 li, .int .i64 by_, .slice A n cap, .int .i64 se, .int .i64 dr]] w fun e w' => e = .returned (.bool true) ∧ Below w.heap.size w w' := by
  obtain ⟨hr, hl, hn, _⟩ := h
  obtain ⟨L, hL, rfl⟩ := unfl n l hl
  have HL := Lib.hid hl
  have HLL := Lib.hid hL
  have HR_a := Lib.hid hr
  have HSP := Lib.hid (fun (A : Option Addr) (cap : Nat) (w : World) (hr : IRow w A (fl L)) (hn : n ≤ 1048576) (hc : n ≤ cap) => specTakeHead_any li by_ A n cap se dr L w hL hr hn hc)
  have HIM := Lib.hid (fun (A : Option Addr) (cap : Nat) (w : World) (hr : IRow w A (fl L)) (hn : n ≤ 1048576) (hc : n ≤ cap) => implTakeHead_any li by_ A n cap se dr L w hL hr hn hc)
  unfold ThP at HSP HIM
  have HML := Lib.hid (tlIf_len (thOk li by_ L se dr) L)
  clear hl hr
  generalize thOk li by_ L se dr = ok at *
  generalize tlIf ok L = M at *
  generalize hdIf ok L = pp at *
  generalize ifz ok li = xl at *
  generalize ifz ok by_ = xb at *
  generalize ifz ok (se + 1) = xs at *
  generalize ifz ok dr = xd at *
  have HMM := Lib.hid (show (fl M).length = M.length * 6 from fl_len M)
  have hml : M.length ≤ n := by have := HML.out; omega
  clear hL
  by_cases hbig : n ≤ 1048576
  rotate_left
  · go_enter Try.func8, Try.ntmps8
    go_wp2_with fail
    refine (szQueue_any _ _ _ _ _ _ _ _ hn (if_neg hbig)).mono ?_
    rintro e w1 ⟨rfl, hg⟩
    go_wp2_with fail
    go_ret
    exact ⟨rfl, (by repeat (first | (with_reducible exact b0 _) | (with_reducible refine ba ?_ _) | (with_reducible refine bd ?_ _) | (with_reducible refine Below.drew ?_) | (with_reducible refine bs ?_ (by first | exact Nat.le_refl _ | exact Nat.le_add_right _ _ | omega) _) | (with_reducible refine bt ?_ (by assumption))))⟩
  go_enter Try.func8, Try.ntmps8
  go_wp2_with fail
  refine (szQueue_any _ _ _ _ _ _ _ _ hn (if_pos hbig)).mono ?_
  rintro e w1 ⟨rfl, hb1⟩
  have z1 := hb1.size
  (try simp at z1)
  have HK_q_1 : Hid (Bk w1 (w.heap.size) 31 #[.int .i64 li, .int .i64 by_, .slice A n cap, .int .i64 se, .int .i64 dr]) := Lib.hid ((Bk.new_ (by simp) : Bk _ (w.heap.size) 31 #[.int .i64 li, .int .i64 by_, .slice A n cap, .int .i64 se, .int .i64 dr]).old hb1)
  have zb_q : w.heap.size < w1.heap.size := HK_q_1.out.lt
  have cb_q_0 : w1.cell? ⟨w.heap.size, 0, none⟩ = some (.int .i64 li) := HK_q_1.out.cell 0
  have cb_q_1 : w1.cell? ⟨w.heap.size, 1, none⟩ = some (.int .i64 by_) := HK_q_1.out.cell 1
  have cb_q_2 : w1.cell? ⟨w.heap.size, 2, none⟩ = some (.slice A n cap) := HK_q_1.out.cell 2
  have cb_q_3 : w1.cell? ⟨w.heap.size, 3, none⟩ = some (.int .i64 se) := HK_q_1.out.cell 3
  have cb_q_4 : w1.cell? ⟨w.heap.size, 4, none⟩ = some (.int .i64 dr) := HK_q_1.out.cell 4
  have HB_1 := Lib.hid (bt (ba (b0 w) _) hb1)
  clear hb1
  go_wp2_with fail
  refine (toQueue_any _ _ _ _ _ _ _ L _ HLL.out (HR_a.out.below HB_1.out) (by omega)).mono ?_
  rintro e w2 ⟨A_s, cap_s, rfl, ho_s, hb2⟩
  have HN_s := Lib.hid ho_s.len
  have HO_s_2 := Lib.hid ho_s
  clear ho_s
  have z2 := hb2.size
  (try simp at z2)
  have HK_q_2 : Hid (Bk w2 (w.heap.size) 31 #[.int .i64 li, .int .i64 by_, .slice A n cap, .int .i64 se, .int .i64 dr]) := Lib.hid (HK_q_1.out.old hb2)
  clear HK_q_1
  clear cb_q_0 cb_q_1 cb_q_2 cb_q_3 cb_q_4 zb_q
  have zb_q : w.heap.size < w2.heap.size := HK_q_2.out.lt
  have cb_q_0 : w2.cell? ⟨w.heap.size, 0, none⟩ = some (.int .i64 li) := HK_q_2.out.cell 0
  have cb_q_1 : w2.cell? ⟨w.heap.size, 1, none⟩ = some (.int .i64 by_) := HK_q_2.out.cell 1
  have cb_q_2 : w2.cell? ⟨w.heap.size, 2, none⟩ = some (.slice A n cap) := HK_q_2.out.cell 2
  have cb_q_3 : w2.cell? ⟨w.heap.size, 3, none⟩ = some (.int .i64 se) := HK_q_2.out.cell 3
  have cb_q_4 : w2.cell? ⟨w.heap.size, 4, none⟩ = some (.int .i64 dr) := HK_q_2.out.cell 4
  have HB_2 := Lib.hid (bt HB_1.out hb2)
  clear hb2
  go_wp2_with fail
  refine (HSP.out _ _ _ HO_s_2.out.row (by omega) HO_s_2.out.cap).mono ?_
  rintro e w3 ⟨A_v, cap_v, rfl, ho_v, hb3⟩
  have HN_v := Lib.hid ho_v.len
  have HO_v_3 := Lib.hid ho_v
  clear ho_v
  have z3 := hb3.size
  (try simp at z3)
  have HK_q_3 : Hid (Bk w3 (w.heap.size) 31 #[.int .i64 li, .int .i64 by_, .slice A n cap, .int .i64 se, .int .i64 dr]) := Lib.hid (HK_q_2.out.old hb3)
  clear HK_q_2
  clear cb_q_0 cb_q_1 cb_q_2 cb_q_3 cb_q_4 zb_q
  have zb_q : w.heap.size < w3.heap.size := HK_q_3.out.lt
  have cb_q_0 : w3.cell? ⟨w.heap.size, 0, none⟩ = some (.int .i64 li) := HK_q_3.out.cell 0
  have cb_q_1 : w3.cell? ⟨w.heap.size, 1, none⟩ = some (.int .i64 by_) := HK_q_3.out.cell 1
  have cb_q_2 : w3.cell? ⟨w.heap.size, 2, none⟩ = some (.slice A n cap) := HK_q_3.out.cell 2
  have cb_q_3 : w3.cell? ⟨w.heap.size, 3, none⟩ = some (.int .i64 se) := HK_q_3.out.cell 3
  have cb_q_4 : w3.cell? ⟨w.heap.size, 4, none⟩ = some (.int .i64 dr) := HK_q_3.out.cell 4
  have HO_s_3 := Lib.hid (HO_s_2.out.old hb3)
  clear HO_s_2
  have HB_3 := Lib.hid (bt HB_2.out hb3)
  clear hb3
  go_wp2_with fail
  refine (toQueue_any _ _ _ _ _ _ _ L _ HLL.out (HR_a.out.below (ba (ba HB_3.out _) _)) (by omega)).mono ?_
  rintro e w4 ⟨A_x, cap_x, rfl, ho_x, hb4⟩
  have HN_x := Lib.hid ho_x.len
  have HO_x_4 := Lib.hid ho_x
  clear ho_x
  have z4 := hb4.size
  (try simp at z4)
  have HK_q_4 : Hid (Bk w4 (w.heap.size) 31 #[.int .i64 li, .int .i64 by_, .slice A n cap, .int .i64 se, .int .i64 dr]) := Lib.hid (((HK_q_3.out.alloc _).alloc _).old hb4)
  clear HK_q_3
  clear cb_q_0 cb_q_1 cb_q_2 cb_q_3 cb_q_4 zb_q
  have zb_q : w.heap.size < w4.heap.size := HK_q_4.out.lt
  have cb_q_0 : w4.cell? ⟨w.heap.size, 0, none⟩ = some (.int .i64 li) := HK_q_4.out.cell 0
  have cb_q_1 : w4.cell? ⟨w.heap.size, 1, none⟩ = some (.int .i64 by_) := HK_q_4.out.cell 1
  have cb_q_2 : w4.cell? ⟨w.heap.size, 2, none⟩ = some (.slice A n cap) := HK_q_4.out.cell 2
  have cb_q_3 : w4.cell? ⟨w.heap.size, 3, none⟩ = some (.int .i64 se) := HK_q_4.out.cell 3
  have cb_q_4 : w4.cell? ⟨w.heap.size, 4, none⟩ = some (.int .i64 dr) := HK_q_4.out.cell 4
  have HK_w0_4 : Hid (Bk w4 (w3.heap.size) 36 #[.int .i64 xl, .int .i64 xb, .slice A_v M.length cap_v, .int .i64 xs, .int .i64 xd]) := Lib.hid (((Bk.new_ (by simp) : Bk _ (w3.heap.size) 36 #[.int .i64 xl, .int .i64 xb, .slice A_v M.length cap_v, .int .i64 xs, .int .i64 xd]).alloc _).old hb4)
  have zb_w0 : w3.heap.size < w4.heap.size := HK_w0_4.out.lt
  have cb_w0_0 : w4.cell? ⟨w3.heap.size, 0, none⟩ = some (.int .i64 xl) := HK_w0_4.out.cell 0
  have cb_w0_1 : w4.cell? ⟨w3.heap.size, 1, none⟩ = some (.int .i64 xb) := HK_w0_4.out.cell 1
  have cb_w0_2 : w4.cell? ⟨w3.heap.size, 2, none⟩ = some (.slice A_v M.length cap_v) := HK_w0_4.out.cell 2
  have cb_w0_3 : w4.cell? ⟨w3.heap.size, 3, none⟩ = some (.int .i64 xs) := HK_w0_4.out.cell 3
  have cb_w0_4 : w4.cell? ⟨w3.heap.size, 4, none⟩ = some (.int .i64 xd) := HK_w0_4.out.cell 4
  have HK_w1_4 : Hid (Bk w4 (w3.heap.size + 1) 49 #[.int .i64 pp.id, .int .i64 pp.so, .int .i64 pp.de, .int .i64 pp.po, .int .i64 pp.ma, .int .i64 pp.si]) := Lib.hid ((Bk.new_ (by simp) : Bk _ (w3.heap.size + 1) 49 #[.int .i64 pp.id, .int .i64 pp.so, .int .i64 pp.de, .int .i64 pp.po, .int .i64 pp.ma, .int .i64 pp.si]).old hb4)
  have zb_w1 : w3.heap.size + 1 < w4.heap.size := HK_w1_4.out.lt
  have cb_w1_0 : w4.cell? ⟨w3.heap.size + 1, 0, none⟩ = some (.int .i64 pp.id) := HK_w1_4.out.cell 0
  have cb_w1_1 : w4.cell? ⟨w3.heap.size + 1, 1, none⟩ = some (.int .i64 pp.so) := HK_w1_4.out.cell 1
  have cb_w1_2 : w4.cell? ⟨w3.heap.size + 1, 2, none⟩ = some (.int .i64 pp.de) := HK_w1_4.out.cell 2
  have cb_w1_3 : w4.cell? ⟨w3.heap.size + 1, 3, none⟩ = some (.int .i64 pp.po) := HK_w1_4.out.cell 3
  have cb_w1_4 : w4.cell? ⟨w3.heap.size + 1, 4, none⟩ = some (.int .i64 pp.ma) := HK_w1_4.out.cell 4
  have cb_w1_5 : w4.cell? ⟨w3.heap.size + 1, 5, none⟩ = some (.int .i64 pp.si) := HK_w1_4.out.cell 5
  have HO_s_4 := Lib.hid (((HO_s_3.out.alloc _).alloc _).old hb4)
  clear HO_s_3
  have HO_v_4 := Lib.hid (((HO_v_3.out.alloc _).alloc _).old hb4)
  clear HO_v_3
  have HB_4 := Lib.hid (bt (ba (ba HB_3.out _) _) hb4)
  clear hb4
  go_wp2_with fail
  refine (HIM.out _ _ _ (HO_x_4.out.alloc _).row (by omega) HO_x_4.out.cap).mono ?_
  rintro e w5 ⟨A_g, cap_g, rfl, ho_g, hb5⟩
  have HN_g := Lib.hid ho_g.len
  have HO_g_5 := Lib.hid ho_g
  clear ho_g
  have z5 := hb5.size
  (try simp at z5)
  have HK_q_5 : Hid (Bk w5 (w.heap.size) 31 #[.int .i64 li, .int .i64 by_, .slice A n cap, .int .i64 se, .int .i64 dr]) := Lib.hid ((HK_q_4.out.alloc _).old hb5)
  clear HK_q_4
  clear cb_q_0 cb_q_1 cb_q_2 cb_q_3 cb_q_4 zb_q
  have zb_q : w.heap.size < w5.heap.size := HK_q_5.out.lt
  have cb_q_0 : w5.cell? ⟨w.heap.size, 0, none⟩ = some (.int .i64 li) := HK_q_5.out.cell 0
  have cb_q_1 : w5.cell? ⟨w.heap.size, 1, none⟩ = some (.int .i64 by_) := HK_q_5.out.cell 1
  have cb_q_2 : w5.cell? ⟨w.heap.size, 2, none⟩ = some (.slice A n cap) := HK_q_5.out.cell 2
  have cb_q_3 : w5.cell? ⟨w.heap.size, 3, none⟩ = some (.int .i64 se) := HK_q_5.out.cell 3
  have cb_q_4 : w5.cell? ⟨w.heap.size, 4, none⟩ = some (.int .i64 dr) := HK_q_5.out.cell 4
  have HK_w0_5 : Hid (Bk w5 (w3.heap.size) 36 #[.int .i64 xl, .int .i64 xb, .slice A_v M.length cap_v, .int .i64 xs, .int .i64 xd]) := Lib.hid ((HK_w0_4.out.alloc _).old hb5)
  clear HK_w0_4
  clear cb_w0_0 cb_w0_1 cb_w0_2 cb_w0_3 cb_w0_4 zb_w0
  have zb_w0 : w3.heap.size < w5.heap.size := HK_w0_5.out.lt
  have cb_w0_0 : w5.cell? ⟨w3.heap.size, 0, none⟩ = some (.int .i64 xl) := HK_w0_5.out.cell 0
  have cb_w0_1 : w5.cell? ⟨w3.heap.size, 1, none⟩ = some (.int .i64 xb) := HK_w0_5.out.cell 1
  have cb_w0_2 : w5.cell? ⟨w3.heap.size, 2, none⟩ = some (.slice A_v M.length cap_v) := HK_w0_5.out.cell 2
  have cb_w0_3 : w5.cell? ⟨w3.heap.size, 3, none⟩ = some (.int .i64 xs) := HK_w0_5.out.cell 3
  have cb_w0_4 : w5.cell? ⟨w3.heap.size, 4, none⟩ = some (.int .i64 xd) := HK_w0_5.out.cell 4
  have HK_w1_5 : Hid (Bk w5 (w3.heap.size + 1) 49 #[.int .i64 pp.id, .int .i64 pp.so, .int .i64 pp.de, .int .i64 pp.po, .int .i64 pp.ma, .int .i64 pp.si]) := Lib.hid ((HK_w1_4.out.alloc _).old hb5)
  clear HK_w1_4
  clear cb_w1_0 cb_w1_1 cb_w1_2 cb_w1_3 cb_w1_4 cb_w1_5 zb_w1
  have zb_w1 : w3.heap.size + 1 < w5.heap.size := HK_w1_5.out.lt
  have cb_w1_0 : w5.cell? ⟨w3.heap.size + 1, 0, none⟩ = some (.int .i64 pp.id) := HK_w1_5.out.cell 0
  have cb_w1_1 : w5.cell? ⟨w3.heap.size + 1, 1, none⟩ = some (.int .i64 pp.so) := HK_w1_5.out.cell 1
  have cb_w1_2 : w5.cell? ⟨w3.heap.size + 1, 2, none⟩ = some (.int .i64 pp.de) := HK_w1_5.out.cell 2
  have cb_w1_3 : w5.cell? ⟨w3.heap.size + 1, 3, none⟩ = some (.int .i64 pp.po) := HK_w1_5.out.cell 3
  have cb_w1_4 : w5.cell? ⟨w3.heap.size + 1, 4, none⟩ = some (.int .i64 pp.ma) := HK_w1_5.out.cell 4
  have cb_w1_5 : w5.cell? ⟨w3.heap.size + 1, 5, none⟩ = some (.int .i64 pp.si) := HK_w1_5.out.cell 5
  have HK_x0_5 : Hid (Bk w5 (w4.heap.size) 36 #[.int .i64 li, .int .i64 by_, .slice A_x n cap_x, .int .i64 se, .int .i64 dr]) := Lib.hid ((Bk.new_ (by simp) : Bk _ (w4.heap.size) 36 #[.int .i64 li, .int .i64 by_, .slice A_x n cap_x, .int .i64 se, .int .i64 dr]).old hb5)
  have zb_x0 : w4.heap.size < w5.heap.size := HK_x0_5.out.lt
  have cb_x0_0 : w5.cell? ⟨w4.heap.size, 0, none⟩ = some (.int .i64 li) := HK_x0_5.out.cell 0
  have cb_x0_1 : w5.cell? ⟨w4.heap.size, 1, none⟩ = some (.int .i64 by_) := HK_x0_5.out.cell 1
  have cb_x0_2 : w5.cell? ⟨w4.heap.size, 2, none⟩ = some (.slice A_x n cap_x) := HK_x0_5.out.cell 2
  have cb_x0_3 : w5.cell? ⟨w4.heap.size, 3, none⟩ = some (.int .i64 se) := HK_x0_5.out.cell 3
  have cb_x0_4 : w5.cell? ⟨w4.heap.size, 4, none⟩ = some (.int .i64 dr) := HK_x0_5.out.cell 4
  have HO_s_5 := Lib.hid ((HO_s_4.out.alloc _).old hb5)
  clear HO_s_4
  have HO_v_5 := Lib.hid ((HO_v_4.out.alloc _).old hb5)
  clear HO_v_4
  have HO_x_5 := Lib.hid ((HO_x_4.out.alloc _).old hb5)
  clear HO_x_4
  have HB_5 := Lib.hid (bt (ba HB_4.out _) hb5)
  clear hb5
  go_wp2_with fail
  refine (eqQueue_any _ _ _ _ _ _ _ _ _ (fl M) _ HMM.out ((HO_g_5.out.alloc _).alloc _).row ((HO_v_5.out.alloc _).alloc _).row (by omega)).mono ?_
  rintro e w6 ⟨rfl, hb6⟩
  have z6 := hb6.size
  (try simp at z6)
  have HK_q_6 : Hid (Bk w6 (w.heap.size) 31 #[.int .i64 li, .int .i64 by_, .slice A n cap, .int .i64 se, .int .i64 dr]) := Lib.hid (((HK_q_5.out.alloc _).alloc _).old hb6)
  clear HK_q_5
  clear cb_q_0 cb_q_1 cb_q_2 cb_q_3 cb_q_4 zb_q
  have zb_q : w.heap.size < w6.heap.size := HK_q_6.out.lt
  have cb_q_0 : w6.cell? ⟨w.heap.size, 0, none⟩ = some (.int .i64 li) := HK_q_6.out.cell 0
  have cb_q_1 : w6.cell? ⟨w.heap.size, 1, none⟩ = some (.int .i64 by_) := HK_q_6.out.cell 1
  have cb_q_2 : w6.cell? ⟨w.heap.size, 2, none⟩ = some (.slice A n cap) := HK_q_6.out.cell 2
  have cb_q_3 : w6.cell? ⟨w.heap.size, 3, none⟩ = some (.int .i64 se) := HK_q_6.out.cell 3
  have cb_q_4 : w6.cell? ⟨w.heap.size, 4, none⟩ = some (.int .i64 dr) := HK_q_6.out.cell 4
  have HK_w0_6 : Hid (Bk w6 (w3.heap.size) 36 #[.int .i64 xl, .int .i64 xb, .slice A_v M.length cap_v, .int .i64 xs, .int .i64 xd]) := Lib.hid (((HK_w0_5.out.alloc _).alloc _).old hb6)
  clear HK_w0_5
  clear cb_w0_0 cb_w0_1 cb_w0_2 cb_w0_3 cb_w0_4 zb_w0
  have zb_w0 : w3.heap.size < w6.heap.size := HK_w0_6.out.lt
  have cb_w0_0 : w6.cell? ⟨w3.heap.size, 0, none⟩ = some (.int .i64 xl) := HK_w0_6.out.cell 0
  have cb_w0_1 : w6.cell? ⟨w3.heap.size, 1, none⟩ = some (.int .i64 xb) := HK_w0_6.out.cell 1
  have cb_w0_2 : w6.cell? ⟨w3.heap.size, 2, none⟩ = some (.slice A_v M.length cap_v) := HK_w0_6.out.cell 2
  have cb_w0_3 : w6.cell? ⟨w3.heap.size, 3, none⟩ = some (.int .i64 xs) := HK_w0_6.out.cell 3
  have cb_w0_4 : w6.cell? ⟨w3.heap.size, 4, none⟩ = some (.int .i64 xd) := HK_w0_6.out.cell 4
  have HK_w1_6 : Hid (Bk w6 (w3.heap.size + 1) 49 #[.int .i64 pp.id, .int .i64 pp.so, .int .i64 pp.de, .int .i64 pp.po, .int .i64 pp.ma, .int .i64 pp.si]) := Lib.hid (((HK_w1_5.out.alloc _).alloc _).old hb6)
  clear HK_w1_5
  clear cb_w1_0 cb_w1_1 cb_w1_2 cb_w1_3 cb_w1_4 cb_w1_5 zb_w1
  have zb_w1 : w3.heap.size + 1 < w6.heap.size := HK_w1_6.out.lt
  have cb_w1_0 : w6.cell? ⟨w3.heap.size + 1, 0, none⟩ = some (.int .i64 pp.id) := HK_w1_6.out.cell 0
  have cb_w1_1 : w6.cell? ⟨w3.heap.size + 1, 1, none⟩ = some (.int .i64 pp.so) := HK_w1_6.out.cell 1
  have cb_w1_2 : w6.cell? ⟨w3.heap.size + 1, 2, none⟩ = some (.int .i64 pp.de) := HK_w1_6.out.cell 2
  have cb_w1_3 : w6.cell? ⟨w3.heap.size + 1, 3, none⟩ = some (.int .i64 pp.po) := HK_w1_6.out.cell 3
  have cb_w1_4 : w6.cell? ⟨w3.heap.size + 1, 4, none⟩ = some (.int .i64 pp.ma) := HK_w1_6.out.cell 4
  have cb_w1_5 : w6.cell? ⟨w3.heap.size + 1, 5, none⟩ = some (.int .i64 pp.si) := HK_w1_6.out.cell 5
  have HK_x0_6 : Hid (Bk w6 (w4.heap.size) 36 #[.int .i64 li, .int .i64 by_, .slice A_x n cap_x, .int .i64 se, .int .i64 dr]) := Lib.hid (((HK_x0_5.out.alloc _).alloc _).old hb6)
  clear HK_x0_5
  clear cb_x0_0 cb_x0_1 cb_x0_2 cb_x0_3 cb_x0_4 zb_x0
  have zb_x0 : w4.heap.size < w6.heap.size := HK_x0_6.out.lt
  have cb_x0_0 : w6.cell? ⟨w4.heap.size, 0, none⟩ = some (.int .i64 li) := HK_x0_6.out.cell 0
  have cb_x0_1 : w6.cell? ⟨w4.heap.size, 1, none⟩ = some (.int .i64 by_) := HK_x0_6.out.cell 1
  have cb_x0_2 : w6.cell? ⟨w4.heap.size, 2, none⟩ = some (.slice A_x n cap_x) := HK_x0_6.out.cell 2
  have cb_x0_3 : w6.cell? ⟨w4.heap.size, 3, none⟩ = some (.int .i64 se) := HK_x0_6.out.cell 3
  have cb_x0_4 : w6.cell? ⟨w4.heap.size, 4, none⟩ = some (.int .i64 dr) := HK_x0_6.out.cell 4
  have HK_g0_6 : Hid (Bk w6 (w5.heap.size) 36 #[.int .i64 xl, .int .i64 xb, .slice A_g M.length cap_g, .int .i64 xs, .int .i64 xd]) := Lib.hid (((Bk.new_ (by simp) : Bk _ (w5.heap.size) 36 #[.int .i64 xl, .int .i64 xb, .slice A_g M.length cap_g, .int .i64 xs, .int .i64 xd]).alloc _).old hb6)
  have zb_g0 : w5.heap.size < w6.heap.size := HK_g0_6.out.lt
  have cb_g0_0 : w6.cell? ⟨w5.heap.size, 0, none⟩ = some (.int .i64 xl) := HK_g0_6.out.cell 0
  have cb_g0_1 : w6.cell? ⟨w5.heap.size, 1, none⟩ = some (.int .i64 xb) := HK_g0_6.out.cell 1
  have cb_g0_2 : w6.cell? ⟨w5.heap.size, 2, none⟩ = some (.slice A_g M.length cap_g) := HK_g0_6.out.cell 2
  have cb_g0_3 : w6.cell? ⟨w5.heap.size, 3, none⟩ = some (.int .i64 xs) := HK_g0_6.out.cell 3
  have cb_g0_4 : w6.cell? ⟨w5.heap.size, 4, none⟩ = some (.int .i64 xd) := HK_g0_6.out.cell 4
  have HK_g1_6 : Hid (Bk w6 (w5.heap.size + 1) 49 #[.int .i64 pp.id, .int .i64 pp.so, .int .i64 pp.de, .int .i64 pp.po, .int .i64 pp.ma, .int .i64 pp.si]) := Lib.hid ((Bk.new_ (by simp) : Bk _ (w5.heap.size + 1) 49 #[.int .i64 pp.id, .int .i64 pp.so, .int .i64 pp.de, .int .i64 pp.po, .int .i64 pp.ma, .int .i64 pp.si]).old hb6)
  have zb_g1 : w5.heap.size + 1 < w6.heap.size := HK_g1_6.out.lt
  have cb_g1_0 : w6.cell? ⟨w5.heap.size + 1, 0, none⟩ = some (.int .i64 pp.id) := HK_g1_6.out.cell 0
  have cb_g1_1 : w6.cell? ⟨w5.heap.size + 1, 1, none⟩ = some (.int .i64 pp.so) := HK_g1_6.out.cell 1
  have cb_g1_2 : w6.cell? ⟨w5.heap.size + 1, 2, none⟩ = some (.int .i64 pp.de) := HK_g1_6.out.cell 2
  have cb_g1_3 : w6.cell? ⟨w5.heap.size + 1, 3, none⟩ = some (.int .i64 pp.po) := HK_g1_6.out.cell 3
  have cb_g1_4 : w6.cell? ⟨w5.heap.size + 1, 4, none⟩ = some (.int .i64 pp.ma) := HK_g1_6.out.cell 4
  have cb_g1_5 : w6.cell? ⟨w5.heap.size + 1, 5, none⟩ = some (.int .i64 pp.si) := HK_g1_6.out.cell 5
  have HO_s_6 := Lib.hid (((HO_s_5.out.alloc _).alloc _).old hb6)
  clear HO_s_5
  have HO_v_6 := Lib.hid (((HO_v_5.out.alloc _).alloc _).old hb6)
  clear HO_v_5
  have HO_x_6 := Lib.hid (((HO_x_5.out.alloc _).alloc _).old hb6)
  clear HO_x_5
  have HO_g_6 := Lib.hid (((HO_g_5.out.alloc _).alloc _).old hb6)
  clear HO_g_5
  have HB_6 := Lib.hid (bt (ba (ba HB_5.out _) _) hb6)
  clear hb6
  go_wp2_with fail
  refine (eqPacket_any _ _ _ _ _ _ _).mono ?_
  rintro e w7 ⟨rfl, hb7⟩
  have z7 := hb7.size
  (try simp at z7)
  have HK_q_7 : Hid (Bk w7 (w.heap.size) 31 #[.int .i64 li, .int .i64 by_, .slice A n cap, .int .i64 se, .int .i64 dr]) := Lib.hid (HK_q_6.out.old hb7)
  clear HK_q_6
  clear cb_q_0 cb_q_1 cb_q_2 cb_q_3 cb_q_4 zb_q
  have zb_q : w.heap.size < w7.heap.size := HK_q_7.out.lt
  have cb_q_0 : w7.cell? ⟨w.heap.size, 0, none⟩ = some (.int .i64 li) := HK_q_7.out.cell 0
  have cb_q_1 : w7.cell? ⟨w.heap.size, 1, none⟩ = some (.int .i64 by_) := HK_q_7.out.cell 1
  have cb_q_2 : w7.cell? ⟨w.heap.size, 2, none⟩ = some (.slice A n cap) := HK_q_7.out.cell 2
  have cb_q_3 : w7.cell? ⟨w.heap.size, 3, none⟩ = some (.int .i64 se) := HK_q_7.out.cell 3
  have cb_q_4 : w7.cell? ⟨w.heap.size, 4, none⟩ = some (.int .i64 dr) := HK_q_7.out.cell 4
  have HK_w0_7 : Hid (Bk w7 (w3.heap.size) 36 #[.int .i64 xl, .int .i64 xb, .slice A_v M.length cap_v, .int .i64 xs, .int .i64 xd]) := Lib.hid (HK_w0_6.out.old hb7)
  clear HK_w0_6
  clear cb_w0_0 cb_w0_1 cb_w0_2 cb_w0_3 cb_w0_4 zb_w0
  have zb_w0 : w3.heap.size < w7.heap.size := HK_w0_7.out.lt
  have cb_w0_0 : w7.cell? ⟨w3.heap.size, 0, none⟩ = some (.int .i64 xl) := HK_w0_7.out.cell 0
  have cb_w0_1 : w7.cell? ⟨w3.heap.size, 1, none⟩ = some (.int .i64 xb) := HK_w0_7.out.cell 1
  have cb_w0_2 : w7.cell? ⟨w3.heap.size, 2, none⟩ = some (.slice A_v M.length cap_v) := HK_w0_7.out.cell 2
  have cb_w0_3 : w7.cell? ⟨w3.heap.size, 3, none⟩ = some (.int .i64 xs) := HK_w0_7.out.cell 3
  have cb_w0_4 : w7.cell? ⟨w3.heap.size, 4, none⟩ = some (.int .i64 xd) := HK_w0_7.out.cell 4
  have HK_w1_7 : Hid (Bk w7 (w3.heap.size + 1) 49 #[.int .i64 pp.id, .int .i64 pp.so, .int .i64 pp.de, .int .i64 pp.po, .int .i64 pp.ma, .int .i64 pp.si]) := Lib.hid (HK_w1_6.out.old hb7)
  clear HK_w1_6
  clear cb_w1_0 cb_w1_1 cb_w1_2 cb_w1_3 cb_w1_4 cb_w1_5 zb_w1
  have zb_w1 : w3.heap.size + 1 < w7.heap.size := HK_w1_7.out.lt
  have cb_w1_0 : w7.cell? ⟨w3.heap.size + 1, 0, none⟩ = some (.int .i64 pp.id) := HK_w1_7.out.cell 0
  have cb_w1_1 : w7.cell? ⟨w3.heap.size + 1, 1, none⟩ = some (.int .i64 pp.so) := HK_w1_7.out.cell 1
  have cb_w1_2 : w7.cell? ⟨w3.heap.size + 1, 2, none⟩ = some (.int .i64 pp.de) := HK_w1_7.out.cell 2
  have cb_w1_3 : w7.cell? ⟨w3.heap.size + 1, 3, none⟩ = some (.int .i64 pp.po) := HK_w1_7.out.cell 3
  have cb_w1_4 : w7.cell? ⟨w3.heap.size + 1, 4, none⟩ = some (.int .i64 pp.ma) := HK_w1_7.out.cell 4
  have cb_w1_5 : w7.cell? ⟨w3.heap.size + 1, 5, none⟩ = some (.int .i64 pp.si) := HK_w1_7.out.cell 5
  have HK_x0_7 : Hid (Bk w7 (w4.heap.size) 36 #[.int .i64 li, .int .i64 by_, .slice A_x n cap_x, .int .i64 se, .int .i64 dr]) := Lib.hid (HK_x0_6.out.old hb7)
  clear HK_x0_6
  clear cb_x0_0 cb_x0_1 cb_x0_2 cb_x0_3 cb_x0_4 zb_x0
  have zb_x0 : w4.heap.size < w7.heap.size := HK_x0_7.out.lt
  have cb_x0_0 : w7.cell? ⟨w4.heap.size, 0, none⟩ = some (.int .i64 li) := HK_x0_7.out.cell 0
  have cb_x0_1 : w7.cell? ⟨w4.heap.size, 1, none⟩ = some (.int .i64 by_) := HK_x0_7.out.cell 1
  have cb_x0_2 : w7.cell? ⟨w4.heap.size, 2, none⟩ = some (.slice A_x n cap_x) := HK_x0_7.out.cell 2
  have cb_x0_3 : w7.cell? ⟨w4.heap.size, 3, none⟩ = some (.int .i64 se) := HK_x0_7.out.cell 3
  have cb_x0_4 : w7.cell? ⟨w4.heap.size, 4, none⟩ = some (.int .i64 dr) := HK_x0_7.out.cell 4
  have HK_g0_7 : Hid (Bk w7 (w5.heap.size) 36 #[.int .i64 xl, .int .i64 xb, .slice A_g M.length cap_g, .int .i64 xs, .int .i64 xd]) := Lib.hid (HK_g0_6.out.old hb7)
  clear HK_g0_6
  clear cb_g0_0 cb_g0_1 cb_g0_2 cb_g0_3 cb_g0_4 zb_g0
  have zb_g0 : w5.heap.size < w7.heap.size := HK_g0_7.out.lt
  have cb_g0_0 : w7.cell? ⟨w5.heap.size, 0, none⟩ = some (.int .i64 xl) := HK_g0_7.out.cell 0
  have cb_g0_1 : w7.cell? ⟨w5.heap.size, 1, none⟩ = some (.int .i64 xb) := HK_g0_7.out.cell 1
  have cb_g0_2 : w7.cell? ⟨w5.heap.size, 2, none⟩ = some (.slice A_g M.length cap_g) := HK_g0_7.out.cell 2
  have cb_g0_3 : w7.cell? ⟨w5.heap.size, 3, none⟩ = some (.int .i64 xs) := HK_g0_7.out.cell 3
  have cb_g0_4 : w7.cell? ⟨w5.heap.size, 4, none⟩ = some (.int .i64 xd) := HK_g0_7.out.cell 4
  have HK_g1_7 : Hid (Bk w7 (w5.heap.size + 1) 49 #[.int .i64 pp.id, .int .i64 pp.so, .int .i64 pp.de, .int .i64 pp.po, .int .i64 pp.ma, .int .i64 pp.si]) := Lib.hid (HK_g1_6.out.old hb7)
  clear HK_g1_6
  clear cb_g1_0 cb_g1_1 cb_g1_2 cb_g1_3 cb_g1_4 cb_g1_5 zb_g1
  have zb_g1 : w5.heap.size + 1 < w7.heap.size := HK_g1_7.out.lt
  have cb_g1_0 : w7.cell? ⟨w5.heap.size + 1, 0, none⟩ = some (.int .i64 pp.id) := HK_g1_7.out.cell 0
  have cb_g1_1 : w7.cell? ⟨w5.heap.size + 1, 1, none⟩ = some (.int .i64 pp.so) := HK_g1_7.out.cell 1
  have cb_g1_2 : w7.cell? ⟨w5.heap.size + 1, 2, none⟩ = some (.int .i64 pp.de) := HK_g1_7.out.cell 2
  have cb_g1_3 : w7.cell? ⟨w5.heap.size + 1, 3, none⟩ = some (.int .i64 pp.po) := HK_g1_7.out.cell 3
  have cb_g1_4 : w7.cell? ⟨w5.heap.size + 1, 4, none⟩ = some (.int .i64 pp.ma) := HK_g1_7.out.cell 4
  have cb_g1_5 : w7.cell? ⟨w5.heap.size + 1, 5, none⟩ = some (.int .i64 pp.si) := HK_g1_7.out.cell 5
  have HO_s_7 := Lib.hid (HO_s_6.out.old hb7)
  clear HO_s_6
  have HO_v_7 := Lib.hid (HO_v_6.out.old hb7)
  clear HO_v_6
  have HO_x_7 := Lib.hid (HO_x_6.out.old hb7)
  clear HO_x_6
  have HO_g_7 := Lib.hid (HO_g_6.out.old hb7)
  clear HO_g_6
  have HB_7 := Lib.hid (bt HB_6.out hb7)
  clear hb7
  go_wp2_with fail
  go_region_held3 (fun w' => w'.cell? ⟨w.heap.size, 0, none⟩ = some (.int .i64 li) ∧ w'.cell? ⟨w.heap.size, 1, none⟩ = some (.int .i64 by_) ∧ w'.cell? ⟨w.heap.size, 2, none⟩ = some (.slice A n cap) ∧ w'.cell? ⟨w.heap.size, 3, none⟩ = some (.int .i64 se) ∧ w'.cell? ⟨w.heap.size, 4, none⟩ = some (.int .i64 dr) ∧ w'.cell? ⟨w3.heap.size, 0, none⟩ = some (.int .i64 xl) ∧ w'.cell? ⟨w3.heap.size, 1, none⟩ = some (.int .i64 xb) ∧ w'.cell? ⟨w3.heap.size, 2, none⟩ = some (.slice A_v M.length cap_v) ∧ w'.cell? ⟨w3.heap.size, 3, none⟩ = some (.int .i64 xs) ∧ w'.cell? ⟨w3.heap.size, 4, none⟩ = some (.int .i64 xd) ∧ w'.cell? ⟨w3.heap.size + 1, 0, none⟩ = some (.int .i64 pp.id) ∧ w'.cell? ⟨w3.heap.size + 1, 1, none⟩ = some (.int .i64 pp.so) ∧ w'.cell? ⟨w3.heap.size + 1, 2, none⟩ = some (.int .i64 pp.de) ∧ w'.cell? ⟨w3.heap.size + 1, 3, none⟩ = some (.int .i64 pp.po) ∧ w'.cell? ⟨w3.heap.size + 1, 4, none⟩ = some (.int .i64 pp.ma) ∧ w'.cell? ⟨w3.heap.size + 1, 5, none⟩ = some (.int .i64 pp.si) ∧ w'.cell? ⟨w4.heap.size, 0, none⟩ = some (.int .i64 li) ∧ w'.cell? ⟨w4.heap.size, 1, none⟩ = some (.int .i64 by_) ∧ w'.cell? ⟨w4.heap.size, 2, none⟩ = some (.slice A_x n cap_x) ∧ w'.cell? ⟨w4.heap.size, 3, none⟩ = some (.int .i64 se) ∧ w'.cell? ⟨w4.heap.size, 4, none⟩ = some (.int .i64 dr) ∧ w'.cell? ⟨w5.heap.size, 0, none⟩ = some (.int .i64 xl) ∧ w'.cell? ⟨w5.heap.size, 1, none⟩ = some (.int .i64 xb) ∧ w'.cell? ⟨w5.heap.size, 2, none⟩ = some (.slice A_g M.length cap_g) ∧ w'.cell? ⟨w5.heap.size, 3, none⟩ = some (.int .i64 xs) ∧ w'.cell? ⟨w5.heap.size, 4, none⟩ = some (.int .i64 xd) ∧ w'.cell? ⟨w5.heap.size + 1, 0, none⟩ = some (.int .i64 pp.id) ∧ w'.cell? ⟨w5.heap.size + 1, 1, none⟩ = some (.int .i64 pp.so) ∧ w'.cell? ⟨w5.heap.size + 1, 2, none⟩ = some (.int .i64 pp.de) ∧ w'.cell? ⟨w5.heap.size + 1, 3, none⟩ = some (.int .i64 pp.po) ∧ w'.cell? ⟨w5.heap.size + 1, 4, none⟩ = some (.int .i64 pp.ma) ∧ w'.cell? ⟨w5.heap.size + 1, 5, none⟩ = some (.int .i64 pp.si)) (go_keep)
    (first
      | (go_at_call 20; refine (toQueue_any _ _ _ _ _ _ _ L _ HLL.out (HR_a.out.below HB_7.out.drew) (by omega)).mono ?_; rintro e w8 ⟨A_y, cap_y, rfl, ho_y, hb8⟩; have zz8 := hb8.size; (try simp at zz8); have rkhb8_q := fun o => bkeep hb8 (w.heap.size) o (by first | omega | (simp; done) | (simp; omega)); have rkhb8_w0 := fun o => bkeep hb8 (w3.heap.size) o (by first | omega | (simp; done) | (simp; omega)); have rkhb8_w1 := fun o => bkeep hb8 (w3.heap.size + 1) o (by first | omega | (simp; done) | (simp; omega)); have rkhb8_x0 := fun o => bkeep hb8 (w4.heap.size) o (by first | omega | (simp; done) | (simp; omega)); have rkhb8_g0 := fun o => bkeep hb8 (w5.heap.size) o (by first | omega | (simp; done) | (simp; omega)); have rkhb8_g1 := fun o => bkeep hb8 (w5.heap.size + 1) o (by first | omega | (simp; done) | (simp; omega)))
      | (go_at_call 22; refine (eqQueue_any _ _ _ _ _ _ _ _ _ (fl L) _ HL.out ((HO_x_7.out.drew).old hb8).row ho_y.row (by omega)).mono ?_; rintro e w9 ⟨rfl, hb9⟩; have zz9 := hb9.size; have rkhb9_q := fun o => bkeep hb9 (w.heap.size) o (by first | omega | (simp; done) | (simp; omega)); have rkhb9_w0 := fun o => bkeep hb9 (w3.heap.size) o (by first | omega | (simp; done) | (simp; omega)); have rkhb9_w1 := fun o => bkeep hb9 (w3.heap.size + 1) o (by first | omega | (simp; done) | (simp; omega)); have rkhb9_x0 := fun o => bkeep hb9 (w4.heap.size) o (by first | omega | (simp; done) | (simp; omega)); have rkhb9_g0 := fun o => bkeep hb9 (w5.heap.size) o (by first | omega | (simp; done) | (simp; omega)); have rkhb9_g1 := fun o => bkeep hb9 (w5.heap.size + 1) o (by first | omega | (simp; done) | (simp; omega))))
  clear rkhb8_q rkhb8_w0 rkhb8_w1 rkhb8_x0 rkhb8_g0 rkhb8_g1 rkhb9_q rkhb9_w0 rkhb9_w1 rkhb9_x0 rkhb9_g0 rkhb9_g1 zz8 zz9
  have HN_y := Lib.hid ho_y.len
  have HO_y_8 := Lib.hid ho_y
  clear ho_y
  have z8 := hb8.size
  (try simp at z8)
  have HK_q_8 : Hid (Bk w8 (w.heap.size) 31 #[.int .i64 li, .int .i64 by_, .slice A n cap, .int .i64 se, .int .i64 dr]) := Lib.hid ((HK_q_7.out.drew).old hb8)
  clear HK_q_7
  clear cb_q_0 cb_q_1 cb_q_2 cb_q_3 cb_q_4 zb_q
  have zb_q : w.heap.size < w8.heap.size := HK_q_8.out.lt
  have cb_q_0 : w8.cell? ⟨w.heap.size, 0, none⟩ = some (.int .i64 li) := HK_q_8.out.cell 0
  have cb_q_1 : w8.cell? ⟨w.heap.size, 1, none⟩ = some (.int .i64 by_) := HK_q_8.out.cell 1
  have cb_q_2 : w8.cell? ⟨w.heap.size, 2, none⟩ = some (.slice A n cap) := HK_q_8.out.cell 2
  have cb_q_3 : w8.cell? ⟨w.heap.size, 3, none⟩ = some (.int .i64 se) := HK_q_8.out.cell 3
  have cb_q_4 : w8.cell? ⟨w.heap.size, 4, none⟩ = some (.int .i64 dr) := HK_q_8.out.cell 4
  have HK_w0_8 : Hid (Bk w8 (w3.heap.size) 36 #[.int .i64 xl, .int .i64 xb, .slice A_v M.length cap_v, .int .i64 xs, .int .i64 xd]) := Lib.hid ((HK_w0_7.out.drew).old hb8)
  clear HK_w0_7
  clear cb_w0_0 cb_w0_1 cb_w0_2 cb_w0_3 cb_w0_4 zb_w0
  have zb_w0 : w3.heap.size < w8.heap.size := HK_w0_8.out.lt
  have cb_w0_0 : w8.cell? ⟨w3.heap.size, 0, none⟩ = some (.int .i64 xl) := HK_w0_8.out.cell 0
  have cb_w0_1 : w8.cell? ⟨w3.heap.size, 1, none⟩ = some (.int .i64 xb) := HK_w0_8.out.cell 1
  have cb_w0_2 : w8.cell? ⟨w3.heap.size, 2, none⟩ = some (.slice A_v M.length cap_v) := HK_w0_8.out.cell 2
  have cb_w0_3 : w8.cell? ⟨w3.heap.size, 3, none⟩ = some (.int .i64 xs) := HK_w0_8.out.cell 3
  have cb_w0_4 : w8.cell? ⟨w3.heap.size, 4, none⟩ = some (.int .i64 xd) := HK_w0_8.out.cell 4
  have HK_w1_8 : Hid (Bk w8 (w3.heap.size + 1) 49 #[.int .i64 pp.id, .int .i64 pp.so, .int .i64 pp.de, .int .i64 pp.po, .int .i64 pp.ma, .int .i64 pp.si]) := Lib.hid ((HK_w1_7.out.drew).old hb8)
  clear HK_w1_7
  clear cb_w1_0 cb_w1_1 cb_w1_2 cb_w1_3 cb_w1_4 cb_w1_5 zb_w1
  have zb_w1 : w3.heap.size + 1 < w8.heap.size := HK_w1_8.out.lt
  have cb_w1_0 : w8.cell? ⟨w3.heap.size + 1, 0, none⟩ = some (.int .i64 pp.id) := HK_w1_8.out.cell 0
  have cb_w1_1 : w8.cell? ⟨w3.heap.size + 1, 1, none⟩ = some (.int .i64 pp.so) := HK_w1_8.out.cell 1
  have cb_w1_2 : w8.cell? ⟨w3.heap.size + 1, 2, none⟩ = some (.int .i64 pp.de) := HK_w1_8.out.cell 2
  have cb_w1_3 : w8.cell? ⟨w3.heap.size + 1, 3, none⟩ = some (.int .i64 pp.po) := HK_w1_8.out.cell 3
  have cb_w1_4 : w8.cell? ⟨w3.heap.size + 1, 4, none⟩ = some (.int .i64 pp.ma) := HK_w1_8.out.cell 4
  have cb_w1_5 : w8.cell? ⟨w3.heap.size + 1, 5, none⟩ = some (.int .i64 pp.si) := HK_w1_8.out.cell 5
  have HK_x0_8 : Hid (Bk w8 (w4.heap.size) 36 #[.int .i64 li, .int .i64 by_, .slice A_x n cap_x, .int .i64 se, .int .i64 dr]) := Lib.hid ((HK_x0_7.out.drew).old hb8)
  clear HK_x0_7
  clear cb_x0_0 cb_x0_1 cb_x0_2 cb_x0_3 cb_x0_4 zb_x0
  have zb_x0 : w4.heap.size < w8.heap.size := HK_x0_8.out.lt
  have cb_x0_0 : w8.cell? ⟨w4.heap.size, 0, none⟩ = some (.int .i64 li) := HK_x0_8.out.cell 0
  have cb_x0_1 : w8.cell? ⟨w4.heap.size, 1, none⟩ = some (.int .i64 by_) := HK_x0_8.out.cell 1
  have cb_x0_2 : w8.cell? ⟨w4.heap.size, 2, none⟩ = some (.slice A_x n cap_x) := HK_x0_8.out.cell 2
  have cb_x0_3 : w8.cell? ⟨w4.heap.size, 3, none⟩ = some (.int .i64 se) := HK_x0_8.out.cell 3
  have cb_x0_4 : w8.cell? ⟨w4.heap.size, 4, none⟩ = some (.int .i64 dr) := HK_x0_8.out.cell 4
  have HK_g0_8 : Hid (Bk w8 (w5.heap.size) 36 #[.int .i64 xl, .int .i64 xb, .slice A_g M.length cap_g, .int .i64 xs, .int .i64 xd]) := Lib.hid ((HK_g0_7.out.drew).old hb8)
  clear HK_g0_7
  clear cb_g0_0 cb_g0_1 cb_g0_2 cb_g0_3 cb_g0_4 zb_g0
  have zb_g0 : w5.heap.size < w8.heap.size := HK_g0_8.out.lt
  have cb_g0_0 : w8.cell? ⟨w5.heap.size, 0, none⟩ = some (.int .i64 xl) := HK_g0_8.out.cell 0
  have cb_g0_1 : w8.cell? ⟨w5.heap.size, 1, none⟩ = some (.int .i64 xb) := HK_g0_8.out.cell 1
  have cb_g0_2 : w8.cell? ⟨w5.heap.size, 2, none⟩ = some (.slice A_g M.length cap_g) := HK_g0_8.out.cell 2
  have cb_g0_3 : w8.cell? ⟨w5.heap.size, 3, none⟩ = some (.int .i64 xs) := HK_g0_8.out.cell 3
  have cb_g0_4 : w8.cell? ⟨w5.heap.size, 4, none⟩ = some (.int .i64 xd) := HK_g0_8.out.cell 4
  have HK_g1_8 : Hid (Bk w8 (w5.heap.size + 1) 49 #[.int .i64 pp.id, .int .i64 pp.so, .int .i64 pp.de, .int .i64 pp.po, .int .i64 pp.ma, .int .i64 pp.si]) := Lib.hid ((HK_g1_7.out.drew).old hb8)
  clear HK_g1_7
  clear cb_g1_0 cb_g1_1 cb_g1_2 cb_g1_3 cb_g1_4 cb_g1_5 zb_g1
  have zb_g1 : w5.heap.size + 1 < w8.heap.size := HK_g1_8.out.lt
  have cb_g1_0 : w8.cell? ⟨w5.heap.size + 1, 0, none⟩ = some (.int .i64 pp.id) := HK_g1_8.out.cell 0
  have cb_g1_1 : w8.cell? ⟨w5.heap.size + 1, 1, none⟩ = some (.int .i64 pp.so) := HK_g1_8.out.cell 1
  have cb_g1_2 : w8.cell? ⟨w5.heap.size + 1, 2, none⟩ = some (.int .i64 pp.de) := HK_g1_8.out.cell 2
  have cb_g1_3 : w8.cell? ⟨w5.heap.size + 1, 3, none⟩ = some (.int .i64 pp.po) := HK_g1_8.out.cell 3
  have cb_g1_4 : w8.cell? ⟨w5.heap.size + 1, 4, none⟩ = some (.int .i64 pp.ma) := HK_g1_8.out.cell 4
  have cb_g1_5 : w8.cell? ⟨w5.heap.size + 1, 5, none⟩ = some (.int .i64 pp.si) := HK_g1_8.out.cell 5
  have HO_s_8 := Lib.hid ((HO_s_7.out.drew).old hb8)
  clear HO_s_7
  have HO_v_8 := Lib.hid ((HO_v_7.out.drew).old hb8)
  clear HO_v_7
  have HO_x_8 := Lib.hid ((HO_x_7.out.drew).old hb8)
  clear HO_x_7
  have HO_g_8 := Lib.hid ((HO_g_7.out.drew).old hb8)
  clear HO_g_7
  have HB_8 := Lib.hid (bt HB_7.out.drew hb8)
  clear hb8
  have z9 := hb9.size
  (try simp at z9)
  have HK_q_9 : Hid (Bk w9 (w.heap.size) 31 #[.int .i64 li, .int .i64 by_, .slice A n cap, .int .i64 se, .int .i64 dr]) := Lib.hid (HK_q_8.out.old hb9)
  clear HK_q_8
  clear cb_q_0 cb_q_1 cb_q_2 cb_q_3 cb_q_4 zb_q
  have zb_q : w.heap.size < w9.heap.size := HK_q_9.out.lt
  have cb_q_0 : w9.cell? ⟨w.heap.size, 0, none⟩ = some (.int .i64 li) := HK_q_9.out.cell 0
  have cb_q_1 : w9.cell? ⟨w.heap.size, 1, none⟩ = some (.int .i64 by_) := HK_q_9.out.cell 1
  have cb_q_2 : w9.cell? ⟨w.heap.size, 2, none⟩ = some (.slice A n cap) := HK_q_9.out.cell 2
  have cb_q_3 : w9.cell? ⟨w.heap.size, 3, none⟩ = some (.int .i64 se) := HK_q_9.out.cell 3
  have cb_q_4 : w9.cell? ⟨w.heap.size, 4, none⟩ = some (.int .i64 dr) := HK_q_9.out.cell 4
  have HK_w0_9 : Hid (Bk w9 (w3.heap.size) 36 #[.int .i64 xl, .int .i64 xb, .slice A_v M.length cap_v, .int .i64 xs, .int .i64 xd]) := Lib.hid (HK_w0_8.out.old hb9)
  clear HK_w0_8
  clear cb_w0_0 cb_w0_1 cb_w0_2 cb_w0_3 cb_w0_4 zb_w0
  have zb_w0 : w3.heap.size < w9.heap.size := HK_w0_9.out.lt
  have cb_w0_0 : w9.cell? ⟨w3.heap.size, 0, none⟩ = some (.int .i64 xl) := HK_w0_9.out.cell 0
  have cb_w0_1 : w9.cell? ⟨w3.heap.size, 1, none⟩ = some (.int .i64 xb) := HK_w0_9.out.cell 1
  have cb_w0_2 : w9.cell? ⟨w3.heap.size, 2, none⟩ = some (.slice A_v M.length cap_v) := HK_w0_9.out.cell 2
  have cb_w0_3 : w9.cell? ⟨w3.heap.size, 3, none⟩ = some (.int .i64 xs) := HK_w0_9.out.cell 3
  have cb_w0_4 : w9.cell? ⟨w3.heap.size, 4, none⟩ = some (.int .i64 xd) := HK_w0_9.out.cell 4
  have HK_w1_9 : Hid (Bk w9 (w3.heap.size + 1) 49 #[.int .i64 pp.id, .int .i64 pp.so, .int .i64 pp.de, .int .i64 pp.po, .int .i64 pp.ma, .int .i64 pp.si]) := Lib.hid (HK_w1_8.out.old hb9)
  clear HK_w1_8
  clear cb_w1_0 cb_w1_1 cb_w1_2 cb_w1_3 cb_w1_4 cb_w1_5 zb_w1
  have zb_w1 : w3.heap.size + 1 < w9.heap.size := HK_w1_9.out.lt
  have cb_w1_0 : w9.cell? ⟨w3.heap.size + 1, 0, none⟩ = some (.int .i64 pp.id) := HK_w1_9.out.cell 0
  have cb_w1_1 : w9.cell? ⟨w3.heap.size + 1, 1, none⟩ = some (.int .i64 pp.so) := HK_w1_9.out.cell 1
  have cb_w1_2 : w9.cell? ⟨w3.heap.size + 1, 2, none⟩ = some (.int .i64 pp.de) := HK_w1_9.out.cell 2
  have cb_w1_3 : w9.cell? ⟨w3.heap.size + 1, 3, none⟩ = some (.int .i64 pp.po) := HK_w1_9.out.cell 3
  have cb_w1_4 : w9.cell? ⟨w3.heap.size + 1, 4, none⟩ = some (.int .i64 pp.ma) := HK_w1_9.out.cell 4
  have cb_w1_5 : w9.cell? ⟨w3.heap.size + 1, 5, none⟩ = some (.int .i64 pp.si) := HK_w1_9.out.cell 5
  have HK_x0_9 : Hid (Bk w9 (w4.heap.size) 36 #[.int .i64 li, .int .i64 by_, .slice A_x n cap_x, .int .i64 se, .int .i64 dr]) := Lib.hid (HK_x0_8.out.old hb9)
  clear HK_x0_8
  clear cb_x0_0 cb_x0_1 cb_x0_2 cb_x0_3 cb_x0_4 zb_x0
  have zb_x0 : w4.heap.size < w9.heap.size := HK_x0_9.out.lt
  have cb_x0_0 : w9.cell? ⟨w4.heap.size, 0, none⟩ = some (.int .i64 li) := HK_x0_9.out.cell 0
  have cb_x0_1 : w9.cell? ⟨w4.heap.size, 1, none⟩ = some (.int .i64 by_) := HK_x0_9.out.cell 1
  have cb_x0_2 : w9.cell? ⟨w4.heap.size, 2, none⟩ = some (.slice A_x n cap_x) := HK_x0_9.out.cell 2
  have cb_x0_3 : w9.cell? ⟨w4.heap.size, 3, none⟩ = some (.int .i64 se) := HK_x0_9.out.cell 3
  have cb_x0_4 : w9.cell? ⟨w4.heap.size, 4, none⟩ = some (.int .i64 dr) := HK_x0_9.out.cell 4
  have HK_g0_9 : Hid (Bk w9 (w5.heap.size) 36 #[.int .i64 xl, .int .i64 xb, .slice A_g M.length cap_g, .int .i64 xs, .int .i64 xd]) := Lib.hid (HK_g0_8.out.old hb9)
  clear HK_g0_8
  clear cb_g0_0 cb_g0_1 cb_g0_2 cb_g0_3 cb_g0_4 zb_g0
  have zb_g0 : w5.heap.size < w9.heap.size := HK_g0_9.out.lt
  have cb_g0_0 : w9.cell? ⟨w5.heap.size, 0, none⟩ = some (.int .i64 xl) := HK_g0_9.out.cell 0
  have cb_g0_1 : w9.cell? ⟨w5.heap.size, 1, none⟩ = some (.int .i64 xb) := HK_g0_9.out.cell 1
  have cb_g0_2 : w9.cell? ⟨w5.heap.size, 2, none⟩ = some (.slice A_g M.length cap_g) := HK_g0_9.out.cell 2
  have cb_g0_3 : w9.cell? ⟨w5.heap.size, 3, none⟩ = some (.int .i64 xs) := HK_g0_9.out.cell 3
  have cb_g0_4 : w9.cell? ⟨w5.heap.size, 4, none⟩ = some (.int .i64 xd) := HK_g0_9.out.cell 4
  have HK_g1_9 : Hid (Bk w9 (w5.heap.size + 1) 49 #[.int .i64 pp.id, .int .i64 pp.so, .int .i64 pp.de, .int .i64 pp.po, .int .i64 pp.ma, .int .i64 pp.si]) := Lib.hid (HK_g1_8.out.old hb9)
  clear HK_g1_8
  clear cb_g1_0 cb_g1_1 cb_g1_2 cb_g1_3 cb_g1_4 cb_g1_5 zb_g1
  have zb_g1 : w5.heap.size + 1 < w9.heap.size := HK_g1_9.out.lt
  have cb_g1_0 : w9.cell? ⟨w5.heap.size + 1, 0, none⟩ = some (.int .i64 pp.id) := HK_g1_9.out.cell 0
  have cb_g1_1 : w9.cell? ⟨w5.heap.size + 1, 1, none⟩ = some (.int .i64 pp.so) := HK_g1_9.out.cell 1
  have cb_g1_2 : w9.cell? ⟨w5.heap.size + 1, 2, none⟩ = some (.int .i64 pp.de) := HK_g1_9.out.cell 2
  have cb_g1_3 : w9.cell? ⟨w5.heap.size + 1, 3, none⟩ = some (.int .i64 pp.po) := HK_g1_9.out.cell 3
  have cb_g1_4 : w9.cell? ⟨w5.heap.size + 1, 4, none⟩ = some (.int .i64 pp.ma) := HK_g1_9.out.cell 4
  have cb_g1_5 : w9.cell? ⟨w5.heap.size + 1, 5, none⟩ = some (.int .i64 pp.si) := HK_g1_9.out.cell 5
  have HO_s_9 := Lib.hid (HO_s_8.out.old hb9)
  clear HO_s_8
  have HO_v_9 := Lib.hid (HO_v_8.out.old hb9)
  clear HO_v_8
  have HO_x_9 := Lib.hid (HO_x_8.out.old hb9)
  clear HO_x_8
  have HO_g_9 := Lib.hid (HO_g_8.out.old hb9)
  clear HO_g_8
  have HO_y_9 := Lib.hid (HO_y_8.out.old hb9)
  clear HO_y_8
  have HB_9 := Lib.hid (bt HB_8.out hb9)
  clear hb9
  go_wp2_with fail
  refine (markQueue_any _ _ _ _ _ _ _ (fl L) 1 _ _ _ HO_x_9.out (by omega) (by omega) (by omega) (by omega)).mono ?_
  rintro e w10 ⟨rfl, ho10, hb10⟩
  have HO_x_10 := Lib.hid ho10
  clear ho10
  have z10 := hb10.size
  (try simp at z10)
  have HK_q_10 : Hid (Bk w10 (w.heap.size) 31 #[.int .i64 li, .int .i64 by_, .slice A n cap, .int .i64 se, .int .i64 dr]) := Lib.hid (HK_q_9.out.chg hb10 (by first | omega | (simp; done) | (simp; omega)))
  clear HK_q_9
  clear cb_q_0 cb_q_1 cb_q_2 cb_q_3 cb_q_4 zb_q
  have zb_q : w.heap.size < w10.heap.size := HK_q_10.out.lt
  have cb_q_0 : w10.cell? ⟨w.heap.size, 0, none⟩ = some (.int .i64 li) := HK_q_10.out.cell 0
  have cb_q_1 : w10.cell? ⟨w.heap.size, 1, none⟩ = some (.int .i64 by_) := HK_q_10.out.cell 1
  have cb_q_2 : w10.cell? ⟨w.heap.size, 2, none⟩ = some (.slice A n cap) := HK_q_10.out.cell 2
  have cb_q_3 : w10.cell? ⟨w.heap.size, 3, none⟩ = some (.int .i64 se) := HK_q_10.out.cell 3
  have cb_q_4 : w10.cell? ⟨w.heap.size, 4, none⟩ = some (.int .i64 dr) := HK_q_10.out.cell 4
  have HK_w0_10 : Hid (Bk w10 (w3.heap.size) 36 #[.int .i64 xl, .int .i64 xb, .slice A_v M.length cap_v, .int .i64 xs, .int .i64 xd]) := Lib.hid (HK_w0_9.out.chg hb10 (by first | omega | (simp; done) | (simp; omega)))
  clear HK_w0_9
  clear cb_w0_0 cb_w0_1 cb_w0_2 cb_w0_3 cb_w0_4 zb_w0
  have zb_w0 : w3.heap.size < w10.heap.size := HK_w0_10.out.lt
  have cb_w0_0 : w10.cell? ⟨w3.heap.size, 0, none⟩ = some (.int .i64 xl) := HK_w0_10.out.cell 0
  have cb_w0_1 : w10.cell? ⟨w3.heap.size, 1, none⟩ = some (.int .i64 xb) := HK_w0_10.out.cell 1
  have cb_w0_2 : w10.cell? ⟨w3.heap.size, 2, none⟩ = some (.slice A_v M.length cap_v) := HK_w0_10.out.cell 2
  have cb_w0_3 : w10.cell? ⟨w3.heap.size, 3, none⟩ = some (.int .i64 xs) := HK_w0_10.out.cell 3
  have cb_w0_4 : w10.cell? ⟨w3.heap.size, 4, none⟩ = some (.int .i64 xd) := HK_w0_10.out.cell 4
  have HK_w1_10 : Hid (Bk w10 (w3.heap.size + 1) 49 #[.int .i64 pp.id, .int .i64 pp.so, .int .i64 pp.de, .int .i64 pp.po, .int .i64 pp.ma, .int .i64 pp.si]) := Lib.hid (HK_w1_9.out.chg hb10 (by first | omega | (simp; done) | (simp; omega)))
  clear HK_w1_9
  clear cb_w1_0 cb_w1_1 cb_w1_2 cb_w1_3 cb_w1_4 cb_w1_5 zb_w1
  have zb_w1 : w3.heap.size + 1 < w10.heap.size := HK_w1_10.out.lt
  have cb_w1_0 : w10.cell? ⟨w3.heap.size + 1, 0, none⟩ = some (.int .i64 pp.id) := HK_w1_10.out.cell 0
  have cb_w1_1 : w10.cell? ⟨w3.heap.size + 1, 1, none⟩ = some (.int .i64 pp.so) := HK_w1_10.out.cell 1
  have cb_w1_2 : w10.cell? ⟨w3.heap.size + 1, 2, none⟩ = some (.int .i64 pp.de) := HK_w1_10.out.cell 2
  have cb_w1_3 : w10.cell? ⟨w3.heap.size + 1, 3, none⟩ = some (.int .i64 pp.po) := HK_w1_10.out.cell 3
  have cb_w1_4 : w10.cell? ⟨w3.heap.size + 1, 4, none⟩ = some (.int .i64 pp.ma) := HK_w1_10.out.cell 4
  have cb_w1_5 : w10.cell? ⟨w3.heap.size + 1, 5, none⟩ = some (.int .i64 pp.si) := HK_w1_10.out.cell 5
  have HK_x0_10 : Hid (Bk w10 (w4.heap.size) 36 #[.int .i64 li, .int .i64 by_, .slice A_x n cap_x, .int .i64 se, .int .i64 dr]) := Lib.hid (HK_x0_9.out.chg hb10 (by first | omega | (simp; done) | (simp; omega)))
  clear HK_x0_9
  clear cb_x0_0 cb_x0_1 cb_x0_2 cb_x0_3 cb_x0_4 zb_x0
  have zb_x0 : w4.heap.size < w10.heap.size := HK_x0_10.out.lt
  have cb_x0_0 : w10.cell? ⟨w4.heap.size, 0, none⟩ = some (.int .i64 li) := HK_x0_10.out.cell 0
  have cb_x0_1 : w10.cell? ⟨w4.heap.size, 1, none⟩ = some (.int .i64 by_) := HK_x0_10.out.cell 1
  have cb_x0_2 : w10.cell? ⟨w4.heap.size, 2, none⟩ = some (.slice A_x n cap_x) := HK_x0_10.out.cell 2
  have cb_x0_3 : w10.cell? ⟨w4.heap.size, 3, none⟩ = some (.int .i64 se) := HK_x0_10.out.cell 3
  have cb_x0_4 : w10.cell? ⟨w4.heap.size, 4, none⟩ = some (.int .i64 dr) := HK_x0_10.out.cell 4
  have HK_g0_10 : Hid (Bk w10 (w5.heap.size) 36 #[.int .i64 xl, .int .i64 xb, .slice A_g M.length cap_g, .int .i64 xs, .int .i64 xd]) := Lib.hid (HK_g0_9.out.chg hb10 (by first | omega | (simp; done) | (simp; omega)))
  clear HK_g0_9
  clear cb_g0_0 cb_g0_1 cb_g0_2 cb_g0_3 cb_g0_4 zb_g0
  have zb_g0 : w5.heap.size < w10.heap.size := HK_g0_10.out.lt
  have cb_g0_0 : w10.cell? ⟨w5.heap.size, 0, none⟩ = some (.int .i64 xl) := HK_g0_10.out.cell 0
  have cb_g0_1 : w10.cell? ⟨w5.heap.size, 1, none⟩ = some (.int .i64 xb) := HK_g0_10.out.cell 1
  have cb_g0_2 : w10.cell? ⟨w5.heap.size, 2, none⟩ = some (.slice A_g M.length cap_g) := HK_g0_10.out.cell 2
  have cb_g0_3 : w10.cell? ⟨w5.heap.size, 3, none⟩ = some (.int .i64 xs) := HK_g0_10.out.cell 3
  have cb_g0_4 : w10.cell? ⟨w5.heap.size, 4, none⟩ = some (.int .i64 xd) := HK_g0_10.out.cell 4
  have HK_g1_10 : Hid (Bk w10 (w5.heap.size + 1) 49 #[.int .i64 pp.id, .int .i64 pp.so, .int .i64 pp.de, .int .i64 pp.po, .int .i64 pp.ma, .int .i64 pp.si]) := Lib.hid (HK_g1_9.out.chg hb10 (by first | omega | (simp; done) | (simp; omega)))
  clear HK_g1_9
  clear cb_g1_0 cb_g1_1 cb_g1_2 cb_g1_3 cb_g1_4 cb_g1_5 zb_g1
  have zb_g1 : w5.heap.size + 1 < w10.heap.size := HK_g1_10.out.lt
  have cb_g1_0 : w10.cell? ⟨w5.heap.size + 1, 0, none⟩ = some (.int .i64 pp.id) := HK_g1_10.out.cell 0
  have cb_g1_1 : w10.cell? ⟨w5.heap.size + 1, 1, none⟩ = some (.int .i64 pp.so) := HK_g1_10.out.cell 1
  have cb_g1_2 : w10.cell? ⟨w5.heap.size + 1, 2, none⟩ = some (.int .i64 pp.de) := HK_g1_10.out.cell 2
  have cb_g1_3 : w10.cell? ⟨w5.heap.size + 1, 3, none⟩ = some (.int .i64 pp.po) := HK_g1_10.out.cell 3
  have cb_g1_4 : w10.cell? ⟨w5.heap.size + 1, 4, none⟩ = some (.int .i64 pp.ma) := HK_g1_10.out.cell 4
  have cb_g1_5 : w10.cell? ⟨w5.heap.size + 1, 5, none⟩ = some (.int .i64 pp.si) := HK_g1_10.out.cell 5
  have HO_s_10 := Lib.hid (HO_s_9.out.chg hb10 (by first | omega | (simp; done) | (simp; omega)))
  clear HO_s_9
  have HO_v_10 := Lib.hid (HO_v_9.out.chg hb10 (by first | omega | (simp; done) | (simp; omega)))
  clear HO_v_9
  have HO_g_10 := Lib.hid (HO_g_9.out.chg hb10 (by first | omega | (simp; done) | (simp; omega)))
  clear HO_g_9
  have HO_y_10 := Lib.hid (HO_y_9.out.chg hb10 (by first | omega | (simp; done) | (simp; omega)))
  clear HO_y_9
  have HB_10 := Lib.hid (Chg.below HB_9.out hb10 (by first | omega | (simp; done) | (simp; omega)))
  clear hb10
  clear HO_x_9
  go_wp2_with fail
  refine (eqQueue_any _ _ _ _ _ _ _ _ _ (fl M) _ HMM.out HO_g_10.out.row HO_v_10.out.row (by omega)).mono ?_
  rintro e w11 ⟨rfl, hb11⟩
  have z11 := hb11.size
  (try simp at z11)
  have HK_q_11 : Hid (Bk w11 (w.heap.size) 31 #[.int .i64 li, .int .i64 by_, .slice A n cap, .int .i64 se, .int .i64 dr]) := Lib.hid (HK_q_10.out.old hb11)
  clear HK_q_10
  clear cb_q_0 cb_q_1 cb_q_2 cb_q_3 cb_q_4 zb_q
  have zb_q : w.heap.size < w11.heap.size := HK_q_11.out.lt
  have cb_q_0 : w11.cell? ⟨w.heap.size, 0, none⟩ = some (.int .i64 li) := HK_q_11.out.cell 0
  have cb_q_1 : w11.cell? ⟨w.heap.size, 1, none⟩ = some (.int .i64 by_) := HK_q_11.out.cell 1
  have cb_q_2 : w11.cell? ⟨w.heap.size, 2, none⟩ = some (.slice A n cap) := HK_q_11.out.cell 2
  have cb_q_3 : w11.cell? ⟨w.heap.size, 3, none⟩ = some (.int .i64 se) := HK_q_11.out.cell 3
  have cb_q_4 : w11.cell? ⟨w.heap.size, 4, none⟩ = some (.int .i64 dr) := HK_q_11.out.cell 4
  have HK_w0_11 : Hid (Bk w11 (w3.heap.size) 36 #[.int .i64 xl, .int .i64 xb, .slice A_v M.length cap_v, .int .i64 xs, .int .i64 xd]) := Lib.hid (HK_w0_10.out.old hb11)
  clear HK_w0_10
  clear cb_w0_0 cb_w0_1 cb_w0_2 cb_w0_3 cb_w0_4 zb_w0
  have zb_w0 : w3.heap.size < w11.heap.size := HK_w0_11.out.lt
  have cb_w0_0 : w11.cell? ⟨w3.heap.size, 0, none⟩ = some (.int .i64 xl) := HK_w0_11.out.cell 0
  have cb_w0_1 : w11.cell? ⟨w3.heap.size, 1, none⟩ = some (.int .i64 xb) := HK_w0_11.out.cell 1
  have cb_w0_2 : w11.cell? ⟨w3.heap.size, 2, none⟩ = some (.slice A_v M.length cap_v) := HK_w0_11.out.cell 2
  have cb_w0_3 : w11.cell? ⟨w3.heap.size, 3, none⟩ = some (.int .i64 xs) := HK_w0_11.out.cell 3
  have cb_w0_4 : w11.cell? ⟨w3.heap.size, 4, none⟩ = some (.int .i64 xd) := HK_w0_11.out.cell 4
  have HK_w1_11 : Hid (Bk w11 (w3.heap.size + 1) 49 #[.int .i64 pp.id, .int .i64 pp.so, .int .i64 pp.de, .int .i64 pp.po, .int .i64 pp.ma, .int .i64 pp.si]) := Lib.hid (HK_w1_10.out.old hb11)
  clear HK_w1_10
  clear cb_w1_0 cb_w1_1 cb_w1_2 cb_w1_3 cb_w1_4 cb_w1_5 zb_w1
  have zb_w1 : w3.heap.size + 1 < w11.heap.size := HK_w1_11.out.lt
  have cb_w1_0 : w11.cell? ⟨w3.heap.size + 1, 0, none⟩ = some (.int .i64 pp.id) := HK_w1_11.out.cell 0
  have cb_w1_1 : w11.cell? ⟨w3.heap.size + 1, 1, none⟩ = some (.int .i64 pp.so) := HK_w1_11.out.cell 1
  have cb_w1_2 : w11.cell? ⟨w3.heap.size + 1, 2, none⟩ = some (.int .i64 pp.de) := HK_w1_11.out.cell 2
  have cb_w1_3 : w11.cell? ⟨w3.heap.size + 1, 3, none⟩ = some (.int .i64 pp.po) := HK_w1_11.out.cell 3
  have cb_w1_4 : w11.cell? ⟨w3.heap.size + 1, 4, none⟩ = some (.int .i64 pp.ma) := HK_w1_11.out.cell 4
  have cb_w1_5 : w11.cell? ⟨w3.heap.size + 1, 5, none⟩ = some (.int .i64 pp.si) := HK_w1_11.out.cell 5
  have HK_x0_11 : Hid (Bk w11 (w4.heap.size) 36 #[.int .i64 li, .int .i64 by_, .slice A_x n cap_x, .int .i64 se, .int .i64 dr]) := Lib.hid (HK_x0_10.out.old hb11)
  clear HK_x0_10
  clear cb_x0_0 cb_x0_1 cb_x0_2 cb_x0_3 cb_x0_4 zb_x0
  have zb_x0 : w4.heap.size < w11.heap.size := HK_x0_11.out.lt
  have cb_x0_0 : w11.cell? ⟨w4.heap.size, 0, none⟩ = some (.int .i64 li) := HK_x0_11.out.cell 0
  have cb_x0_1 : w11.cell? ⟨w4.heap.size, 1, none⟩ = some (.int .i64 by_) := HK_x0_11.out.cell 1
  have cb_x0_2 : w11.cell? ⟨w4.heap.size, 2, none⟩ = some (.slice A_x n cap_x) := HK_x0_11.out.cell 2
  have cb_x0_3 : w11.cell? ⟨w4.heap.size, 3, none⟩ = some (.int .i64 se) := HK_x0_11.out.cell 3
  have cb_x0_4 : w11.cell? ⟨w4.heap.size, 4, none⟩ = some (.int .i64 dr) := HK_x0_11.out.cell 4
  have HK_g0_11 : Hid (Bk w11 (w5.heap.size) 36 #[.int .i64 xl, .int .i64 xb, .slice A_g M.length cap_g, .int .i64 xs, .int .i64 xd]) := Lib.hid (HK_g0_10.out.old hb11)
  clear HK_g0_10
  clear cb_g0_0 cb_g0_1 cb_g0_2 cb_g0_3 cb_g0_4 zb_g0
  have zb_g0 : w5.heap.size < w11.heap.size := HK_g0_11.out.lt
  have cb_g0_0 : w11.cell? ⟨w5.heap.size, 0, none⟩ = some (.int .i64 xl) := HK_g0_11.out.cell 0
  have cb_g0_1 : w11.cell? ⟨w5.heap.size, 1, none⟩ = some (.int .i64 xb) := HK_g0_11.out.cell 1
  have cb_g0_2 : w11.cell? ⟨w5.heap.size, 2, none⟩ = some (.slice A_g M.length cap_g) := HK_g0_11.out.cell 2
  have cb_g0_3 : w11.cell? ⟨w5.heap.size, 3, none⟩ = some (.int .i64 xs) := HK_g0_11.out.cell 3
  have cb_g0_4 : w11.cell? ⟨w5.heap.size, 4, none⟩ = some (.int .i64 xd) := HK_g0_11.out.cell 4
  have HK_g1_11 : Hid (Bk w11 (w5.heap.size + 1) 49 #[.int .i64 pp.id, .int .i64 pp.so, .int .i64 pp.de, .int .i64 pp.po, .int .i64 pp.ma, .int .i64 pp.si]) := Lib.hid (HK_g1_10.out.old hb11)
  clear HK_g1_10
  clear cb_g1_0 cb_g1_1 cb_g1_2 cb_g1_3 cb_g1_4 cb_g1_5 zb_g1
  have zb_g1 : w5.heap.size + 1 < w11.heap.size := HK_g1_11.out.lt
  have cb_g1_0 : w11.cell? ⟨w5.heap.size + 1, 0, none⟩ = some (.int .i64 pp.id) := HK_g1_11.out.cell 0
  have cb_g1_1 : w11.cell? ⟨w5.heap.size + 1, 1, none⟩ = some (.int .i64 pp.so) := HK_g1_11.out.cell 1
  have cb_g1_2 : w11.cell? ⟨w5.heap.size + 1, 2, none⟩ = some (.int .i64 pp.de) := HK_g1_11.out.cell 2
  have cb_g1_3 : w11.cell? ⟨w5.heap.size + 1, 3, none⟩ = some (.int .i64 pp.po) := HK_g1_11.out.cell 3
  have cb_g1_4 : w11.cell? ⟨w5.heap.size + 1, 4, none⟩ = some (.int .i64 pp.ma) := HK_g1_11.out.cell 4
  have cb_g1_5 : w11.cell? ⟨w5.heap.size + 1, 5, none⟩ = some (.int .i64 pp.si) := HK_g1_11.out.cell 5
  have HO_s_11 := Lib.hid (HO_s_10.out.old hb11)
  clear HO_s_10
  have HO_v_11 := Lib.hid (HO_v_10.out.old hb11)
  clear HO_v_10
  have HO_x_11 := Lib.hid (HO_x_10.out.old hb11)
  clear HO_x_10
  have HO_g_11 := Lib.hid (HO_g_10.out.old hb11)
  clear HO_g_10
  have HO_y_11 := Lib.hid (HO_y_10.out.old hb11)
  clear HO_y_10
  have HB_11 := Lib.hid (bt HB_10.out hb11)
  clear hb11
  go_wp2_with fail
  refine (eqPacket_any _ _ _ _ _ _ _).mono ?_
  rintro e w12 ⟨rfl, hb12⟩
  have z12 := hb12.size
  (try simp at z12)
  have HK_q_12 : Hid (Bk w12 (w.heap.size) 31 #[.int .i64 li, .int .i64 by_, .slice A n cap, .int .i64 se, .int .i64 dr]) := Lib.hid (HK_q_11.out.old hb12)
  clear HK_q_11
  clear cb_q_0 cb_q_1 cb_q_2 cb_q_3 cb_q_4 zb_q
  have zb_q : w.heap.size < w12.heap.size := HK_q_12.out.lt
  have cb_q_0 : w12.cell? ⟨w.heap.size, 0, none⟩ = some (.int .i64 li) := HK_q_12.out.cell 0
  have cb_q_1 : w12.cell? ⟨w.heap.size, 1, none⟩ = some (.int .i64 by_) := HK_q_12.out.cell 1
  have cb_q_2 : w12.cell? ⟨w.heap.size, 2, none⟩ = some (.slice A n cap) := HK_q_12.out.cell 2
  have cb_q_3 : w12.cell? ⟨w.heap.size, 3, none⟩ = some (.int .i64 se) := HK_q_12.out.cell 3
  have cb_q_4 : w12.cell? ⟨w.heap.size, 4, none⟩ = some (.int .i64 dr) := HK_q_12.out.cell 4
  have HK_w0_12 : Hid (Bk w12 (w3.heap.size) 36 #[.int .i64 xl, .int .i64 xb, .slice A_v M.length cap_v, .int .i64 xs, .int .i64 xd]) := Lib.hid (HK_w0_11.out.old hb12)
  clear HK_w0_11
  clear cb_w0_0 cb_w0_1 cb_w0_2 cb_w0_3 cb_w0_4 zb_w0
  have zb_w0 : w3.heap.size < w12.heap.size := HK_w0_12.out.lt
  have cb_w0_0 : w12.cell? ⟨w3.heap.size, 0, none⟩ = some (.int .i64 xl) := HK_w0_12.out.cell 0
  have cb_w0_1 : w12.cell? ⟨w3.heap.size, 1, none⟩ = some (.int .i64 xb) := HK_w0_12.out.cell 1
  have cb_w0_2 : w12.cell? ⟨w3.heap.size, 2, none⟩ = some (.slice A_v M.length cap_v) := HK_w0_12.out.cell 2
  have cb_w0_3 : w12.cell? ⟨w3.heap.size, 3, none⟩ = some (.int .i64 xs) := HK_w0_12.out.cell 3
  have cb_w0_4 : w12.cell? ⟨w3.heap.size, 4, none⟩ = some (.int .i64 xd) := HK_w0_12.out.cell 4
  have HK_w1_12 : Hid (Bk w12 (w3.heap.size + 1) 49 #[.int .i64 pp.id, .int .i64 pp.so, .int .i64 pp.de, .int .i64 pp.po, .int .i64 pp.ma, .int .i64 pp.si]) := Lib.hid (HK_w1_11.out.old hb12)
  clear HK_w1_11
  clear cb_w1_0 cb_w1_1 cb_w1_2 cb_w1_3 cb_w1_4 cb_w1_5 zb_w1
  have zb_w1 : w3.heap.size + 1 < w12.heap.size := HK_w1_12.out.lt
  have cb_w1_0 : w12.cell? ⟨w3.heap.size + 1, 0, none⟩ = some (.int .i64 pp.id) := HK_w1_12.out.cell 0
  have cb_w1_1 : w12.cell? ⟨w3.heap.size + 1, 1, none⟩ = some (.int .i64 pp.so) := HK_w1_12.out.cell 1
  have cb_w1_2 : w12.cell? ⟨w3.heap.size + 1, 2, none⟩ = some (.int .i64 pp.de) := HK_w1_12.out.cell 2
  have cb_w1_3 : w12.cell? ⟨w3.heap.size + 1, 3, none⟩ = some (.int .i64 pp.po) := HK_w1_12.out.cell 3
  have cb_w1_4 : w12.cell? ⟨w3.heap.size + 1, 4, none⟩ = some (.int .i64 pp.ma) := HK_w1_12.out.cell 4
  have cb_w1_5 : w12.cell? ⟨w3.heap.size + 1, 5, none⟩ = some (.int .i64 pp.si) := HK_w1_12.out.cell 5
  have HK_x0_12 : Hid (Bk w12 (w4.heap.size) 36 #[.int .i64 li, .int .i64 by_, .slice A_x n cap_x, .int .i64 se, .int .i64 dr]) := Lib.hid (HK_x0_11.out.old hb12)
  clear HK_x0_11
  clear cb_x0_0 cb_x0_1 cb_x0_2 cb_x0_3 cb_x0_4 zb_x0
  have zb_x0 : w4.heap.size < w12.heap.size := HK_x0_12.out.lt
  have cb_x0_0 : w12.cell? ⟨w4.heap.size, 0, none⟩ = some (.int .i64 li) := HK_x0_12.out.cell 0
  have cb_x0_1 : w12.cell? ⟨w4.heap.size, 1, none⟩ = some (.int .i64 by_) := HK_x0_12.out.cell 1
  have cb_x0_2 : w12.cell? ⟨w4.heap.size, 2, none⟩ = some (.slice A_x n cap_x) := HK_x0_12.out.cell 2
  have cb_x0_3 : w12.cell? ⟨w4.heap.size, 3, none⟩ = some (.int .i64 se) := HK_x0_12.out.cell 3
  have cb_x0_4 : w12.cell? ⟨w4.heap.size, 4, none⟩ = some (.int .i64 dr) := HK_x0_12.out.cell 4
  have HK_g0_12 : Hid (Bk w12 (w5.heap.size) 36 #[.int .i64 xl, .int .i64 xb, .slice A_g M.length cap_g, .int .i64 xs, .int .i64 xd]) := Lib.hid (HK_g0_11.out.old hb12)
  clear HK_g0_11
  clear cb_g0_0 cb_g0_1 cb_g0_2 cb_g0_3 cb_g0_4 zb_g0
  have zb_g0 : w5.heap.size < w12.heap.size := HK_g0_12.out.lt
  have cb_g0_0 : w12.cell? ⟨w5.heap.size, 0, none⟩ = some (.int .i64 xl) := HK_g0_12.out.cell 0
  have cb_g0_1 : w12.cell? ⟨w5.heap.size, 1, none⟩ = some (.int .i64 xb) := HK_g0_12.out.cell 1
  have cb_g0_2 : w12.cell? ⟨w5.heap.size, 2, none⟩ = some (.slice A_g M.length cap_g) := HK_g0_12.out.cell 2
  have cb_g0_3 : w12.cell? ⟨w5.heap.size, 3, none⟩ = some (.int .i64 xs) := HK_g0_12.out.cell 3
  have cb_g0_4 : w12.cell? ⟨w5.heap.size, 4, none⟩ = some (.int .i64 xd) := HK_g0_12.out.cell 4
  have HK_g1_12 : Hid (Bk w12 (w5.heap.size + 1) 49 #[.int .i64 pp.id, .int .i64 pp.so, .int .i64 pp.de, .int .i64 pp.po, .int .i64 pp.ma, .int .i64 pp.si]) := Lib.hid (HK_g1_11.out.old hb12)
  clear HK_g1_11
  clear cb_g1_0 cb_g1_1 cb_g1_2 cb_g1_3 cb_g1_4 cb_g1_5 zb_g1
  have zb_g1 : w5.heap.size + 1 < w12.heap.size := HK_g1_12.out.lt
  have cb_g1_0 : w12.cell? ⟨w5.heap.size + 1, 0, none⟩ = some (.int .i64 pp.id) := HK_g1_12.out.cell 0
  have cb_g1_1 : w12.cell? ⟨w5.heap.size + 1, 1, none⟩ = some (.int .i64 pp.so) := HK_g1_12.out.cell 1
  have cb_g1_2 : w12.cell? ⟨w5.heap.size + 1, 2, none⟩ = some (.int .i64 pp.de) := HK_g1_12.out.cell 2
  have cb_g1_3 : w12.cell? ⟨w5.heap.size + 1, 3, none⟩ = some (.int .i64 pp.po) := HK_g1_12.out.cell 3
  have cb_g1_4 : w12.cell? ⟨w5.heap.size + 1, 4, none⟩ = some (.int .i64 pp.ma) := HK_g1_12.out.cell 4
  have cb_g1_5 : w12.cell? ⟨w5.heap.size + 1, 5, none⟩ = some (.int .i64 pp.si) := HK_g1_12.out.cell 5
  have HO_s_12 := Lib.hid (HO_s_11.out.old hb12)
  clear HO_s_11
  have HO_v_12 := Lib.hid (HO_v_11.out.old hb12)
  clear HO_v_11
  have HO_x_12 := Lib.hid (HO_x_11.out.old hb12)
  clear HO_x_11
  have HO_g_12 := Lib.hid (HO_g_11.out.old hb12)
  clear HO_g_11
  have HO_y_12 := Lib.hid (HO_y_11.out.old hb12)
  clear HO_y_11
  have HB_12 := Lib.hid (bt HB_11.out hb12)
  clear hb12
  go_wp2_with fail
  refine (markQueue_any _ _ _ _ _ _ _ (fl M) 1 _ _ _ HO_g_12.out (by omega) (by omega) (by omega) (by omega)).mono ?_
  rintro e w13 ⟨rfl, ho13, hb13⟩
  have HO_g_13 := Lib.hid ho13
  clear ho13
  have z13 := hb13.size
  (try simp at z13)
  have HK_q_13 : Hid (Bk w13 (w.heap.size) 31 #[.int .i64 li, .int .i64 by_, .slice A n cap, .int .i64 se, .int .i64 dr]) := Lib.hid (HK_q_12.out.chg hb13 (by first | omega | (simp; done) | (simp; omega)))
  clear HK_q_12
  clear cb_q_0 cb_q_1 cb_q_2 cb_q_3 cb_q_4 zb_q
  have zb_q : w.heap.size < w13.heap.size := HK_q_13.out.lt
  have cb_q_0 : w13.cell? ⟨w.heap.size, 0, none⟩ = some (.int .i64 li) := HK_q_13.out.cell 0
  have cb_q_1 : w13.cell? ⟨w.heap.size, 1, none⟩ = some (.int .i64 by_) := HK_q_13.out.cell 1
  have cb_q_2 : w13.cell? ⟨w.heap.size, 2, none⟩ = some (.slice A n cap) := HK_q_13.out.cell 2
  have cb_q_3 : w13.cell? ⟨w.heap.size, 3, none⟩ = some (.int .i64 se) := HK_q_13.out.cell 3
  have cb_q_4 : w13.cell? ⟨w.heap.size, 4, none⟩ = some (.int .i64 dr) := HK_q_13.out.cell 4
  have HK_w0_13 : Hid (Bk w13 (w3.heap.size) 36 #[.int .i64 xl, .int .i64 xb, .slice A_v M.length cap_v, .int .i64 xs, .int .i64 xd]) := Lib.hid (HK_w0_12.out.chg hb13 (by first | omega | (simp; done) | (simp; omega)))
  clear HK_w0_12
  clear cb_w0_0 cb_w0_1 cb_w0_2 cb_w0_3 cb_w0_4 zb_w0
  have zb_w0 : w3.heap.size < w13.heap.size := HK_w0_13.out.lt
  have cb_w0_0 : w13.cell? ⟨w3.heap.size, 0, none⟩ = some (.int .i64 xl) := HK_w0_13.out.cell 0
  have cb_w0_1 : w13.cell? ⟨w3.heap.size, 1, none⟩ = some (.int .i64 xb) := HK_w0_13.out.cell 1
  have cb_w0_2 : w13.cell? ⟨w3.heap.size, 2, none⟩ = some (.slice A_v M.length cap_v) := HK_w0_13.out.cell 2
  have cb_w0_3 : w13.cell? ⟨w3.heap.size, 3, none⟩ = some (.int .i64 xs) := HK_w0_13.out.cell 3
  have cb_w0_4 : w13.cell? ⟨w3.heap.size, 4, none⟩ = some (.int .i64 xd) := HK_w0_13.out.cell 4
  have HK_w1_13 : Hid (Bk w13 (w3.heap.size + 1) 49 #[.int .i64 pp.id, .int .i64 pp.so, .int .i64 pp.de, .int .i64 pp.po, .int .i64 pp.ma, .int .i64 pp.si]) := Lib.hid (HK_w1_12.out.chg hb13 (by first | omega | (simp; done) | (simp; omega)))
  clear HK_w1_12
  clear cb_w1_0 cb_w1_1 cb_w1_2 cb_w1_3 cb_w1_4 cb_w1_5 zb_w1
  have zb_w1 : w3.heap.size + 1 < w13.heap.size := HK_w1_13.out.lt
  have cb_w1_0 : w13.cell? ⟨w3.heap.size + 1, 0, none⟩ = some (.int .i64 pp.id) := HK_w1_13.out.cell 0
  have cb_w1_1 : w13.cell? ⟨w3.heap.size + 1, 1, none⟩ = some (.int .i64 pp.so) := HK_w1_13.out.cell 1
  have cb_w1_2 : w13.cell? ⟨w3.heap.size + 1, 2, none⟩ = some (.int .i64 pp.de) := HK_w1_13.out.cell 2
  have cb_w1_3 : w13.cell? ⟨w3.heap.size + 1, 3, none⟩ = some (.int .i64 pp.po) := HK_w1_13.out.cell 3
  have cb_w1_4 : w13.cell? ⟨w3.heap.size + 1, 4, none⟩ = some (.int .i64 pp.ma) := HK_w1_13.out.cell 4
  have cb_w1_5 : w13.cell? ⟨w3.heap.size + 1, 5, none⟩ = some (.int .i64 pp.si) := HK_w1_13.out.cell 5
  have HK_x0_13 : Hid (Bk w13 (w4.heap.size) 36 #[.int .i64 li, .int .i64 by_, .slice A_x n cap_x, .int .i64 se, .int .i64 dr]) := Lib.hid (HK_x0_12.out.chg hb13 (by first | omega | (simp; done) | (simp; omega)))
  clear HK_x0_12
  clear cb_x0_0 cb_x0_1 cb_x0_2 cb_x0_3 cb_x0_4 zb_x0
  have zb_x0 : w4.heap.size < w13.heap.size := HK_x0_13.out.lt
  have cb_x0_0 : w13.cell? ⟨w4.heap.size, 0, none⟩ = some (.int .i64 li) := HK_x0_13.out.cell 0
  have cb_x0_1 : w13.cell? ⟨w4.heap.size, 1, none⟩ = some (.int .i64 by_) := HK_x0_13.out.cell 1
  have cb_x0_2 : w13.cell? ⟨w4.heap.size, 2, none⟩ = some (.slice A_x n cap_x) := HK_x0_13.out.cell 2
  have cb_x0_3 : w13.cell? ⟨w4.heap.size, 3, none⟩ = some (.int .i64 se) := HK_x0_13.out.cell 3
  have cb_x0_4 : w13.cell? ⟨w4.heap.size, 4, none⟩ = some (.int .i64 dr) := HK_x0_13.out.cell 4
  have HK_g0_13 : Hid (Bk w13 (w5.heap.size) 36 #[.int .i64 xl, .int .i64 xb, .slice A_g M.length cap_g, .int .i64 xs, .int .i64 xd]) := Lib.hid (HK_g0_12.out.chg hb13 (by first | omega | (simp; done) | (simp; omega)))
  clear HK_g0_12
  clear cb_g0_0 cb_g0_1 cb_g0_2 cb_g0_3 cb_g0_4 zb_g0
  have zb_g0 : w5.heap.size < w13.heap.size := HK_g0_13.out.lt
  have cb_g0_0 : w13.cell? ⟨w5.heap.size, 0, none⟩ = some (.int .i64 xl) := HK_g0_13.out.cell 0
  have cb_g0_1 : w13.cell? ⟨w5.heap.size, 1, none⟩ = some (.int .i64 xb) := HK_g0_13.out.cell 1
  have cb_g0_2 : w13.cell? ⟨w5.heap.size, 2, none⟩ = some (.slice A_g M.length cap_g) := HK_g0_13.out.cell 2
  have cb_g0_3 : w13.cell? ⟨w5.heap.size, 3, none⟩ = some (.int .i64 xs) := HK_g0_13.out.cell 3
  have cb_g0_4 : w13.cell? ⟨w5.heap.size, 4, none⟩ = some (.int .i64 xd) := HK_g0_13.out.cell 4
  have HK_g1_13 : Hid (Bk w13 (w5.heap.size + 1) 49 #[.int .i64 pp.id, .int .i64 pp.so, .int .i64 pp.de, .int .i64 pp.po, .int .i64 pp.ma, .int .i64 pp.si]) := Lib.hid (HK_g1_12.out.chg hb13 (by first | omega | (simp; done) | (simp; omega)))
  clear HK_g1_12
  clear cb_g1_0 cb_g1_1 cb_g1_2 cb_g1_3 cb_g1_4 cb_g1_5 zb_g1
  have zb_g1 : w5.heap.size + 1 < w13.heap.size := HK_g1_13.out.lt
  have cb_g1_0 : w13.cell? ⟨w5.heap.size + 1, 0, none⟩ = some (.int .i64 pp.id) := HK_g1_13.out.cell 0
  have cb_g1_1 : w13.cell? ⟨w5.heap.size + 1, 1, none⟩ = some (.int .i64 pp.so) := HK_g1_13.out.cell 1
  have cb_g1_2 : w13.cell? ⟨w5.heap.size + 1, 2, none⟩ = some (.int .i64 pp.de) := HK_g1_13.out.cell 2
  have cb_g1_3 : w13.cell? ⟨w5.heap.size + 1, 3, none⟩ = some (.int .i64 pp.po) := HK_g1_13.out.cell 3
  have cb_g1_4 : w13.cell? ⟨w5.heap.size + 1, 4, none⟩ = some (.int .i64 pp.ma) := HK_g1_13.out.cell 4
  have cb_g1_5 : w13.cell? ⟨w5.heap.size + 1, 5, none⟩ = some (.int .i64 pp.si) := HK_g1_13.out.cell 5
  have HO_s_13 := Lib.hid (HO_s_12.out.chg hb13 (by first | omega | (simp; done) | (simp; omega)))
  clear HO_s_12
  have HO_v_13 := Lib.hid (HO_v_12.out.chg hb13 (by first | omega | (simp; done) | (simp; omega)))
  clear HO_v_12
  have HO_x_13 := Lib.hid (HO_x_12.out.chg hb13 (by first | omega | (simp; done) | (simp; omega)))
  clear HO_x_12
  have HO_y_13 := Lib.hid (HO_y_12.out.chg hb13 (by first | omega | (simp; done) | (simp; omega)))
  clear HO_y_12
  have HB_13 := Lib.hid (Chg.below HB_12.out hb13 (by first | omega | (simp; done) | (simp; omega)))
  clear hb13
  clear HO_g_12
  go_wp2_with fail
  refine (heldQueue_any _ _ _ _ _ _ _ 1 _ HO_g_13.out.row (by omega) (by omega) (by omega)).mono ?_
  rintro e w14 ⟨rfl, hb14⟩
  have z14 := hb14.size
  (try simp at z14)
  have HK_q_14 : Hid (Bk w14 (w.heap.size) 31 #[.int .i64 li, .int .i64 by_, .slice A n cap, .int .i64 se, .int .i64 dr]) := Lib.hid (HK_q_13.out.old hb14)
  clear HK_q_13
  clear cb_q_0 cb_q_1 cb_q_2 cb_q_3 cb_q_4 zb_q
  have zb_q : w.heap.size < w14.heap.size := HK_q_14.out.lt
  have cb_q_0 : w14.cell? ⟨w.heap.size, 0, none⟩ = some (.int .i64 li) := HK_q_14.out.cell 0
  have cb_q_1 : w14.cell? ⟨w.heap.size, 1, none⟩ = some (.int .i64 by_) := HK_q_14.out.cell 1
  have cb_q_2 : w14.cell? ⟨w.heap.size, 2, none⟩ = some (.slice A n cap) := HK_q_14.out.cell 2
  have cb_q_3 : w14.cell? ⟨w.heap.size, 3, none⟩ = some (.int .i64 se) := HK_q_14.out.cell 3
  have cb_q_4 : w14.cell? ⟨w.heap.size, 4, none⟩ = some (.int .i64 dr) := HK_q_14.out.cell 4
  have HK_w0_14 : Hid (Bk w14 (w3.heap.size) 36 #[.int .i64 xl, .int .i64 xb, .slice A_v M.length cap_v, .int .i64 xs, .int .i64 xd]) := Lib.hid (HK_w0_13.out.old hb14)
  clear HK_w0_13
  clear cb_w0_0 cb_w0_1 cb_w0_2 cb_w0_3 cb_w0_4 zb_w0
  have zb_w0 : w3.heap.size < w14.heap.size := HK_w0_14.out.lt
  have cb_w0_0 : w14.cell? ⟨w3.heap.size, 0, none⟩ = some (.int .i64 xl) := HK_w0_14.out.cell 0
  have cb_w0_1 : w14.cell? ⟨w3.heap.size, 1, none⟩ = some (.int .i64 xb) := HK_w0_14.out.cell 1
  have cb_w0_2 : w14.cell? ⟨w3.heap.size, 2, none⟩ = some (.slice A_v M.length cap_v) := HK_w0_14.out.cell 2
  have cb_w0_3 : w14.cell? ⟨w3.heap.size, 3, none⟩ = some (.int .i64 xs) := HK_w0_14.out.cell 3
  have cb_w0_4 : w14.cell? ⟨w3.heap.size, 4, none⟩ = some (.int .i64 xd) := HK_w0_14.out.cell 4
  have HK_w1_14 : Hid (Bk w14 (w3.heap.size + 1) 49 #[.int .i64 pp.id, .int .i64 pp.so, .int .i64 pp.de, .int .i64 pp.po, .int .i64 pp.ma, .int .i64 pp.si]) := Lib.hid (HK_w1_13.out.old hb14)
  clear HK_w1_13
  clear cb_w1_0 cb_w1_1 cb_w1_2 cb_w1_3 cb_w1_4 cb_w1_5 zb_w1
  have zb_w1 : w3.heap.size + 1 < w14.heap.size := HK_w1_14.out.lt
  have cb_w1_0 : w14.cell? ⟨w3.heap.size + 1, 0, none⟩ = some (.int .i64 pp.id) := HK_w1_14.out.cell 0
  have cb_w1_1 : w14.cell? ⟨w3.heap.size + 1, 1, none⟩ = some (.int .i64 pp.so) := HK_w1_14.out.cell 1
  have cb_w1_2 : w14.cell? ⟨w3.heap.size + 1, 2, none⟩ = some (.int .i64 pp.de) := HK_w1_14.out.cell 2
  have cb_w1_3 : w14.cell? ⟨w3.heap.size + 1, 3, none⟩ = some (.int .i64 pp.po) := HK_w1_14.out.cell 3
  have cb_w1_4 : w14.cell? ⟨w3.heap.size + 1, 4, none⟩ = some (.int .i64 pp.ma) := HK_w1_14.out.cell 4
  have cb_w1_5 : w14.cell? ⟨w3.heap.size + 1, 5, none⟩ = some (.int .i64 pp.si) := HK_w1_14.out.cell 5
  have HK_x0_14 : Hid (Bk w14 (w4.heap.size) 36 #[.int .i64 li, .int .i64 by_, .slice A_x n cap_x, .int .i64 se, .int .i64 dr]) := Lib.hid (HK_x0_13.out.old hb14)
  clear HK_x0_13
  clear cb_x0_0 cb_x0_1 cb_x0_2 cb_x0_3 cb_x0_4 zb_x0
  have zb_x0 : w4.heap.size < w14.heap.size := HK_x0_14.out.lt
  have cb_x0_0 : w14.cell? ⟨w4.heap.size, 0, none⟩ = some (.int .i64 li) := HK_x0_14.out.cell 0
  have cb_x0_1 : w14.cell? ⟨w4.heap.size, 1, none⟩ = some (.int .i64 by_) := HK_x0_14.out.cell 1
  have cb_x0_2 : w14.cell? ⟨w4.heap.size, 2, none⟩ = some (.slice A_x n cap_x) := HK_x0_14.out.cell 2
  have cb_x0_3 : w14.cell? ⟨w4.heap.size, 3, none⟩ = some (.int .i64 se) := HK_x0_14.out.cell 3
  have cb_x0_4 : w14.cell? ⟨w4.heap.size, 4, none⟩ = some (.int .i64 dr) := HK_x0_14.out.cell 4
  have HK_g0_14 : Hid (Bk w14 (w5.heap.size) 36 #[.int .i64 xl, .int .i64 xb, .slice A_g M.length cap_g, .int .i64 xs, .int .i64 xd]) := Lib.hid (HK_g0_13.out.old hb14)
  clear HK_g0_13
  clear cb_g0_0 cb_g0_1 cb_g0_2 cb_g0_3 cb_g0_4 zb_g0
  have zb_g0 : w5.heap.size < w14.heap.size := HK_g0_14.out.lt
  have cb_g0_0 : w14.cell? ⟨w5.heap.size, 0, none⟩ = some (.int .i64 xl) := HK_g0_14.out.cell 0
  have cb_g0_1 : w14.cell? ⟨w5.heap.size, 1, none⟩ = some (.int .i64 xb) := HK_g0_14.out.cell 1
  have cb_g0_2 : w14.cell? ⟨w5.heap.size, 2, none⟩ = some (.slice A_g M.length cap_g) := HK_g0_14.out.cell 2
  have cb_g0_3 : w14.cell? ⟨w5.heap.size, 3, none⟩ = some (.int .i64 xs) := HK_g0_14.out.cell 3
  have cb_g0_4 : w14.cell? ⟨w5.heap.size, 4, none⟩ = some (.int .i64 xd) := HK_g0_14.out.cell 4
  have HK_g1_14 : Hid (Bk w14 (w5.heap.size + 1) 49 #[.int .i64 pp.id, .int .i64 pp.so, .int .i64 pp.de, .int .i64 pp.po, .int .i64 pp.ma, .int .i64 pp.si]) := Lib.hid (HK_g1_13.out.old hb14)
  clear HK_g1_13
  clear cb_g1_0 cb_g1_1 cb_g1_2 cb_g1_3 cb_g1_4 cb_g1_5 zb_g1
  have zb_g1 : w5.heap.size + 1 < w14.heap.size := HK_g1_14.out.lt
  have cb_g1_0 : w14.cell? ⟨w5.heap.size + 1, 0, none⟩ = some (.int .i64 pp.id) := HK_g1_14.out.cell 0
  have cb_g1_1 : w14.cell? ⟨w5.heap.size + 1, 1, none⟩ = some (.int .i64 pp.so) := HK_g1_14.out.cell 1
  have cb_g1_2 : w14.cell? ⟨w5.heap.size + 1, 2, none⟩ = some (.int .i64 pp.de) := HK_g1_14.out.cell 2
  have cb_g1_3 : w14.cell? ⟨w5.heap.size + 1, 3, none⟩ = some (.int .i64 pp.po) := HK_g1_14.out.cell 3
  have cb_g1_4 : w14.cell? ⟨w5.heap.size + 1, 4, none⟩ = some (.int .i64 pp.ma) := HK_g1_14.out.cell 4
  have cb_g1_5 : w14.cell? ⟨w5.heap.size + 1, 5, none⟩ = some (.int .i64 pp.si) := HK_g1_14.out.cell 5
  have HO_s_14 := Lib.hid (HO_s_13.out.old hb14)
  clear HO_s_13
  have HO_v_14 := Lib.hid (HO_v_13.out.old hb14)
  clear HO_v_13
  have HO_x_14 := Lib.hid (HO_x_13.out.old hb14)
  clear HO_x_13
  have HO_g_14 := Lib.hid (HO_g_13.out.old hb14)
  clear HO_g_13
  have HO_y_14 := Lib.hid (HO_y_13.out.old hb14)
  clear HO_y_13
  have HB_14 := Lib.hid (bt HB_13.out hb14)
  clear hb14
  go_wp2_with fail
  refine (toQueue_any _ _ _ _ _ _ _ L _ HLL.out (HR_a.out.below HB_14.out) (by omega)).mono ?_
  rintro e w15 ⟨A_z, cap_z, rfl, ho_z, hb15⟩
  have HN_z := Lib.hid ho_z.len
  have HO_z_15 := Lib.hid ho_z
  clear ho_z
  have z15 := hb15.size
  (try simp at z15)
  have HK_q_15 : Hid (Bk w15 (w.heap.size) 31 #[.int .i64 li, .int .i64 by_, .slice A n cap, .int .i64 se, .int .i64 dr]) := Lib.hid (HK_q_14.out.old hb15)
  clear HK_q_14
  clear cb_q_0 cb_q_1 cb_q_2 cb_q_3 cb_q_4 zb_q
  have zb_q : w.heap.size < w15.heap.size := HK_q_15.out.lt
  have cb_q_0 : w15.cell? ⟨w.heap.size, 0, none⟩ = some (.int .i64 li) := HK_q_15.out.cell 0
  have cb_q_1 : w15.cell? ⟨w.heap.size, 1, none⟩ = some (.int .i64 by_) := HK_q_15.out.cell 1
  have cb_q_2 : w15.cell? ⟨w.heap.size, 2, none⟩ = some (.slice A n cap) := HK_q_15.out.cell 2
  have cb_q_3 : w15.cell? ⟨w.heap.size, 3, none⟩ = some (.int .i64 se) := HK_q_15.out.cell 3
  have cb_q_4 : w15.cell? ⟨w.heap.size, 4, none⟩ = some (.int .i64 dr) := HK_q_15.out.cell 4
  have HK_w0_15 : Hid (Bk w15 (w3.heap.size) 36 #[.int .i64 xl, .int .i64 xb, .slice A_v M.length cap_v, .int .i64 xs, .int .i64 xd]) := Lib.hid (HK_w0_14.out.old hb15)
  clear HK_w0_14
  clear cb_w0_0 cb_w0_1 cb_w0_2 cb_w0_3 cb_w0_4 zb_w0
  have zb_w0 : w3.heap.size < w15.heap.size := HK_w0_15.out.lt
  have cb_w0_0 : w15.cell? ⟨w3.heap.size, 0, none⟩ = some (.int .i64 xl) := HK_w0_15.out.cell 0
  have cb_w0_1 : w15.cell? ⟨w3.heap.size, 1, none⟩ = some (.int .i64 xb) := HK_w0_15.out.cell 1
  have cb_w0_2 : w15.cell? ⟨w3.heap.size, 2, none⟩ = some (.slice A_v M.length cap_v) := HK_w0_15.out.cell 2
  have cb_w0_3 : w15.cell? ⟨w3.heap.size, 3, none⟩ = some (.int .i64 xs) := HK_w0_15.out.cell 3
  have cb_w0_4 : w15.cell? ⟨w3.heap.size, 4, none⟩ = some (.int .i64 xd) := HK_w0_15.out.cell 4
  have HK_w1_15 : Hid (Bk w15 (w3.heap.size + 1) 49 #[.int .i64 pp.id, .int .i64 pp.so, .int .i64 pp.de, .int .i64 pp.po, .int .i64 pp.ma, .int .i64 pp.si]) := Lib.hid (HK_w1_14.out.old hb15)
  clear HK_w1_14
  clear cb_w1_0 cb_w1_1 cb_w1_2 cb_w1_3 cb_w1_4 cb_w1_5 zb_w1
  have zb_w1 : w3.heap.size + 1 < w15.heap.size := HK_w1_15.out.lt
  have cb_w1_0 : w15.cell? ⟨w3.heap.size + 1, 0, none⟩ = some (.int .i64 pp.id) := HK_w1_15.out.cell 0
  have cb_w1_1 : w15.cell? ⟨w3.heap.size + 1, 1, none⟩ = some (.int .i64 pp.so) := HK_w1_15.out.cell 1
  have cb_w1_2 : w15.cell? ⟨w3.heap.size + 1, 2, none⟩ = some (.int .i64 pp.de) := HK_w1_15.out.cell 2
  have cb_w1_3 : w15.cell? ⟨w3.heap.size + 1, 3, none⟩ = some (.int .i64 pp.po) := HK_w1_15.out.cell 3
  have cb_w1_4 : w15.cell? ⟨w3.heap.size + 1, 4, none⟩ = some (.int .i64 pp.ma) := HK_w1_15.out.cell 4
  have cb_w1_5 : w15.cell? ⟨w3.heap.size + 1, 5, none⟩ = some (.int .i64 pp.si) := HK_w1_15.out.cell 5
  have HK_x0_15 : Hid (Bk w15 (w4.heap.size) 36 #[.int .i64 li, .int .i64 by_, .slice A_x n cap_x, .int .i64 se, .int .i64 dr]) := Lib.hid (HK_x0_14.out.old hb15)
  clear HK_x0_14
  clear cb_x0_0 cb_x0_1 cb_x0_2 cb_x0_3 cb_x0_4 zb_x0
  have zb_x0 : w4.heap.size < w15.heap.size := HK_x0_15.out.lt
  have cb_x0_0 : w15.cell? ⟨w4.heap.size, 0, none⟩ = some (.int .i64 li) := HK_x0_15.out.cell 0
  have cb_x0_1 : w15.cell? ⟨w4.heap.size, 1, none⟩ = some (.int .i64 by_) := HK_x0_15.out.cell 1
  have cb_x0_2 : w15.cell? ⟨w4.heap.size, 2, none⟩ = some (.slice A_x n cap_x) := HK_x0_15.out.cell 2
  have cb_x0_3 : w15.cell? ⟨w4.heap.size, 3, none⟩ = some (.int .i64 se) := HK_x0_15.out.cell 3
  have cb_x0_4 : w15.cell? ⟨w4.heap.size, 4, none⟩ = some (.int .i64 dr) := HK_x0_15.out.cell 4
  have HK_g0_15 : Hid (Bk w15 (w5.heap.size) 36 #[.int .i64 xl, .int .i64 xb, .slice A_g M.length cap_g, .int .i64 xs, .int .i64 xd]) := Lib.hid (HK_g0_14.out.old hb15)
  clear HK_g0_14
  clear cb_g0_0 cb_g0_1 cb_g0_2 cb_g0_3 cb_g0_4 zb_g0
  have zb_g0 : w5.heap.size < w15.heap.size := HK_g0_15.out.lt
  have cb_g0_0 : w15.cell? ⟨w5.heap.size, 0, none⟩ = some (.int .i64 xl) := HK_g0_15.out.cell 0
  have cb_g0_1 : w15.cell? ⟨w5.heap.size, 1, none⟩ = some (.int .i64 xb) := HK_g0_15.out.cell 1
  have cb_g0_2 : w15.cell? ⟨w5.heap.size, 2, none⟩ = some (.slice A_g M.length cap_g) := HK_g0_15.out.cell 2
  have cb_g0_3 : w15.cell? ⟨w5.heap.size, 3, none⟩ = some (.int .i64 xs) := HK_g0_15.out.cell 3
  have cb_g0_4 : w15.cell? ⟨w5.heap.size, 4, none⟩ = some (.int .i64 xd) := HK_g0_15.out.cell 4
  have HK_g1_15 : Hid (Bk w15 (w5.heap.size + 1) 49 #[.int .i64 pp.id, .int .i64 pp.so, .int .i64 pp.de, .int .i64 pp.po, .int .i64 pp.ma, .int .i64 pp.si]) := Lib.hid (HK_g1_14.out.old hb15)
  clear HK_g1_14
  clear cb_g1_0 cb_g1_1 cb_g1_2 cb_g1_3 cb_g1_4 cb_g1_5 zb_g1
  have zb_g1 : w5.heap.size + 1 < w15.heap.size := HK_g1_15.out.lt
  have cb_g1_0 : w15.cell? ⟨w5.heap.size + 1, 0, none⟩ = some (.int .i64 pp.id) := HK_g1_15.out.cell 0
  have cb_g1_1 : w15.cell? ⟨w5.heap.size + 1, 1, none⟩ = some (.int .i64 pp.so) := HK_g1_15.out.cell 1
  have cb_g1_2 : w15.cell? ⟨w5.heap.size + 1, 2, none⟩ = some (.int .i64 pp.de) := HK_g1_15.out.cell 2
  have cb_g1_3 : w15.cell? ⟨w5.heap.size + 1, 3, none⟩ = some (.int .i64 pp.po) := HK_g1_15.out.cell 3
  have cb_g1_4 : w15.cell? ⟨w5.heap.size + 1, 4, none⟩ = some (.int .i64 pp.ma) := HK_g1_15.out.cell 4
  have cb_g1_5 : w15.cell? ⟨w5.heap.size + 1, 5, none⟩ = some (.int .i64 pp.si) := HK_g1_15.out.cell 5
  have HO_s_15 := Lib.hid (HO_s_14.out.old hb15)
  clear HO_s_14
  have HO_v_15 := Lib.hid (HO_v_14.out.old hb15)
  clear HO_v_14
  have HO_x_15 := Lib.hid (HO_x_14.out.old hb15)
  clear HO_x_14
  have HO_g_15 := Lib.hid (HO_g_14.out.old hb15)
  clear HO_g_14
  have HO_y_15 := Lib.hid (HO_y_14.out.old hb15)
  clear HO_y_14
  have HB_15 := Lib.hid (bt HB_14.out hb15)
  clear hb15
  go_wp2_with fail
  refine (HIM.out _ _ _ HO_z_15.out.row (by omega) HO_z_15.out.cap).mono ?_
  rintro e w16 ⟨A_h, cap_h, rfl, ho_h, hb16⟩
  have HN_h := Lib.hid ho_h.len
  have HO_h_16 := Lib.hid ho_h
  clear ho_h
  have z16 := hb16.size
  (try simp at z16)
  have HK_q_16 : Hid (Bk w16 (w.heap.size) 31 #[.int .i64 li, .int .i64 by_, .slice A n cap, .int .i64 se, .int .i64 dr]) := Lib.hid (HK_q_15.out.old hb16)
  clear HK_q_15
  clear cb_q_0 cb_q_1 cb_q_2 cb_q_3 cb_q_4 zb_q
  have zb_q : w.heap.size < w16.heap.size := HK_q_16.out.lt
  have cb_q_0 : w16.cell? ⟨w.heap.size, 0, none⟩ = some (.int .i64 li) := HK_q_16.out.cell 0
  have cb_q_1 : w16.cell? ⟨w.heap.size, 1, none⟩ = some (.int .i64 by_) := HK_q_16.out.cell 1
  have cb_q_2 : w16.cell? ⟨w.heap.size, 2, none⟩ = some (.slice A n cap) := HK_q_16.out.cell 2
  have cb_q_3 : w16.cell? ⟨w.heap.size, 3, none⟩ = some (.int .i64 se) := HK_q_16.out.cell 3
  have cb_q_4 : w16.cell? ⟨w.heap.size, 4, none⟩ = some (.int .i64 dr) := HK_q_16.out.cell 4
  have HK_w0_16 : Hid (Bk w16 (w3.heap.size) 36 #[.int .i64 xl, .int .i64 xb, .slice A_v M.length cap_v, .int .i64 xs, .int .i64 xd]) := Lib.hid (HK_w0_15.out.old hb16)
  clear HK_w0_15
  clear cb_w0_0 cb_w0_1 cb_w0_2 cb_w0_3 cb_w0_4 zb_w0
  have zb_w0 : w3.heap.size < w16.heap.size := HK_w0_16.out.lt
  have cb_w0_0 : w16.cell? ⟨w3.heap.size, 0, none⟩ = some (.int .i64 xl) := HK_w0_16.out.cell 0
  have cb_w0_1 : w16.cell? ⟨w3.heap.size, 1, none⟩ = some (.int .i64 xb) := HK_w0_16.out.cell 1
  have cb_w0_2 : w16.cell? ⟨w3.heap.size, 2, none⟩ = some (.slice A_v M.length cap_v) := HK_w0_16.out.cell 2
  have cb_w0_3 : w16.cell? ⟨w3.heap.size, 3, none⟩ = some (.int .i64 xs) := HK_w0_16.out.cell 3
  have cb_w0_4 : w16.cell? ⟨w3.heap.size, 4, none⟩ = some (.int .i64 xd) := HK_w0_16.out.cell 4
  have HK_w1_16 : Hid (Bk w16 (w3.heap.size + 1) 49 #[.int .i64 pp.id, .int .i64 pp.so, .int .i64 pp.de, .int .i64 pp.po, .int .i64 pp.ma, .int .i64 pp.si]) := Lib.hid (HK_w1_15.out.old hb16)
  clear HK_w1_15
  clear cb_w1_0 cb_w1_1 cb_w1_2 cb_w1_3 cb_w1_4 cb_w1_5 zb_w1
  have zb_w1 : w3.heap.size + 1 < w16.heap.size := HK_w1_16.out.lt
  have cb_w1_0 : w16.cell? ⟨w3.heap.size + 1, 0, none⟩ = some (.int .i64 pp.id) := HK_w1_16.out.cell 0
  have cb_w1_1 : w16.cell? ⟨w3.heap.size + 1, 1, none⟩ = some (.int .i64 pp.so) := HK_w1_16.out.cell 1
  have cb_w1_2 : w16.cell? ⟨w3.heap.size + 1, 2, none⟩ = some (.int .i64 pp.de) := HK_w1_16.out.cell 2
  have cb_w1_3 : w16.cell? ⟨w3.heap.size + 1, 3, none⟩ = some (.int .i64 pp.po) := HK_w1_16.out.cell 3
  have cb_w1_4 : w16.cell? ⟨w3.heap.size + 1, 4, none⟩ = some (.int .i64 pp.ma) := HK_w1_16.out.cell 4
  have cb_w1_5 : w16.cell? ⟨w3.heap.size + 1, 5, none⟩ = some (.int .i64 pp.si) := HK_w1_16.out.cell 5
  have HK_x0_16 : Hid (Bk w16 (w4.heap.size) 36 #[.int .i64 li, .int .i64 by_, .slice A_x n cap_x, .int .i64 se, .int .i64 dr]) := Lib.hid (HK_x0_15.out.old hb16)
  clear HK_x0_15
  clear cb_x0_0 cb_x0_1 cb_x0_2 cb_x0_3 cb_x0_4 zb_x0
  have zb_x0 : w4.heap.size < w16.heap.size := HK_x0_16.out.lt
  have cb_x0_0 : w16.cell? ⟨w4.heap.size, 0, none⟩ = some (.int .i64 li) := HK_x0_16.out.cell 0
  have cb_x0_1 : w16.cell? ⟨w4.heap.size, 1, none⟩ = some (.int .i64 by_) := HK_x0_16.out.cell 1
  have cb_x0_2 : w16.cell? ⟨w4.heap.size, 2, none⟩ = some (.slice A_x n cap_x) := HK_x0_16.out.cell 2
  have cb_x0_3 : w16.cell? ⟨w4.heap.size, 3, none⟩ = some (.int .i64 se) := HK_x0_16.out.cell 3
  have cb_x0_4 : w16.cell? ⟨w4.heap.size, 4, none⟩ = some (.int .i64 dr) := HK_x0_16.out.cell 4
  have HK_g0_16 : Hid (Bk w16 (w5.heap.size) 36 #[.int .i64 xl, .int .i64 xb, .slice A_g M.length cap_g, .int .i64 xs, .int .i64 xd]) := Lib.hid (HK_g0_15.out.old hb16)
  clear HK_g0_15
  clear cb_g0_0 cb_g0_1 cb_g0_2 cb_g0_3 cb_g0_4 zb_g0
  have zb_g0 : w5.heap.size < w16.heap.size := HK_g0_16.out.lt
  have cb_g0_0 : w16.cell? ⟨w5.heap.size, 0, none⟩ = some (.int .i64 xl) := HK_g0_16.out.cell 0
  have cb_g0_1 : w16.cell? ⟨w5.heap.size, 1, none⟩ = some (.int .i64 xb) := HK_g0_16.out.cell 1
  have cb_g0_2 : w16.cell? ⟨w5.heap.size, 2, none⟩ = some (.slice A_g M.length cap_g) := HK_g0_16.out.cell 2
  have cb_g0_3 : w16.cell? ⟨w5.heap.size, 3, none⟩ = some (.int .i64 xs) := HK_g0_16.out.cell 3
  have cb_g0_4 : w16.cell? ⟨w5.heap.size, 4, none⟩ = some (.int .i64 xd) := HK_g0_16.out.cell 4
  have HK_g1_16 : Hid (Bk w16 (w5.heap.size + 1) 49 #[.int .i64 pp.id, .int .i64 pp.so, .int .i64 pp.de, .int .i64 pp.po, .int .i64 pp.ma, .int .i64 pp.si]) := Lib.hid (HK_g1_15.out.old hb16)
  clear HK_g1_15
  clear cb_g1_0 cb_g1_1 cb_g1_2 cb_g1_3 cb_g1_4 cb_g1_5 zb_g1
  have zb_g1 : w5.heap.size + 1 < w16.heap.size := HK_g1_16.out.lt
  have cb_g1_0 : w16.cell? ⟨w5.heap.size + 1, 0, none⟩ = some (.int .i64 pp.id) := HK_g1_16.out.cell 0
  have cb_g1_1 : w16.cell? ⟨w5.heap.size + 1, 1, none⟩ = some (.int .i64 pp.so) := HK_g1_16.out.cell 1
  have cb_g1_2 : w16.cell? ⟨w5.heap.size + 1, 2, none⟩ = some (.int .i64 pp.de) := HK_g1_16.out.cell 2
  have cb_g1_3 : w16.cell? ⟨w5.heap.size + 1, 3, none⟩ = some (.int .i64 pp.po) := HK_g1_16.out.cell 3
  have cb_g1_4 : w16.cell? ⟨w5.heap.size + 1, 4, none⟩ = some (.int .i64 pp.ma) := HK_g1_16.out.cell 4
  have cb_g1_5 : w16.cell? ⟨w5.heap.size + 1, 5, none⟩ = some (.int .i64 pp.si) := HK_g1_16.out.cell 5
  have HO_s_16 := Lib.hid (HO_s_15.out.old hb16)
  clear HO_s_15
  have HO_v_16 := Lib.hid (HO_v_15.out.old hb16)
  clear HO_v_15
  have HO_x_16 := Lib.hid (HO_x_15.out.old hb16)
  clear HO_x_15
  have HO_g_16 := Lib.hid (HO_g_15.out.old hb16)
  clear HO_g_15
  have HO_y_16 := Lib.hid (HO_y_15.out.old hb16)
  clear HO_y_15
  have HO_z_16 := Lib.hid (HO_z_15.out.old hb16)
  clear HO_z_15
  have HB_16 := Lib.hid (bt HB_15.out hb16)
  clear hb16
  go_wp2_with fail
  refine (eqQueue_any _ _ _ _ _ _ _ _ _ (fl M) _ HMM.out ((HO_h_16.out.alloc _).alloc _).row ((HO_v_16.out.alloc _).alloc _).row (by omega)).mono ?_
  rintro e w17 ⟨rfl, hb17⟩
  have z17 := hb17.size
  (try simp at z17)
  have HK_q_17 : Hid (Bk w17 (w.heap.size) 31 #[.int .i64 li, .int .i64 by_, .slice A n cap, .int .i64 se, .int .i64 dr]) := Lib.hid (((HK_q_16.out.alloc _).alloc _).old hb17)
  clear HK_q_16
  clear cb_q_0 cb_q_1 cb_q_2 cb_q_3 cb_q_4 zb_q
  have zb_q : w.heap.size < w17.heap.size := HK_q_17.out.lt
  have cb_q_0 : w17.cell? ⟨w.heap.size, 0, none⟩ = some (.int .i64 li) := HK_q_17.out.cell 0
  have cb_q_1 : w17.cell? ⟨w.heap.size, 1, none⟩ = some (.int .i64 by_) := HK_q_17.out.cell 1
  have cb_q_2 : w17.cell? ⟨w.heap.size, 2, none⟩ = some (.slice A n cap) := HK_q_17.out.cell 2
  have cb_q_3 : w17.cell? ⟨w.heap.size, 3, none⟩ = some (.int .i64 se) := HK_q_17.out.cell 3
  have cb_q_4 : w17.cell? ⟨w.heap.size, 4, none⟩ = some (.int .i64 dr) := HK_q_17.out.cell 4
  have HK_w0_17 : Hid (Bk w17 (w3.heap.size) 36 #[.int .i64 xl, .int .i64 xb, .slice A_v M.length cap_v, .int .i64 xs, .int .i64 xd]) := Lib.hid (((HK_w0_16.out.alloc _).alloc _).old hb17)
  clear HK_w0_16
  clear cb_w0_0 cb_w0_1 cb_w0_2 cb_w0_3 cb_w0_4 zb_w0
  have zb_w0 : w3.heap.size < w17.heap.size := HK_w0_17.out.lt
  have cb_w0_0 : w17.cell? ⟨w3.heap.size, 0, none⟩ = some (.int .i64 xl) := HK_w0_17.out.cell 0
  have cb_w0_1 : w17.cell? ⟨w3.heap.size, 1, none⟩ = some (.int .i64 xb) := HK_w0_17.out.cell 1
  have cb_w0_2 : w17.cell? ⟨w3.heap.size, 2, none⟩ = some (.slice A_v M.length cap_v) := HK_w0_17.out.cell 2
  have cb_w0_3 : w17.cell? ⟨w3.heap.size, 3, none⟩ = some (.int .i64 xs) := HK_w0_17.out.cell 3
  have cb_w0_4 : w17.cell? ⟨w3.heap.size, 4, none⟩ = some (.int .i64 xd) := HK_w0_17.out.cell 4
  have HK_w1_17 : Hid (Bk w17 (w3.heap.size + 1) 49 #[.int .i64 pp.id, .int .i64 pp.so, .int .i64 pp.de, .int .i64 pp.po, .int .i64 pp.ma, .int .i64 pp.si]) := Lib.hid (((HK_w1_16.out.alloc _).alloc _).old hb17)
  clear HK_w1_16
  clear cb_w1_0 cb_w1_1 cb_w1_2 cb_w1_3 cb_w1_4 cb_w1_5 zb_w1
  have zb_w1 : w3.heap.size + 1 < w17.heap.size := HK_w1_17.out.lt
  have cb_w1_0 : w17.cell? ⟨w3.heap.size + 1, 0, none⟩ = some (.int .i64 pp.id) := HK_w1_17.out.cell 0
  have cb_w1_1 : w17.cell? ⟨w3.heap.size + 1, 1, none⟩ = some (.int .i64 pp.so) := HK_w1_17.out.cell 1
  have cb_w1_2 : w17.cell? ⟨w3.heap.size + 1, 2, none⟩ = some (.int .i64 pp.de) := HK_w1_17.out.cell 2
  have cb_w1_3 : w17.cell? ⟨w3.heap.size + 1, 3, none⟩ = some (.int .i64 pp.po) := HK_w1_17.out.cell 3
  have cb_w1_4 : w17.cell? ⟨w3.heap.size + 1, 4, none⟩ = some (.int .i64 pp.ma) := HK_w1_17.out.cell 4
  have cb_w1_5 : w17.cell? ⟨w3.heap.size + 1, 5, none⟩ = some (.int .i64 pp.si) := HK_w1_17.out.cell 5
  have HK_x0_17 : Hid (Bk w17 (w4.heap.size) 36 #[.int .i64 li, .int .i64 by_, .slice A_x n cap_x, .int .i64 se, .int .i64 dr]) := Lib.hid (((HK_x0_16.out.alloc _).alloc _).old hb17)
  clear HK_x0_16
  clear cb_x0_0 cb_x0_1 cb_x0_2 cb_x0_3 cb_x0_4 zb_x0
  have zb_x0 : w4.heap.size < w17.heap.size := HK_x0_17.out.lt
  have cb_x0_0 : w17.cell? ⟨w4.heap.size, 0, none⟩ = some (.int .i64 li) := HK_x0_17.out.cell 0
  have cb_x0_1 : w17.cell? ⟨w4.heap.size, 1, none⟩ = some (.int .i64 by_) := HK_x0_17.out.cell 1
  have cb_x0_2 : w17.cell? ⟨w4.heap.size, 2, none⟩ = some (.slice A_x n cap_x) := HK_x0_17.out.cell 2
  have cb_x0_3 : w17.cell? ⟨w4.heap.size, 3, none⟩ = some (.int .i64 se) := HK_x0_17.out.cell 3
  have cb_x0_4 : w17.cell? ⟨w4.heap.size, 4, none⟩ = some (.int .i64 dr) := HK_x0_17.out.cell 4
  have HK_g0_17 : Hid (Bk w17 (w5.heap.size) 36 #[.int .i64 xl, .int .i64 xb, .slice A_g M.length cap_g, .int .i64 xs, .int .i64 xd]) := Lib.hid (((HK_g0_16.out.alloc _).alloc _).old hb17)
  clear HK_g0_16
  clear cb_g0_0 cb_g0_1 cb_g0_2 cb_g0_3 cb_g0_4 zb_g0
  have zb_g0 : w5.heap.size < w17.heap.size := HK_g0_17.out.lt
  have cb_g0_0 : w17.cell? ⟨w5.heap.size, 0, none⟩ = some (.int .i64 xl) := HK_g0_17.out.cell 0
  have cb_g0_1 : w17.cell? ⟨w5.heap.size, 1, none⟩ = some (.int .i64 xb) := HK_g0_17.out.cell 1
  have cb_g0_2 : w17.cell? ⟨w5.heap.size, 2, none⟩ = some (.slice A_g M.length cap_g) := HK_g0_17.out.cell 2
  have cb_g0_3 : w17.cell? ⟨w5.heap.size, 3, none⟩ = some (.int .i64 xs) := HK_g0_17.out.cell 3
  have cb_g0_4 : w17.cell? ⟨w5.heap.size, 4, none⟩ = some (.int .i64 xd) := HK_g0_17.out.cell 4
  have HK_g1_17 : Hid (Bk w17 (w5.heap.size + 1) 49 #[.int .i64 pp.id, .int .i64 pp.so, .int .i64 pp.de, .int .i64 pp.po, .int .i64 pp.ma, .int .i64 pp.si]) := Lib.hid (((HK_g1_16.out.alloc _).alloc _).old hb17)
  clear HK_g1_16
  clear cb_g1_0 cb_g1_1 cb_g1_2 cb_g1_3 cb_g1_4 cb_g1_5 zb_g1
  have zb_g1 : w5.heap.size + 1 < w17.heap.size := HK_g1_17.out.lt
  have cb_g1_0 : w17.cell? ⟨w5.heap.size + 1, 0, none⟩ = some (.int .i64 pp.id) := HK_g1_17.out.cell 0
  have cb_g1_1 : w17.cell? ⟨w5.heap.size + 1, 1, none⟩ = some (.int .i64 pp.so) := HK_g1_17.out.cell 1
  have cb_g1_2 : w17.cell? ⟨w5.heap.size + 1, 2, none⟩ = some (.int .i64 pp.de) := HK_g1_17.out.cell 2
  have cb_g1_3 : w17.cell? ⟨w5.heap.size + 1, 3, none⟩ = some (.int .i64 pp.po) := HK_g1_17.out.cell 3
  have cb_g1_4 : w17.cell? ⟨w5.heap.size + 1, 4, none⟩ = some (.int .i64 pp.ma) := HK_g1_17.out.cell 4
  have cb_g1_5 : w17.cell? ⟨w5.heap.size + 1, 5, none⟩ = some (.int .i64 pp.si) := HK_g1_17.out.cell 5
  have HK_h0_17 : Hid (Bk w17 (w16.heap.size) 36 #[.int .i64 xl, .int .i64 xb, .slice A_h M.length cap_h, .int .i64 xs, .int .i64 xd]) := Lib.hid (((Bk.new_ (by simp) : Bk _ (w16.heap.size) 36 #[.int .i64 xl, .int .i64 xb, .slice A_h M.length cap_h, .int .i64 xs, .int .i64 xd]).alloc _).old hb17)
  have zb_h0 : w16.heap.size < w17.heap.size := HK_h0_17.out.lt
  have cb_h0_0 : w17.cell? ⟨w16.heap.size, 0, none⟩ = some (.int .i64 xl) := HK_h0_17.out.cell 0
  have cb_h0_1 : w17.cell? ⟨w16.heap.size, 1, none⟩ = some (.int .i64 xb) := HK_h0_17.out.cell 1
  have cb_h0_2 : w17.cell? ⟨w16.heap.size, 2, none⟩ = some (.slice A_h M.length cap_h) := HK_h0_17.out.cell 2
  have cb_h0_3 : w17.cell? ⟨w16.heap.size, 3, none⟩ = some (.int .i64 xs) := HK_h0_17.out.cell 3
  have cb_h0_4 : w17.cell? ⟨w16.heap.size, 4, none⟩ = some (.int .i64 xd) := HK_h0_17.out.cell 4
  have HK_h1_17 : Hid (Bk w17 (w16.heap.size + 1) 49 #[.int .i64 pp.id, .int .i64 pp.so, .int .i64 pp.de, .int .i64 pp.po, .int .i64 pp.ma, .int .i64 pp.si]) := Lib.hid ((Bk.new_ (by simp) : Bk _ (w16.heap.size + 1) 49 #[.int .i64 pp.id, .int .i64 pp.so, .int .i64 pp.de, .int .i64 pp.po, .int .i64 pp.ma, .int .i64 pp.si]).old hb17)
  have zb_h1 : w16.heap.size + 1 < w17.heap.size := HK_h1_17.out.lt
  have cb_h1_0 : w17.cell? ⟨w16.heap.size + 1, 0, none⟩ = some (.int .i64 pp.id) := HK_h1_17.out.cell 0
  have cb_h1_1 : w17.cell? ⟨w16.heap.size + 1, 1, none⟩ = some (.int .i64 pp.so) := HK_h1_17.out.cell 1
  have cb_h1_2 : w17.cell? ⟨w16.heap.size + 1, 2, none⟩ = some (.int .i64 pp.de) := HK_h1_17.out.cell 2
  have cb_h1_3 : w17.cell? ⟨w16.heap.size + 1, 3, none⟩ = some (.int .i64 pp.po) := HK_h1_17.out.cell 3
  have cb_h1_4 : w17.cell? ⟨w16.heap.size + 1, 4, none⟩ = some (.int .i64 pp.ma) := HK_h1_17.out.cell 4
  have cb_h1_5 : w17.cell? ⟨w16.heap.size + 1, 5, none⟩ = some (.int .i64 pp.si) := HK_h1_17.out.cell 5
  have HO_s_17 := Lib.hid (((HO_s_16.out.alloc _).alloc _).old hb17)
  clear HO_s_16
  have HO_v_17 := Lib.hid (((HO_v_16.out.alloc _).alloc _).old hb17)
  clear HO_v_16
  have HO_x_17 := Lib.hid (((HO_x_16.out.alloc _).alloc _).old hb17)
  clear HO_x_16
  have HO_g_17 := Lib.hid (((HO_g_16.out.alloc _).alloc _).old hb17)
  clear HO_g_16
  have HO_y_17 := Lib.hid (((HO_y_16.out.alloc _).alloc _).old hb17)
  clear HO_y_16
  have HO_z_17 := Lib.hid (((HO_z_16.out.alloc _).alloc _).old hb17)
  clear HO_z_16
  have HO_h_17 := Lib.hid (((HO_h_16.out.alloc _).alloc _).old hb17)
  clear HO_h_16
  have HB_17 := Lib.hid (bt (ba (ba HB_16.out _) _) hb17)
  clear hb17
  go_wp2_with fail
  refine (eqPacket_any _ _ _ _ _ _ _).mono ?_
  rintro e w18 ⟨rfl, hb18⟩
  have z18 := hb18.size
  (try simp at z18)
  have HK_q_18 : Hid (Bk w18 (w.heap.size) 31 #[.int .i64 li, .int .i64 by_, .slice A n cap, .int .i64 se, .int .i64 dr]) := Lib.hid (HK_q_17.out.old hb18)
  clear HK_q_17
  clear cb_q_0 cb_q_1 cb_q_2 cb_q_3 cb_q_4 zb_q
  have zb_q : w.heap.size < w18.heap.size := HK_q_18.out.lt
  have cb_q_0 : w18.cell? ⟨w.heap.size, 0, none⟩ = some (.int .i64 li) := HK_q_18.out.cell 0
  have cb_q_1 : w18.cell? ⟨w.heap.size, 1, none⟩ = some (.int .i64 by_) := HK_q_18.out.cell 1
  have cb_q_2 : w18.cell? ⟨w.heap.size, 2, none⟩ = some (.slice A n cap) := HK_q_18.out.cell 2
  have cb_q_3 : w18.cell? ⟨w.heap.size, 3, none⟩ = some (.int .i64 se) := HK_q_18.out.cell 3
  have cb_q_4 : w18.cell? ⟨w.heap.size, 4, none⟩ = some (.int .i64 dr) := HK_q_18.out.cell 4
  have HK_w0_18 : Hid (Bk w18 (w3.heap.size) 36 #[.int .i64 xl, .int .i64 xb, .slice A_v M.length cap_v, .int .i64 xs, .int .i64 xd]) := Lib.hid (HK_w0_17.out.old hb18)
  clear HK_w0_17
  clear cb_w0_0 cb_w0_1 cb_w0_2 cb_w0_3 cb_w0_4 zb_w0
  have zb_w0 : w3.heap.size < w18.heap.size := HK_w0_18.out.lt
  have cb_w0_0 : w18.cell? ⟨w3.heap.size, 0, none⟩ = some (.int .i64 xl) := HK_w0_18.out.cell 0
  have cb_w0_1 : w18.cell? ⟨w3.heap.size, 1, none⟩ = some (.int .i64 xb) := HK_w0_18.out.cell 1
  have cb_w0_2 : w18.cell? ⟨w3.heap.size, 2, none⟩ = some (.slice A_v M.length cap_v) := HK_w0_18.out.cell 2
  have cb_w0_3 : w18.cell? ⟨w3.heap.size, 3, none⟩ = some (.int .i64 xs) := HK_w0_18.out.cell 3
  have cb_w0_4 : w18.cell? ⟨w3.heap.size, 4, none⟩ = some (.int .i64 xd) := HK_w0_18.out.cell 4
  have HK_w1_18 : Hid (Bk w18 (w3.heap.size + 1) 49 #[.int .i64 pp.id, .int .i64 pp.so, .int .i64 pp.de, .int .i64 pp.po, .int .i64 pp.ma, .int .i64 pp.si]) := Lib.hid (HK_w1_17.out.old hb18)
  clear HK_w1_17
  clear cb_w1_0 cb_w1_1 cb_w1_2 cb_w1_3 cb_w1_4 cb_w1_5 zb_w1
  have zb_w1 : w3.heap.size + 1 < w18.heap.size := HK_w1_18.out.lt
  have cb_w1_0 : w18.cell? ⟨w3.heap.size + 1, 0, none⟩ = some (.int .i64 pp.id) := HK_w1_18.out.cell 0
  have cb_w1_1 : w18.cell? ⟨w3.heap.size + 1, 1, none⟩ = some (.int .i64 pp.so) := HK_w1_18.out.cell 1
  have cb_w1_2 : w18.cell? ⟨w3.heap.size + 1, 2, none⟩ = some (.int .i64 pp.de) := HK_w1_18.out.cell 2
  have cb_w1_3 : w18.cell? ⟨w3.heap.size + 1, 3, none⟩ = some (.int .i64 pp.po) := HK_w1_18.out.cell 3
  have cb_w1_4 : w18.cell? ⟨w3.heap.size + 1, 4, none⟩ = some (.int .i64 pp.ma) := HK_w1_18.out.cell 4
  have cb_w1_5 : w18.cell? ⟨w3.heap.size + 1, 5, none⟩ = some (.int .i64 pp.si) := HK_w1_18.out.cell 5
  have HK_x0_18 : Hid (Bk w18 (w4.heap.size) 36 #[.int .i64 li, .int .i64 by_, .slice A_x n cap_x, .int .i64 se, .int .i64 dr]) := Lib.hid (HK_x0_17.out.old hb18)
  clear HK_x0_17
  clear cb_x0_0 cb_x0_1 cb_x0_2 cb_x0_3 cb_x0_4 zb_x0
  have zb_x0 : w4.heap.size < w18.heap.size := HK_x0_18.out.lt
  have cb_x0_0 : w18.cell? ⟨w4.heap.size, 0, none⟩ = some (.int .i64 li) := HK_x0_18.out.cell 0
  have cb_x0_1 : w18.cell? ⟨w4.heap.size, 1, none⟩ = some (.int .i64 by_) := HK_x0_18.out.cell 1
  have cb_x0_2 : w18.cell? ⟨w4.heap.size, 2, none⟩ = some (.slice A_x n cap_x) := HK_x0_18.out.cell 2
  have cb_x0_3 : w18.cell? ⟨w4.heap.size, 3, none⟩ = some (.int .i64 se) := HK_x0_18.out.cell 3
  have cb_x0_4 : w18.cell? ⟨w4.heap.size, 4, none⟩ = some (.int .i64 dr) := HK_x0_18.out.cell 4
  have HK_g0_18 : Hid (Bk w18 (w5.heap.size) 36 #[.int .i64 xl, .int .i64 xb, .slice A_g M.length cap_g, .int .i64 xs, .int .i64 xd]) := Lib.hid (HK_g0_17.out.old hb18)
  clear HK_g0_17
  clear cb_g0_0 cb_g0_1 cb_g0_2 cb_g0_3 cb_g0_4 zb_g0
  have zb_g0 : w5.heap.size < w18.heap.size := HK_g0_18.out.lt
  have cb_g0_0 : w18.cell? ⟨w5.heap.size, 0, none⟩ = some (.int .i64 xl) := HK_g0_18.out.cell 0
  have cb_g0_1 : w18.cell? ⟨w5.heap.size, 1, none⟩ = some (.int .i64 xb) := HK_g0_18.out.cell 1
  have cb_g0_2 : w18.cell? ⟨w5.heap.size, 2, none⟩ = some (.slice A_g M.length cap_g) := HK_g0_18.out.cell 2
  have cb_g0_3 : w18.cell? ⟨w5.heap.size, 3, none⟩ = some (.int .i64 xs) := HK_g0_18.out.cell 3
  have cb_g0_4 : w18.cell? ⟨w5.heap.size, 4, none⟩ = some (.int .i64 xd) := HK_g0_18.out.cell 4
  have HK_g1_18 : Hid (Bk w18 (w5.heap.size + 1) 49 #[.int .i64 pp.id, .int .i64 pp.so, .int .i64 pp.de, .int .i64 pp.po, .int .i64 pp.ma, .int .i64 pp.si]) := Lib.hid (HK_g1_17.out.old hb18)
  clear HK_g1_17
  clear cb_g1_0 cb_g1_1 cb_g1_2 cb_g1_3 cb_g1_4 cb_g1_5 zb_g1
  have zb_g1 : w5.heap.size + 1 < w18.heap.size := HK_g1_18.out.lt
  have cb_g1_0 : w18.cell? ⟨w5.heap.size + 1, 0, none⟩ = some (.int .i64 pp.id) := HK_g1_18.out.cell 0
  have cb_g1_1 : w18.cell? ⟨w5.heap.size + 1, 1, none⟩ = some (.int .i64 pp.so) := HK_g1_18.out.cell 1
  have cb_g1_2 : w18.cell? ⟨w5.heap.size + 1, 2, none⟩ = some (.int .i64 pp.de) := HK_g1_18.out.cell 2
  have cb_g1_3 : w18.cell? ⟨w5.heap.size + 1, 3, none⟩ = some (.int .i64 pp.po) := HK_g1_18.out.cell 3
  have cb_g1_4 : w18.cell? ⟨w5.heap.size + 1, 4, none⟩ = some (.int .i64 pp.ma) := HK_g1_18.out.cell 4
  have cb_g1_5 : w18.cell? ⟨w5.heap.size + 1, 5, none⟩ = some (.int .i64 pp.si) := HK_g1_18.out.cell 5
  have HK_h0_18 : Hid (Bk w18 (w16.heap.size) 36 #[.int .i64 xl, .int .i64 xb, .slice A_h M.length cap_h, .int .i64 xs, .int .i64 xd]) := Lib.hid (HK_h0_17.out.old hb18)
  clear HK_h0_17
  clear cb_h0_0 cb_h0_1 cb_h0_2 cb_h0_3 cb_h0_4 zb_h0
  have zb_h0 : w16.heap.size < w18.heap.size := HK_h0_18.out.lt
  have cb_h0_0 : w18.cell? ⟨w16.heap.size, 0, none⟩ = some (.int .i64 xl) := HK_h0_18.out.cell 0
  have cb_h0_1 : w18.cell? ⟨w16.heap.size, 1, none⟩ = some (.int .i64 xb) := HK_h0_18.out.cell 1
  have cb_h0_2 : w18.cell? ⟨w16.heap.size, 2, none⟩ = some (.slice A_h M.length cap_h) := HK_h0_18.out.cell 2
  have cb_h0_3 : w18.cell? ⟨w16.heap.size, 3, none⟩ = some (.int .i64 xs) := HK_h0_18.out.cell 3
  have cb_h0_4 : w18.cell? ⟨w16.heap.size, 4, none⟩ = some (.int .i64 xd) := HK_h0_18.out.cell 4
  have HK_h1_18 : Hid (Bk w18 (w16.heap.size + 1) 49 #[.int .i64 pp.id, .int .i64 pp.so, .int .i64 pp.de, .int .i64 pp.po, .int .i64 pp.ma, .int .i64 pp.si]) := Lib.hid (HK_h1_17.out.old hb18)
  clear HK_h1_17
  clear cb_h1_0 cb_h1_1 cb_h1_2 cb_h1_3 cb_h1_4 cb_h1_5 zb_h1
  have zb_h1 : w16.heap.size + 1 < w18.heap.size := HK_h1_18.out.lt
  have cb_h1_0 : w18.cell? ⟨w16.heap.size + 1, 0, none⟩ = some (.int .i64 pp.id) := HK_h1_18.out.cell 0
  have cb_h1_1 : w18.cell? ⟨w16.heap.size + 1, 1, none⟩ = some (.int .i64 pp.so) := HK_h1_18.out.cell 1
  have cb_h1_2 : w18.cell? ⟨w16.heap.size + 1, 2, none⟩ = some (.int .i64 pp.de) := HK_h1_18.out.cell 2
  have cb_h1_3 : w18.cell? ⟨w16.heap.size + 1, 3, none⟩ = some (.int .i64 pp.po) := HK_h1_18.out.cell 3
  have cb_h1_4 : w18.cell? ⟨w16.heap.size + 1, 4, none⟩ = some (.int .i64 pp.ma) := HK_h1_18.out.cell 4
  have cb_h1_5 : w18.cell? ⟨w16.heap.size + 1, 5, none⟩ = some (.int .i64 pp.si) := HK_h1_18.out.cell 5
  have HO_s_18 := Lib.hid (HO_s_17.out.old hb18)
  clear HO_s_17
  have HO_v_18 := Lib.hid (HO_v_17.out.old hb18)
  clear HO_v_17
  have HO_x_18 := Lib.hid (HO_x_17.out.old hb18)
  clear HO_x_17
  have HO_g_18 := Lib.hid (HO_g_17.out.old hb18)
  clear HO_g_17
  have HO_y_18 := Lib.hid (HO_y_17.out.old hb18)
  clear HO_y_17
  have HO_z_18 := Lib.hid (HO_z_17.out.old hb18)
  clear HO_z_17
  have HO_h_18 := Lib.hid (HO_h_17.out.old hb18)
  clear HO_h_17
  have HB_18 := Lib.hid (bt HB_17.out hb18)
  clear hb18
  go_wp2_with fail
  refine (heldQueue_any _ _ _ _ _ _ _ 1 _ HO_g_18.out.row (by omega) (by omega) (by omega)).mono ?_
  rintro e w19 ⟨rfl, hb19⟩
  have z19 := hb19.size
  (try simp at z19)
  have HK_q_19 : Hid (Bk w19 (w.heap.size) 31 #[.int .i64 li, .int .i64 by_, .slice A n cap, .int .i64 se, .int .i64 dr]) := Lib.hid (HK_q_18.out.old hb19)
  clear HK_q_18
  clear cb_q_0 cb_q_1 cb_q_2 cb_q_3 cb_q_4 zb_q
  have zb_q : w.heap.size < w19.heap.size := HK_q_19.out.lt
  have cb_q_0 : w19.cell? ⟨w.heap.size, 0, none⟩ = some (.int .i64 li) := HK_q_19.out.cell 0
  have cb_q_1 : w19.cell? ⟨w.heap.size, 1, none⟩ = some (.int .i64 by_) := HK_q_19.out.cell 1
  have cb_q_2 : w19.cell? ⟨w.heap.size, 2, none⟩ = some (.slice A n cap) := HK_q_19.out.cell 2
  have cb_q_3 : w19.cell? ⟨w.heap.size, 3, none⟩ = some (.int .i64 se) := HK_q_19.out.cell 3
  have cb_q_4 : w19.cell? ⟨w.heap.size, 4, none⟩ = some (.int .i64 dr) := HK_q_19.out.cell 4
  have HK_w0_19 : Hid (Bk w19 (w3.heap.size) 36 #[.int .i64 xl, .int .i64 xb, .slice A_v M.length cap_v, .int .i64 xs, .int .i64 xd]) := Lib.hid (HK_w0_18.out.old hb19)
  clear HK_w0_18
  clear cb_w0_0 cb_w0_1 cb_w0_2 cb_w0_3 cb_w0_4 zb_w0
  have zb_w0 : w3.heap.size < w19.heap.size := HK_w0_19.out.lt
  have cb_w0_0 : w19.cell? ⟨w3.heap.size, 0, none⟩ = some (.int .i64 xl) := HK_w0_19.out.cell 0
  have cb_w0_1 : w19.cell? ⟨w3.heap.size, 1, none⟩ = some (.int .i64 xb) := HK_w0_19.out.cell 1
  have cb_w0_2 : w19.cell? ⟨w3.heap.size, 2, none⟩ = some (.slice A_v M.length cap_v) := HK_w0_19.out.cell 2
  have cb_w0_3 : w19.cell? ⟨w3.heap.size, 3, none⟩ = some (.int .i64 xs) := HK_w0_19.out.cell 3
  have cb_w0_4 : w19.cell? ⟨w3.heap.size, 4, none⟩ = some (.int .i64 xd) := HK_w0_19.out.cell 4
  have HK_w1_19 : Hid (Bk w19 (w3.heap.size + 1) 49 #[.int .i64 pp.id, .int .i64 pp.so, .int .i64 pp.de, .int .i64 pp.po, .int .i64 pp.ma, .int .i64 pp.si]) := Lib.hid (HK_w1_18.out.old hb19)
  clear HK_w1_18
  clear cb_w1_0 cb_w1_1 cb_w1_2 cb_w1_3 cb_w1_4 cb_w1_5 zb_w1
  have zb_w1 : w3.heap.size + 1 < w19.heap.size := HK_w1_19.out.lt
  have cb_w1_0 : w19.cell? ⟨w3.heap.size + 1, 0, none⟩ = some (.int .i64 pp.id) := HK_w1_19.out.cell 0
  have cb_w1_1 : w19.cell? ⟨w3.heap.size + 1, 1, none⟩ = some (.int .i64 pp.so) := HK_w1_19.out.cell 1
  have cb_w1_2 : w19.cell? ⟨w3.heap.size + 1, 2, none⟩ = some (.int .i64 pp.de) := HK_w1_19.out.cell 2
  have cb_w1_3 : w19.cell? ⟨w3.heap.size + 1, 3, none⟩ = some (.int .i64 pp.po) := HK_w1_19.out.cell 3
  have cb_w1_4 : w19.cell? ⟨w3.heap.size + 1, 4, none⟩ = some (.int .i64 pp.ma) := HK_w1_19.out.cell 4
  have cb_w1_5 : w19.cell? ⟨w3.heap.size + 1, 5, none⟩ = some (.int .i64 pp.si) := HK_w1_19.out.cell 5
  have HK_x0_19 : Hid (Bk w19 (w4.heap.size) 36 #[.int .i64 li, .int .i64 by_, .slice A_x n cap_x, .int .i64 se, .int .i64 dr]) := Lib.hid (HK_x0_18.out.old hb19)
  clear HK_x0_18
  clear cb_x0_0 cb_x0_1 cb_x0_2 cb_x0_3 cb_x0_4 zb_x0
  have zb_x0 : w4.heap.size < w19.heap.size := HK_x0_19.out.lt
  have cb_x0_0 : w19.cell? ⟨w4.heap.size, 0, none⟩ = some (.int .i64 li) := HK_x0_19.out.cell 0
  have cb_x0_1 : w19.cell? ⟨w4.heap.size, 1, none⟩ = some (.int .i64 by_) := HK_x0_19.out.cell 1
  have cb_x0_2 : w19.cell? ⟨w4.heap.size, 2, none⟩ = some (.slice A_x n cap_x) := HK_x0_19.out.cell 2
  have cb_x0_3 : w19.cell? ⟨w4.heap.size, 3, none⟩ = some (.int .i64 se) := HK_x0_19.out.cell 3
  have cb_x0_4 : w19.cell? ⟨w4.heap.size, 4, none⟩ = some (.int .i64 dr) := HK_x0_19.out.cell 4
  have HK_g0_19 : Hid (Bk w19 (w5.heap.size) 36 #[.int .i64 xl, .int .i64 xb, .slice A_g M.length cap_g, .int .i64 xs, .int .i64 xd]) := Lib.hid (HK_g0_18.out.old hb19)
  clear HK_g0_18
  clear cb_g0_0 cb_g0_1 cb_g0_2 cb_g0_3 cb_g0_4 zb_g0
  have zb_g0 : w5.heap.size < w19.heap.size := HK_g0_19.out.lt
  have cb_g0_0 : w19.cell? ⟨w5.heap.size, 0, none⟩ = some (.int .i64 xl) := HK_g0_19.out.cell 0
  have cb_g0_1 : w19.cell? ⟨w5.heap.size, 1, none⟩ = some (.int .i64 xb) := HK_g0_19.out.cell 1
  have cb_g0_2 : w19.cell? ⟨w5.heap.size, 2, none⟩ = some (.slice A_g M.length cap_g) := HK_g0_19.out.cell 2
  have cb_g0_3 : w19.cell? ⟨w5.heap.size, 3, none⟩ = some (.int .i64 xs) := HK_g0_19.out.cell 3
  have cb_g0_4 : w19.cell? ⟨w5.heap.size, 4, none⟩ = some (.int .i64 xd) := HK_g0_19.out.cell 4
  have HK_g1_19 : Hid (Bk w19 (w5.heap.size + 1) 49 #[.int .i64 pp.id, .int .i64 pp.so, .int .i64 pp.de, .int .i64 pp.po, .int .i64 pp.ma, .int .i64 pp.si]) := Lib.hid (HK_g1_18.out.old hb19)
  clear HK_g1_18
  clear cb_g1_0 cb_g1_1 cb_g1_2 cb_g1_3 cb_g1_4 cb_g1_5 zb_g1
  have zb_g1 : w5.heap.size + 1 < w19.heap.size := HK_g1_19.out.lt
  have cb_g1_0 : w19.cell? ⟨w5.heap.size + 1, 0, none⟩ = some (.int .i64 pp.id) := HK_g1_19.out.cell 0
  have cb_g1_1 : w19.cell? ⟨w5.heap.size + 1, 1, none⟩ = some (.int .i64 pp.so) := HK_g1_19.out.cell 1
  have cb_g1_2 : w19.cell? ⟨w5.heap.size + 1, 2, none⟩ = some (.int .i64 pp.de) := HK_g1_19.out.cell 2
  have cb_g1_3 : w19.cell? ⟨w5.heap.size + 1, 3, none⟩ = some (.int .i64 pp.po) := HK_g1_19.out.cell 3
  have cb_g1_4 : w19.cell? ⟨w5.heap.size + 1, 4, none⟩ = some (.int .i64 pp.ma) := HK_g1_19.out.cell 4
  have cb_g1_5 : w19.cell? ⟨w5.heap.size + 1, 5, none⟩ = some (.int .i64 pp.si) := HK_g1_19.out.cell 5
  have HK_h0_19 : Hid (Bk w19 (w16.heap.size) 36 #[.int .i64 xl, .int .i64 xb, .slice A_h M.length cap_h, .int .i64 xs, .int .i64 xd]) := Lib.hid (HK_h0_18.out.old hb19)
  clear HK_h0_18
  clear cb_h0_0 cb_h0_1 cb_h0_2 cb_h0_3 cb_h0_4 zb_h0
  have zb_h0 : w16.heap.size < w19.heap.size := HK_h0_19.out.lt
  have cb_h0_0 : w19.cell? ⟨w16.heap.size, 0, none⟩ = some (.int .i64 xl) := HK_h0_19.out.cell 0
  have cb_h0_1 : w19.cell? ⟨w16.heap.size, 1, none⟩ = some (.int .i64 xb) := HK_h0_19.out.cell 1
  have cb_h0_2 : w19.cell? ⟨w16.heap.size, 2, none⟩ = some (.slice A_h M.length cap_h) := HK_h0_19.out.cell 2
  have cb_h0_3 : w19.cell? ⟨w16.heap.size, 3, none⟩ = some (.int .i64 xs) := HK_h0_19.out.cell 3
  have cb_h0_4 : w19.cell? ⟨w16.heap.size, 4, none⟩ = some (.int .i64 xd) := HK_h0_19.out.cell 4
  have HK_h1_19 : Hid (Bk w19 (w16.heap.size + 1) 49 #[.int .i64 pp.id, .int .i64 pp.so, .int .i64 pp.de, .int .i64 pp.po, .int .i64 pp.ma, .int .i64 pp.si]) := Lib.hid (HK_h1_18.out.old hb19)
  clear HK_h1_18
  clear cb_h1_0 cb_h1_1 cb_h1_2 cb_h1_3 cb_h1_4 cb_h1_5 zb_h1
  have zb_h1 : w16.heap.size + 1 < w19.heap.size := HK_h1_19.out.lt
  have cb_h1_0 : w19.cell? ⟨w16.heap.size + 1, 0, none⟩ = some (.int .i64 pp.id) := HK_h1_19.out.cell 0
  have cb_h1_1 : w19.cell? ⟨w16.heap.size + 1, 1, none⟩ = some (.int .i64 pp.so) := HK_h1_19.out.cell 1
  have cb_h1_2 : w19.cell? ⟨w16.heap.size + 1, 2, none⟩ = some (.int .i64 pp.de) := HK_h1_19.out.cell 2
  have cb_h1_3 : w19.cell? ⟨w16.heap.size + 1, 3, none⟩ = some (.int .i64 pp.po) := HK_h1_19.out.cell 3
  have cb_h1_4 : w19.cell? ⟨w16.heap.size + 1, 4, none⟩ = some (.int .i64 pp.ma) := HK_h1_19.out.cell 4
  have cb_h1_5 : w19.cell? ⟨w16.heap.size + 1, 5, none⟩ = some (.int .i64 pp.si) := HK_h1_19.out.cell 5
  have HO_s_19 := Lib.hid (HO_s_18.out.old hb19)
  clear HO_s_18
  have HO_v_19 := Lib.hid (HO_v_18.out.old hb19)
  clear HO_v_18
  have HO_x_19 := Lib.hid (HO_x_18.out.old hb19)
  clear HO_x_18
  have HO_g_19 := Lib.hid (HO_g_18.out.old hb19)
  clear HO_g_18
  have HO_y_19 := Lib.hid (HO_y_18.out.old hb19)
  clear HO_y_18
  have HO_z_19 := Lib.hid (HO_z_18.out.old hb19)
  clear HO_z_18
  have HO_h_19 := Lib.hid (HO_h_18.out.old hb19)
  clear HO_h_18
  have HB_19 := Lib.hid (bt HB_18.out hb19)
  clear hb19
  go_wp2_with fail
  go_ret
  exact ⟨rfl, HB_19.out⟩
theorem own : ownKnob Try.prog.godebug = none := by kernel_rfl
theorem laidOut : laidOutB Try.prog = true := by kernel_rfl
set_option maxRecDepth 100000 in
theorem lifted (os : Os) (started : os.Started) (H : Type) (enc : TypeId × Value → H) :
    ReturnsInHanded {} Try.checked os 8 .any (Rows.fnExactTakeHeadSpec.pre6 enc Try.prog Try.f8 Rows.fnExactTakeHeadRow.domain false) (Rows.fnExactTakeHeadSpec.post enc Try.prog Try.f8 false true false false) := by
  refine returnsInHanded_of_change (C := Try.checked) own started (by kernel_rfl) Try.func8
    (ChangeSpec.witness6 (enc := enc) (C := Try.checked) false ⟨#[], #[.agg #[.int .i64 0, .int .i64 0, .slice none 0 0, .int .i64 0, .int .i64 0]], []⟩ 8 (by kernel_rfl) (by kernel_rfl) (by kernel_rfl) (by kernel_rfl)) ?_
  intro W base args ds gs before hval0 hW hcnd _
  have hval : ∀ (j : Nat) t v, Try.f8.params[j]? = some t → args[j]? = some v → Value.okWide Try.prog W .any base t v := hval0
  have hW' := hW
  obtain ⟨p, q, hA0, hV, rfl, hfz, hnd⟩ := hW
  have hA : DataW.TrodAll enc Try.prog W 0 (fun _ => true) true Try.f8.params.toList args.toList ds p := hA0
  rw [Try.params8] at hA hval
  obtain ⟨v0, vs0, d0, ds0, p0, q0, hargs, rfl, rfl, h0, r0⟩ := trodAll_cons hA
  obtain ⟨rfl, rfl, rfl⟩ := trodAll_nil r0
  obtain rfl : args = #[v0] := by cases args; simp_all
  obtain ⟨rfl, rfl⟩ := trodVars_none hV
  have k0 := h0
  have lt0 : ∀ x ∈ p0, x.block < W.heap.size := by obtain ⟨m, hm⟩ := k0; exact DataW.trod_lt m _ _ _ hm
  obtain ⟨cs0, rfl, hsz0⟩ := okWide_struct Try.underlying31 (hval 0 31 v0 rfl rfl)
  obtain ⟨c0_0, c0_1, c0_2, c0_3, c0_4, rfl⟩ := arr5 (hsz0.trans (by kernel_rfl))
  have hf0 := h0
  obtain ⟨fu0, hf0⟩ := hf0
  simp only [Value.cells] at hf0
  obtain ⟨a0_0, ea0_0⟩ := leaf_int Try.underlying31 hf0 0 _ rfl Try.underlying3 (by kernel_rfl) rfl
  obtain ⟨ea0_0, wa0_0⟩ := ea0_0
  subst ea0_0
  obtain ⟨a0_1, ea0_1⟩ := leaf_int Try.underlying31 hf0 1 _ rfl Try.underlying3 (by kernel_rfl) rfl
  obtain ⟨ea0_1, wa0_1⟩ := ea0_1
  subst ea0_1
  obtain ⟨ma0_2, ya0_2, ta0_2⟩ := leaf Try.underlying31 hf0 2 _ rfl (by kernel_rfl) rfl
  obtain ⟨Aa0_2, lena0_2, capa0_2, la0_2, ea0_2, hra0_2⟩ := rows_leaf (s := 6) Try.underlying29 (by kernel_rfl) (by decide) (flatPacket enc W) ta0_2
  subst ea0_2
  obtain ⟨a0_3, ea0_3⟩ := leaf_int Try.underlying31 hf0 3 _ rfl Try.underlying3 (by kernel_rfl) rfl
  obtain ⟨ea0_3, wa0_3⟩ := ea0_3
  subst ea0_3
  obtain ⟨a0_4, ea0_4⟩ := leaf_int Try.underlying31 hf0 4 _ rfl Try.underlying3 (by kernel_rfl) rfl
  obtain ⟨ea0_4, wa0_4⟩ := ea0_4
  subst ea0_4
  clear hA0 hval0
  refine (walk W a0_0 (ibounds wa0_0) a0_1 (ibounds wa0_1) Aa0_2 lena0_2 capa0_2 la0_2 hra0_2 a0_3 (ibounds wa0_3) a0_4 (ibounds wa0_4)).mono fun e W' ⟨he, bel⟩ => ?_
  subst he
  exact ⟨_, rfl, _, _, _, [], _, [], hW', trodAll_mk1 (shut_bool Try.underlying4 _), (trodAll_cons_mk (Below.trod laidOut (by kernel_rfl) (of_decide_eq_true (by kernel_rfl)) k0 bel lt0) trodAll_mk0), rfl, bel.frame _, fun h => by cases h⟩
theorem over : Rows.fnExactTakeHeadRow.holds Try.pinned (OpenSpec.ofChange Rows.fnExactTakeHeadSpec) :=
  OpenClaim.holds_of_wide 8 Try.f8 rfl rfl rfl rfl rfl rfl rfl ⟨rfl, rfl, rfl, rfl, rfl⟩ rfl rfl rfl rfl rfl (by kernel_rfl) Try.func8 (by kernel_rfl)
    (of_decide_eq_true (by kernel_rfl)) (by unfold Func.isWrapper; first | (rw [if_pos (by decide +kernel)]; kernel_rfl) | (rw [if_neg (by decide +kernel)]; exact ⟨rfl, rfl⟩))
    (fun os started H enc _ => lifted os started H enc)
/-- The given statement. -/
theorem proved : Rows.FnExactTakeHeadSaid := over
#print axioms proved
end Go.Proofs.Ytgcbpooflecbpaa.lawTakeHead
