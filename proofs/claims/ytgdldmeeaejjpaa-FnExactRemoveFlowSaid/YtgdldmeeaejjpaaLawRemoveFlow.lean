/- The statement FnExactRemoveFlowSaid: for every input the law FnExactRemoveFlow returns true, and its arguments read as before. No condition. -/
import Derived.Test.YtgdldmeeaejjpaaRemove
import Derived.Test.YtgdldmeeaejjpaaDbox
import Derived.Deep.RegionHeld3
import Derived.Deep.DeepCutAuto
namespace Go.Proofs.Ytgdldmeeaejjpaa.lawRemoveFlow
open Go.ChangeShapes Go.WideShapes Go.ChangeAt Go.RowKit
set_option linter.unusedVariables false
set_option maxRecDepth 100000 in
set_option maxHeartbeats 4000000 in
theorem walk (w : World) (li : Int) (_ : IB li) (by_ : Int) (_ : IB by_) (A : Option Addr) (n cap : Nat) (l : List Int) (h : IRow w A l ∧ l.length = n * 6 ∧ n ≤ 9223372036854775807 ∧ IBs l) (se : Int) (_ : IB se) (dr : Int) (_ : IB dr)
    (p0 : Int) (_ : IB p0) (p1 : Int) (_ : IB p1) (p2 : Int) (_ : IB p2) (p3 : Int) (_ : IB p3) (p4 : Int) (_ : IB p4) (p5 : Int) (_ : IB p5) :
    Calls Try.prog 6 #[.agg #[.int .i64 li, .int .i64 by_, .slice A n cap, .int .i64 se, .int .i64 dr], .agg #[.int .i64 p0, .int .i64 p1, .int .i64 p2, .int .i64 p3, .int .i64 p4, .int .i64 p5]] w fun e w' => e = .returned (.bool true) ∧ Below w.heap.size w w' := by
  obtain ⟨hr, hl, hn, _⟩ := h
  obtain ⟨L, hL, rfl⟩ := unfl n l hl
  have HL := Lib.hid hl
  have HLL := Lib.hid hL
  have HR_a := Lib.hid hr
  have HSP := Lib.hid (fun (A : Option Addr) (cap : Nat) (w : World) (hr : IRow w A (fl L)) (hn : n ≤ 1048576) (hc : n ≤ cap) (hA : A = none → cap = 0) => specRemoveFlow_any li by_ A n cap se dr L ⟨p0, p1, p2, p3, p4, p5⟩ w hL hr hn hc hA)
  have HIM := Lib.hid (fun (A : Option Addr) (cap : Nat) (w : World) (hr : IRow w A (fl L)) (hn : n ≤ 1048576) (hc : n ≤ cap) (hA : A = none → cap = 0) => implRemoveFlow_any li by_ A n cap se dr L ⟨p0, p1, p2, p3, p4, p5⟩ w hL hr hn hc hA)
  unfold RfP at HSP HIM
  have HML := Lib.hid (rf_len (rfOk li by_ L se dr ⟨p0, p1, p2, p3, p4, p5⟩) L ⟨p0, p1, p2, p3, p4, p5⟩)
  have HIL := Lib.hid (rfI_len (rfOk li by_ L se dr ⟨p0, p1, p2, p3, p4, p5⟩) L ⟨p0, p1, p2, p3, p4, p5⟩)
  clear hl hr
  generalize hids : ifl (rfOk li by_ L se dr ⟨p0, p1, p2, p3, p4, p5⟩) ((rfG L ⟨p0, p1, p2, p3, p4, p5⟩).map Pk.id) = ids at *
  generalize hM : ifL (rfOk li by_ L se dr ⟨p0, p1, p2, p3, p4, p5⟩) (rfK L ⟨p0, p1, p2, p3, p4, p5⟩) = M at *
  generalize hxd : ifz (rfOk li by_ L se dr ⟨p0, p1, p2, p3, p4, p5⟩) (dr + ((rfG L ⟨p0, p1, p2, p3, p4, p5⟩).length : Int)) = xd at *
  clear hids hM hxd
  generalize rfOk li by_ L se dr ⟨p0, p1, p2, p3, p4, p5⟩ = ok at *
  generalize ifz ok li = xl at *
  generalize ifz ok by_ = xb at *
  generalize ifz ok se = xs at *
  have HMM := Lib.hid (show (fl M).length = M.length * 6 from fl_len M)
  have hml : M.length ≤ n + 1 := by have := HML.out; omega
  have hil : ids.length ≤ n + 1 := by have := HIL.out; omega
  clear hL
  by_cases hbig : n ≤ 1048576
  rotate_left
  · go_enter Try.func6, Try.ntmps6
    go_wp2_with fail
    refine (szQueue_any _ _ _ _ _ _ _ _ hn (if_neg hbig)).mono ?_
    rintro e w1 ⟨rfl, hg⟩
    go_wp2_with fail
    go_ret
    exact ⟨rfl, (by repeat (first | (with_reducible exact b0 _) | (with_reducible refine ba ?_ _) | (with_reducible refine bd ?_ _) | (with_reducible refine Below.drew ?_) | (with_reducible refine bs ?_ (by first | exact Nat.le_refl _ | exact Nat.le_add_right _ _ | omega) _) | (with_reducible refine bt ?_ (by assumption))))⟩
  go_enter Try.func6, Try.ntmps6
  go_wp2_with fail
  refine (szQueue_any _ _ _ _ _ _ _ _ hn (if_pos hbig)).mono ?_
  rintro e w1 ⟨rfl, hb1⟩
  have z1 := hb1.size
  (try simp at z1)
  have HK_q_1 : Hid (Bk w1 (w.heap.size) 24 #[.int .i64 li, .int .i64 by_, .slice A n cap, .int .i64 se, .int .i64 dr]) := Lib.hid (((Bk.new_ (by simp) : Bk _ (w.heap.size) 24 #[.int .i64 li, .int .i64 by_, .slice A n cap, .int .i64 se, .int .i64 dr]).alloc _).old hb1)
  have zb_q : w.heap.size < w1.heap.size := HK_q_1.out.lt
  have cb_q_0 : w1.cell? ⟨w.heap.size, 0, none⟩ = some (.int .i64 li) := HK_q_1.out.cell 0
  have cb_q_1 : w1.cell? ⟨w.heap.size, 1, none⟩ = some (.int .i64 by_) := HK_q_1.out.cell 1
  have cb_q_2 : w1.cell? ⟨w.heap.size, 2, none⟩ = some (.slice A n cap) := HK_q_1.out.cell 2
  have cb_q_3 : w1.cell? ⟨w.heap.size, 3, none⟩ = some (.int .i64 se) := HK_q_1.out.cell 3
  have cb_q_4 : w1.cell? ⟨w.heap.size, 4, none⟩ = some (.int .i64 dr) := HK_q_1.out.cell 4
  have HK_p_1 : Hid (Bk w1 (w.heap.size + 1) 26 #[.int .i64 p0, .int .i64 p1, .int .i64 p2, .int .i64 p3, .int .i64 p4, .int .i64 p5]) := Lib.hid ((Bk.new_ (by simp) : Bk _ (w.heap.size + 1) 26 #[.int .i64 p0, .int .i64 p1, .int .i64 p2, .int .i64 p3, .int .i64 p4, .int .i64 p5]).old hb1)
  have zb_p : w.heap.size + 1 < w1.heap.size := HK_p_1.out.lt
  have cb_p_0 : w1.cell? ⟨w.heap.size + 1, 0, none⟩ = some (.int .i64 p0) := HK_p_1.out.cell 0
  have cb_p_1 : w1.cell? ⟨w.heap.size + 1, 1, none⟩ = some (.int .i64 p1) := HK_p_1.out.cell 1
  have cb_p_2 : w1.cell? ⟨w.heap.size + 1, 2, none⟩ = some (.int .i64 p2) := HK_p_1.out.cell 2
  have cb_p_3 : w1.cell? ⟨w.heap.size + 1, 3, none⟩ = some (.int .i64 p3) := HK_p_1.out.cell 3
  have cb_p_4 : w1.cell? ⟨w.heap.size + 1, 4, none⟩ = some (.int .i64 p4) := HK_p_1.out.cell 4
  have cb_p_5 : w1.cell? ⟨w.heap.size + 1, 5, none⟩ = some (.int .i64 p5) := HK_p_1.out.cell 5
  have HB_1 := Lib.hid (bt (ba (ba (b0 w) _) _) hb1)
  clear hb1
  go_wp2_with fail
  have HSX := Lib.hid (show ∀ w' : World, Below w1.heap.size w1 w' → (fun w' => w'.cell? ⟨w.heap.size, 0, none⟩ = some (.int .i64 li) ∧ w'.cell? ⟨w.heap.size, 1, none⟩ = some (.int .i64 by_) ∧ w'.cell? ⟨w.heap.size, 2, none⟩ = some (.slice A n cap) ∧ w'.cell? ⟨w.heap.size, 3, none⟩ = some (.int .i64 se) ∧ w'.cell? ⟨w.heap.size, 4, none⟩ = some (.int .i64 dr) ∧ w'.cell? ⟨w.heap.size + 1, 0, none⟩ = some (.int .i64 p0) ∧ w'.cell? ⟨w.heap.size + 1, 1, none⟩ = some (.int .i64 p1) ∧ w'.cell? ⟨w.heap.size + 1, 2, none⟩ = some (.int .i64 p2) ∧ w'.cell? ⟨w.heap.size + 1, 3, none⟩ = some (.int .i64 p3) ∧ w'.cell? ⟨w.heap.size + 1, 4, none⟩ = some (.int .i64 p4) ∧ w'.cell? ⟨w.heap.size + 1, 5, none⟩ = some (.int .i64 p5)) w' from fun w' hb => ⟨(bkeep hb _ _ zb_q).trans cb_q_0, (bkeep hb _ _ zb_q).trans cb_q_1, (bkeep hb _ _ zb_q).trans cb_q_2, (bkeep hb _ _ zb_q).trans cb_q_3, (bkeep hb _ _ zb_q).trans cb_q_4, (bkeep hb _ _ zb_p).trans cb_p_0, (bkeep hb _ _ zb_p).trans cb_p_1, (bkeep hb _ _ zb_p).trans cb_p_2, (bkeep hb _ _ zb_p).trans cb_p_3, (bkeep hb _ _ zb_p).trans cb_p_4, (bkeep hb _ _ zb_p).trans cb_p_5⟩)
  have HRW_a := Lib.hid (fun (W : World) (hb : Below w1.heap.size w1 W) => (HR_a.out.below HB_1.out).below hb)
  go_cut [6, 7, 8] (fun a6 a7 a8 wx => ∃ (B_w0 : Nat) (n_vi : Nat) (A_v : Option Addr) (cap_v : Nat) (lo_v : Nat) (hi_v : Nat) (A_vi : Option Addr) (cap_vi : Nat) (lo_vi : Nat) (hi_vi : Nat), a6 = .pointer (some ⟨B_w0, 0, none⟩) ∧ a7 = .slice A_vi n_vi cap_vi ∧ a8 = .bool ok ∧ (w1.heap.size ≤ B_w0 ∧ Bk wx B_w0 30 #[.int .i64 xl, .int .i64 xb, .slice A_v M.length cap_v, .int .i64 xs, .int .i64 xd]) ∧ IOwn wx lo_v hi_v 35 6 A_v M.length cap_v (fl M) ∧ (w1.heap.size ≤ lo_v ∧ hi_v ≤ wx.heap.size ∧ (B_w0 < lo_v ∨ hi_v ≤ B_w0)) ∧ IOwn wx lo_vi hi_vi 3 1 A_vi n_vi cap_vi ids ∧ (w1.heap.size ≤ lo_vi ∧ hi_vi ≤ wx.heap.size ∧ (B_w0 < lo_vi ∨ hi_vi ≤ B_w0)) ∧ (hi_v ≤ lo_vi ∨ hi_vi ≤ lo_v) ∧ Below w1.heap.size w1 wx)
  case first =>
    go_region_held3 (fun w' => w'.cell? ⟨w.heap.size, 0, none⟩ = some (.int .i64 li) ∧ w'.cell? ⟨w.heap.size, 1, none⟩ = some (.int .i64 by_) ∧ w'.cell? ⟨w.heap.size, 2, none⟩ = some (.slice A n cap) ∧ w'.cell? ⟨w.heap.size, 3, none⟩ = some (.int .i64 se) ∧ w'.cell? ⟨w.heap.size, 4, none⟩ = some (.int .i64 dr) ∧ w'.cell? ⟨w.heap.size + 1, 0, none⟩ = some (.int .i64 p0) ∧ w'.cell? ⟨w.heap.size + 1, 1, none⟩ = some (.int .i64 p1) ∧ w'.cell? ⟨w.heap.size + 1, 2, none⟩ = some (.int .i64 p2) ∧ w'.cell? ⟨w.heap.size + 1, 3, none⟩ = some (.int .i64 p3) ∧ w'.cell? ⟨w.heap.size + 1, 4, none⟩ = some (.int .i64 p4) ∧ w'.cell? ⟨w.heap.size + 1, 5, none⟩ = some (.int .i64 p5)) (exact HSX.out _ (by repeat (first | (with_reducible exact b0 _) | (with_reducible refine ba ?_ _) | (with_reducible refine bd ?_ _) | (with_reducible refine Below.drew ?_) | (with_reducible refine bsB ?_ (by first | exact Nat.le_refl _ | exact Nat.le_add_right _ _ | omega)) | (with_reducible refine bt ?_ (by assumption)))))
      (first
        | (go_at_call 14; refine (toQueue_any _ _ _ _ _ _ _ L _ HLL.out (HRW_a.out _ (by repeat (first | (with_reducible exact b0 _) | (with_reducible refine ba ?_ _) | (with_reducible refine bd ?_ _) | (with_reducible refine Below.drew ?_) | (with_reducible refine bsB ?_ (by first | exact Nat.le_refl _ | exact Nat.le_add_right _ _ | omega)) | (with_reducible refine bt ?_ (by assumption))))) (by omega)).mono ?_; rintro e v0 ⟨A_s, cap_s, rfl, ho_s, hbr0⟩; have zz0 := hbr0.size; (try simp at zz0); (try (have rx0_0 := fun o => bkeep hbr0 (w1.heap.size) o (by first | omega | (simp; done) | (simp; omega)); have rf0_0 := fun o => bfree hbr0 (w1.heap.size) o (by first | omega | (simp; done) | (simp; omega)))))
        | (go_at_call 15; refine (toPacket_any _ _ _ _ _ _ _).mono ?_; rintro e v1 ⟨rfl, hbr1⟩; have zz1 := hbr1.size; (try simp at zz1); (try (have rx1_0 := fun o => bkeep hbr1 (w1.heap.size) o (by first | omega | (simp; done) | (simp; omega)); have rf1_0 := fun o => bfree hbr1 (w1.heap.size) o (by first | omega | (simp; done) | (simp; omega)))); (try (have rx1_1 := fun o => bkeep hbr1 (v0.heap.size) o (by first | omega | (simp; done) | (simp; omega)); have rf1_1 := fun o => bfree hbr1 (v0.heap.size) o (by first | omega | (simp; done) | (simp; omega)))))
        | (go_at_call 34; refine (HSP.out _ _ _ (ho_s.row.below (by repeat (first | (with_reducible exact b0 _) | (with_reducible refine ba ?_ _) | (with_reducible refine bd ?_ _) | (with_reducible refine Below.drew ?_) | (with_reducible refine bsB ?_ (by first | exact Nat.le_refl _ | exact Nat.le_add_right _ _ | omega)) | (with_reducible refine bt ?_ (by assumption))))) (by omega) ho_s.cap ho_s.none_cap).mono ?_; rintro e v2 ⟨A_v, cap_v, A_vi, n_vi, cap_vi, a1_v, b1_v, a2_v, b2_v, rfl, ho_v, ho_vi, t1_v, t2_v, t3_v, t4_v, t5_v, hbr2⟩; have zz2 := hbr2.size; (try simp at zz2); (try (have rx2_0 := fun o => bkeep hbr2 (w1.heap.size) o (by first | omega | (simp; done) | (simp; omega)); have rf2_0 := fun o => bfree hbr2 (w1.heap.size) o (by first | omega | (simp; done) | (simp; omega)))); (try (have rx2_1 := fun o => bkeep hbr2 (v0.heap.size) o (by first | omega | (simp; done) | (simp; omega)); have rf2_1 := fun o => bfree hbr2 (v0.heap.size) o (by first | omega | (simp; done) | (simp; omega)))); (try (have rx2_2 := fun o => bkeep hbr2 (v1.heap.size) o (by first | omega | (simp; done) | (simp; omega)); have rf2_2 := fun o => bfree hbr2 (v1.heap.size) o (by first | omega | (simp; done) | (simp; omega)))); obtain ⟨lo_v, hi_v, tl_v, th_v, ho_v⟩ := own_ex ho_v; (try simp at tl_v); (try simp at th_v); obtain ⟨lo_vi, hi_vi, tl_vi, th_vi, ho_vi⟩ := own_ex ho_vi; (try simp at tl_vi); (try simp at th_vi); (try simp at t1_v); (try simp at t3_v)))
    all_goals (go_wp2_with fail; go_meet; clear HSX; first | ((with_reducible refine ⟨v2.heap.size, n_vi, A_v, cap_v, lo_v, hi_v, A_vi, cap_vi, lo_vi, hi_vi, rfl, rfl, rfl, ?_⟩); (with_reducible refine Fin5.close2 (Fin5.new ?_) ho_v ?_ ?_ ?_ ho_vi ?_ ?_ ?_ ?_); all_goals first | omega | exact (by repeat (first | (with_reducible exact b0 _) | (with_reducible refine ba ?_ _) | (with_reducible refine bd ?_ _) | (with_reducible refine Below.drew ?_) | (with_reducible refine bsB ?_ (by first | exact Nat.le_refl _ | exact Nat.le_add_right _ _ | omega)) | (with_reducible refine bt ?_ (by assumption))))) | ((with_reducible refine ⟨v1.heap.size, n_vi, A_v, cap_v, lo_v, hi_v, A_vi, cap_vi, lo_vi, hi_vi, rfl, rfl, rfl, ?_⟩); (with_reducible refine Fin5.close2 (Fin5.old5 ?_ (show Bk v2 (v1.heap.size) 30 _ from ((Bk.new_ rfl).old hbr2)) ?_) ho_v ?_ ?_ ?_ ho_vi ?_ ?_ ?_ ?_); all_goals first | omega | exact (by repeat (first | (with_reducible exact b0 _) | (with_reducible refine ba ?_ _) | (with_reducible refine bd ?_ _) | (with_reducible refine Below.drew ?_) | (with_reducible refine bsB ?_ (by first | exact Nat.le_refl _ | exact Nat.le_add_right _ _ | omega)) | (with_reducible refine bt ?_ (by assumption))))) | ((with_reducible refine ⟨v0.heap.size, n_vi, A_v, cap_v, lo_v, hi_v, A_vi, cap_vi, lo_vi, hi_vi, rfl, rfl, rfl, ?_⟩); (with_reducible refine Fin5.close2 (Fin5.old5 ?_ (show Bk v2 (v0.heap.size) 30 _ from (((Bk.new_ rfl).old hbr1).old hbr2)) ?_) ho_v ?_ ?_ ?_ ho_vi ?_ ?_ ?_ ?_); all_goals first | omega | exact (by repeat (first | (with_reducible exact b0 _) | (with_reducible refine ba ?_ _) | (with_reducible refine bd ?_ _) | (with_reducible refine Below.drew ?_) | (with_reducible refine bsB ?_ (by first | exact Nat.le_refl _ | exact Nat.le_add_right _ _ | omega)) | (with_reducible refine bt ?_ (by assumption))))) | ((with_reducible refine ⟨w1.heap.size, n_vi, A_v, cap_v, lo_v, hi_v, A_vi, cap_vi, lo_vi, hi_vi, rfl, rfl, rfl, ?_⟩); (with_reducible refine Fin5.close2 (Fin5.old5 ?_ (show Bk v2 (w1.heap.size) 30 _ from ((((Bk.new_ rfl).old hbr0).old hbr1).old hbr2)) ?_) ho_v ?_ ?_ ?_ ho_vi ?_ ?_ ?_ ?_); all_goals first | omega | exact (by repeat (first | (with_reducible exact b0 _) | (with_reducible refine ba ?_ _) | (with_reducible refine bd ?_ _) | (with_reducible refine Below.drew ?_) | (with_reducible refine bsB ?_ (by first | exact Nat.le_refl _ | exact Nat.le_add_right _ _ | omega)) | (with_reducible refine bt ?_ (by assumption))))) | ((with_reducible refine ⟨w1.heap.size, n_vi, A_v, cap_v, lo_v, hi_v, A_vi, cap_vi, lo_vi, hi_vi, rfl, rfl, rfl, ?_⟩); (with_reducible refine Fin5.close2 (Fin5.old5 ?_ (show Bk v2 (w1.heap.size) 30 _ from ((((Bk.new_ rfl).drew.old hbr0).old hbr1).old hbr2)) ?_) ho_v ?_ ?_ ?_ ho_vi ?_ ?_ ?_ ?_); all_goals first | omega | exact (by repeat (first | (with_reducible exact b0 _) | (with_reducible refine ba ?_ _) | (with_reducible refine bd ?_ _) | (with_reducible refine Below.drew ?_) | (with_reducible refine bsB ?_ (by first | exact Nat.le_refl _ | exact Nat.le_add_right _ _ | omega)) | (with_reducible refine bt ?_ (by assumption))))))
  obtain ⟨w2, hwc⟩ : ∃ x, x = wc := ⟨_, rfl⟩
  subst hwc
  obtain ⟨B_w0, n_vi, A_v, cap_v, lo_v, hi_v, A_vi, cap_vi, lo_vi, hi_vi, rfl, rfl, rfl, ⟨lb_w0, hk_w0⟩, ho_v, ⟨tl_v, th_v, ts_v⟩, ho_vi, ⟨tl_vi, th_vi, ts_vi⟩, sp_v_vi, hb2⟩ := hcut
  clear HRW_a
  clear HSX
  have HN_v := Lib.hid ho_v.len
  have HO_v_2 := Lib.hid ho_v
  clear ho_v
  have HN_vi := Lib.hid ho_vi.len
  have HO_vi_2 := Lib.hid ho_vi
  clear ho_vi
  have z2 := hb2.size
  (try simp at z2)
  have HK_q_2 : Hid (Bk w2 (w.heap.size) 24 #[.int .i64 li, .int .i64 by_, .slice A n cap, .int .i64 se, .int .i64 dr]) := Lib.hid (HK_q_1.out.old hb2)
  clear HK_q_1
  clear cb_q_0 cb_q_1 cb_q_2 cb_q_3 cb_q_4 zb_q
  have zb_q : w.heap.size < w2.heap.size := HK_q_2.out.lt
  have cb_q_0 : w2.cell? ⟨w.heap.size, 0, none⟩ = some (.int .i64 li) := HK_q_2.out.cell 0
  have cb_q_1 : w2.cell? ⟨w.heap.size, 1, none⟩ = some (.int .i64 by_) := HK_q_2.out.cell 1
  have cb_q_2 : w2.cell? ⟨w.heap.size, 2, none⟩ = some (.slice A n cap) := HK_q_2.out.cell 2
  have cb_q_3 : w2.cell? ⟨w.heap.size, 3, none⟩ = some (.int .i64 se) := HK_q_2.out.cell 3
  have cb_q_4 : w2.cell? ⟨w.heap.size, 4, none⟩ = some (.int .i64 dr) := HK_q_2.out.cell 4
  have HK_p_2 : Hid (Bk w2 (w.heap.size + 1) 26 #[.int .i64 p0, .int .i64 p1, .int .i64 p2, .int .i64 p3, .int .i64 p4, .int .i64 p5]) := Lib.hid (HK_p_1.out.old hb2)
  clear HK_p_1
  clear cb_p_0 cb_p_1 cb_p_2 cb_p_3 cb_p_4 cb_p_5 zb_p
  have zb_p : w.heap.size + 1 < w2.heap.size := HK_p_2.out.lt
  have cb_p_0 : w2.cell? ⟨w.heap.size + 1, 0, none⟩ = some (.int .i64 p0) := HK_p_2.out.cell 0
  have cb_p_1 : w2.cell? ⟨w.heap.size + 1, 1, none⟩ = some (.int .i64 p1) := HK_p_2.out.cell 1
  have cb_p_2 : w2.cell? ⟨w.heap.size + 1, 2, none⟩ = some (.int .i64 p2) := HK_p_2.out.cell 2
  have cb_p_3 : w2.cell? ⟨w.heap.size + 1, 3, none⟩ = some (.int .i64 p3) := HK_p_2.out.cell 3
  have cb_p_4 : w2.cell? ⟨w.heap.size + 1, 4, none⟩ = some (.int .i64 p4) := HK_p_2.out.cell 4
  have cb_p_5 : w2.cell? ⟨w.heap.size + 1, 5, none⟩ = some (.int .i64 p5) := HK_p_2.out.cell 5
  have HB_2 := Lib.hid (bt HB_1.out hb2)
  clear hb2
  have HK_w0_2 := Lib.hid hk_w0
  clear hk_w0
  have zb_w0 : B_w0 < w2.heap.size := HK_w0_2.out.lt
  have zy_w0 := zb_w0
  have cb_w0_0 : w2.cell? ⟨B_w0, 0, none⟩ = some (.int .i64 xl) := HK_w0_2.out.cell 0
  have cb_w0_1 : w2.cell? ⟨B_w0, 1, none⟩ = some (.int .i64 xb) := HK_w0_2.out.cell 1
  have cb_w0_2 : w2.cell? ⟨B_w0, 2, none⟩ = some (.slice A_v M.length cap_v) := HK_w0_2.out.cell 2
  have cb_w0_3 : w2.cell? ⟨B_w0, 3, none⟩ = some (.int .i64 xs) := HK_w0_2.out.cell 3
  have cb_w0_4 : w2.cell? ⟨B_w0, 4, none⟩ = some (.int .i64 xd) := HK_w0_2.out.cell 4
  go_wp2_with fail
  refine (toQueue_any _ _ _ _ _ _ _ L _ HLL.out (HR_a.out.below HB_2.out) (by omega)).mono ?_
  rintro e w3 ⟨A_x, cap_x, rfl, ho_x, hb3⟩
  have HN_x := Lib.hid ho_x.len
  have HO_x_3 := Lib.hid ho_x
  clear ho_x
  have z3 := hb3.size
  (try simp at z3)
  have HK_q_3 : Hid (Bk w3 (w.heap.size) 24 #[.int .i64 li, .int .i64 by_, .slice A n cap, .int .i64 se, .int .i64 dr]) := Lib.hid (HK_q_2.out.old hb3)
  clear HK_q_2
  clear cb_q_0 cb_q_1 cb_q_2 cb_q_3 cb_q_4 zb_q
  have zb_q : w.heap.size < w3.heap.size := HK_q_3.out.lt
  have cb_q_0 : w3.cell? ⟨w.heap.size, 0, none⟩ = some (.int .i64 li) := HK_q_3.out.cell 0
  have cb_q_1 : w3.cell? ⟨w.heap.size, 1, none⟩ = some (.int .i64 by_) := HK_q_3.out.cell 1
  have cb_q_2 : w3.cell? ⟨w.heap.size, 2, none⟩ = some (.slice A n cap) := HK_q_3.out.cell 2
  have cb_q_3 : w3.cell? ⟨w.heap.size, 3, none⟩ = some (.int .i64 se) := HK_q_3.out.cell 3
  have cb_q_4 : w3.cell? ⟨w.heap.size, 4, none⟩ = some (.int .i64 dr) := HK_q_3.out.cell 4
  have HK_p_3 : Hid (Bk w3 (w.heap.size + 1) 26 #[.int .i64 p0, .int .i64 p1, .int .i64 p2, .int .i64 p3, .int .i64 p4, .int .i64 p5]) := Lib.hid (HK_p_2.out.old hb3)
  clear HK_p_2
  clear cb_p_0 cb_p_1 cb_p_2 cb_p_3 cb_p_4 cb_p_5 zb_p
  have zb_p : w.heap.size + 1 < w3.heap.size := HK_p_3.out.lt
  have cb_p_0 : w3.cell? ⟨w.heap.size + 1, 0, none⟩ = some (.int .i64 p0) := HK_p_3.out.cell 0
  have cb_p_1 : w3.cell? ⟨w.heap.size + 1, 1, none⟩ = some (.int .i64 p1) := HK_p_3.out.cell 1
  have cb_p_2 : w3.cell? ⟨w.heap.size + 1, 2, none⟩ = some (.int .i64 p2) := HK_p_3.out.cell 2
  have cb_p_3 : w3.cell? ⟨w.heap.size + 1, 3, none⟩ = some (.int .i64 p3) := HK_p_3.out.cell 3
  have cb_p_4 : w3.cell? ⟨w.heap.size + 1, 4, none⟩ = some (.int .i64 p4) := HK_p_3.out.cell 4
  have cb_p_5 : w3.cell? ⟨w.heap.size + 1, 5, none⟩ = some (.int .i64 p5) := HK_p_3.out.cell 5
  have HK_w0_3 : Hid (Bk w3 (B_w0) 30 #[.int .i64 xl, .int .i64 xb, .slice A_v M.length cap_v, .int .i64 xs, .int .i64 xd]) := Lib.hid (HK_w0_2.out.old hb3)
  clear HK_w0_2
  clear cb_w0_0 cb_w0_1 cb_w0_2 cb_w0_3 cb_w0_4 zb_w0
  have zb_w0 : B_w0 < w3.heap.size := HK_w0_3.out.lt
  have cb_w0_0 : w3.cell? ⟨B_w0, 0, none⟩ = some (.int .i64 xl) := HK_w0_3.out.cell 0
  have cb_w0_1 : w3.cell? ⟨B_w0, 1, none⟩ = some (.int .i64 xb) := HK_w0_3.out.cell 1
  have cb_w0_2 : w3.cell? ⟨B_w0, 2, none⟩ = some (.slice A_v M.length cap_v) := HK_w0_3.out.cell 2
  have cb_w0_3 : w3.cell? ⟨B_w0, 3, none⟩ = some (.int .i64 xs) := HK_w0_3.out.cell 3
  have cb_w0_4 : w3.cell? ⟨B_w0, 4, none⟩ = some (.int .i64 xd) := HK_w0_3.out.cell 4
  have HO_v_3 := Lib.hid (HO_v_2.out.old hb3)
  clear HO_v_2
  have HO_vi_3 := Lib.hid (HO_vi_2.out.old hb3)
  clear HO_vi_2
  have HB_3 := Lib.hid (bt HB_2.out hb3)
  clear hb3
  go_wp2_with fail
  generalize hW4 : World.alloc w3 (.cells #[.int .i64 li, .int .i64 by_, .slice A_x n cap_x, .int .i64 se, .int .i64 dr] 30) = w4
  have hb4 : Below w3.heap.size w3 w4 := hW4 ▸ ba (b0 _) _
  have hk0 : Bk w4 (w3.heap.size) 30 #[.int .i64 li, .int .i64 by_, .slice A_x n cap_x, .int .i64 se, .int .i64 dr] := hW4 ▸ Bk.new_ rfl
  clear hW4
  have z4 := hb4.size
  (try simp at z4)
  have HK_q_4 : Hid (Bk w4 (w.heap.size) 24 #[.int .i64 li, .int .i64 by_, .slice A n cap, .int .i64 se, .int .i64 dr]) := Lib.hid (HK_q_3.out.old hb4)
  clear HK_q_3
  clear cb_q_0 cb_q_1 cb_q_2 cb_q_3 cb_q_4 zb_q
  have zb_q : w.heap.size < w4.heap.size := HK_q_4.out.lt
  have cb_q_0 : w4.cell? ⟨w.heap.size, 0, none⟩ = some (.int .i64 li) := HK_q_4.out.cell 0
  have cb_q_1 : w4.cell? ⟨w.heap.size, 1, none⟩ = some (.int .i64 by_) := HK_q_4.out.cell 1
  have cb_q_2 : w4.cell? ⟨w.heap.size, 2, none⟩ = some (.slice A n cap) := HK_q_4.out.cell 2
  have cb_q_3 : w4.cell? ⟨w.heap.size, 3, none⟩ = some (.int .i64 se) := HK_q_4.out.cell 3
  have cb_q_4 : w4.cell? ⟨w.heap.size, 4, none⟩ = some (.int .i64 dr) := HK_q_4.out.cell 4
  have HK_p_4 : Hid (Bk w4 (w.heap.size + 1) 26 #[.int .i64 p0, .int .i64 p1, .int .i64 p2, .int .i64 p3, .int .i64 p4, .int .i64 p5]) := Lib.hid (HK_p_3.out.old hb4)
  clear HK_p_3
  clear cb_p_0 cb_p_1 cb_p_2 cb_p_3 cb_p_4 cb_p_5 zb_p
  have zb_p : w.heap.size + 1 < w4.heap.size := HK_p_4.out.lt
  have cb_p_0 : w4.cell? ⟨w.heap.size + 1, 0, none⟩ = some (.int .i64 p0) := HK_p_4.out.cell 0
  have cb_p_1 : w4.cell? ⟨w.heap.size + 1, 1, none⟩ = some (.int .i64 p1) := HK_p_4.out.cell 1
  have cb_p_2 : w4.cell? ⟨w.heap.size + 1, 2, none⟩ = some (.int .i64 p2) := HK_p_4.out.cell 2
  have cb_p_3 : w4.cell? ⟨w.heap.size + 1, 3, none⟩ = some (.int .i64 p3) := HK_p_4.out.cell 3
  have cb_p_4 : w4.cell? ⟨w.heap.size + 1, 4, none⟩ = some (.int .i64 p4) := HK_p_4.out.cell 4
  have cb_p_5 : w4.cell? ⟨w.heap.size + 1, 5, none⟩ = some (.int .i64 p5) := HK_p_4.out.cell 5
  have HK_w0_4 : Hid (Bk w4 (B_w0) 30 #[.int .i64 xl, .int .i64 xb, .slice A_v M.length cap_v, .int .i64 xs, .int .i64 xd]) := Lib.hid (HK_w0_3.out.old hb4)
  clear HK_w0_3
  clear cb_w0_0 cb_w0_1 cb_w0_2 cb_w0_3 cb_w0_4 zb_w0
  have zb_w0 : B_w0 < w4.heap.size := HK_w0_4.out.lt
  have cb_w0_0 : w4.cell? ⟨B_w0, 0, none⟩ = some (.int .i64 xl) := HK_w0_4.out.cell 0
  have cb_w0_1 : w4.cell? ⟨B_w0, 1, none⟩ = some (.int .i64 xb) := HK_w0_4.out.cell 1
  have cb_w0_2 : w4.cell? ⟨B_w0, 2, none⟩ = some (.slice A_v M.length cap_v) := HK_w0_4.out.cell 2
  have cb_w0_3 : w4.cell? ⟨B_w0, 3, none⟩ = some (.int .i64 xs) := HK_w0_4.out.cell 3
  have cb_w0_4 : w4.cell? ⟨B_w0, 4, none⟩ = some (.int .i64 xd) := HK_w0_4.out.cell 4
  have HO_v_4 := Lib.hid (HO_v_3.out.old hb4)
  clear HO_v_3
  have HO_vi_4 := Lib.hid (HO_vi_3.out.old hb4)
  clear HO_vi_3
  have HO_x_4 := Lib.hid (HO_x_3.out.old hb4)
  clear HO_x_3
  have HB_4 := Lib.hid (bt HB_3.out hb4)
  clear hb4
  have HK_x0_4 := Lib.hid hk0
  clear hk0
  have zb_x0 : w3.heap.size < w4.heap.size := HK_x0_4.out.lt
  have zy_x0 := zb_x0
  have cb_x0_0 : w4.cell? ⟨w3.heap.size, 0, none⟩ = some (.int .i64 li) := HK_x0_4.out.cell 0
  have cb_x0_1 : w4.cell? ⟨w3.heap.size, 1, none⟩ = some (.int .i64 by_) := HK_x0_4.out.cell 1
  have cb_x0_2 : w4.cell? ⟨w3.heap.size, 2, none⟩ = some (.slice A_x n cap_x) := HK_x0_4.out.cell 2
  have cb_x0_3 : w4.cell? ⟨w3.heap.size, 3, none⟩ = some (.int .i64 se) := HK_x0_4.out.cell 3
  have cb_x0_4 : w4.cell? ⟨w3.heap.size, 4, none⟩ = some (.int .i64 dr) := HK_x0_4.out.cell 4
  have HSX := Lib.hid (show ∀ w' : World, Below w4.heap.size w4 w' → (fun w' => w'.cell? ⟨w.heap.size, 0, none⟩ = some (.int .i64 li) ∧ w'.cell? ⟨w.heap.size, 1, none⟩ = some (.int .i64 by_) ∧ w'.cell? ⟨w.heap.size, 2, none⟩ = some (.slice A n cap) ∧ w'.cell? ⟨w.heap.size, 3, none⟩ = some (.int .i64 se) ∧ w'.cell? ⟨w.heap.size, 4, none⟩ = some (.int .i64 dr) ∧ w'.cell? ⟨w.heap.size + 1, 0, none⟩ = some (.int .i64 p0) ∧ w'.cell? ⟨w.heap.size + 1, 1, none⟩ = some (.int .i64 p1) ∧ w'.cell? ⟨w.heap.size + 1, 2, none⟩ = some (.int .i64 p2) ∧ w'.cell? ⟨w.heap.size + 1, 3, none⟩ = some (.int .i64 p3) ∧ w'.cell? ⟨w.heap.size + 1, 4, none⟩ = some (.int .i64 p4) ∧ w'.cell? ⟨w.heap.size + 1, 5, none⟩ = some (.int .i64 p5) ∧ w'.cell? ⟨B_w0, 0, none⟩ = some (.int .i64 xl) ∧ w'.cell? ⟨B_w0, 1, none⟩ = some (.int .i64 xb) ∧ w'.cell? ⟨B_w0, 2, none⟩ = some (.slice A_v M.length cap_v) ∧ w'.cell? ⟨B_w0, 3, none⟩ = some (.int .i64 xs) ∧ w'.cell? ⟨B_w0, 4, none⟩ = some (.int .i64 xd) ∧ w'.cell? ⟨w3.heap.size, 0, none⟩ = some (.int .i64 li) ∧ w'.cell? ⟨w3.heap.size, 1, none⟩ = some (.int .i64 by_) ∧ w'.cell? ⟨w3.heap.size, 2, none⟩ = some (.slice A_x n cap_x) ∧ w'.cell? ⟨w3.heap.size, 3, none⟩ = some (.int .i64 se) ∧ w'.cell? ⟨w3.heap.size, 4, none⟩ = some (.int .i64 dr)) w' from fun w' hb => ⟨(bkeep hb _ _ zb_q).trans cb_q_0, (bkeep hb _ _ zb_q).trans cb_q_1, (bkeep hb _ _ zb_q).trans cb_q_2, (bkeep hb _ _ zb_q).trans cb_q_3, (bkeep hb _ _ zb_q).trans cb_q_4, (bkeep hb _ _ zb_p).trans cb_p_0, (bkeep hb _ _ zb_p).trans cb_p_1, (bkeep hb _ _ zb_p).trans cb_p_2, (bkeep hb _ _ zb_p).trans cb_p_3, (bkeep hb _ _ zb_p).trans cb_p_4, (bkeep hb _ _ zb_p).trans cb_p_5, (bkeep hb _ _ zb_w0).trans cb_w0_0, (bkeep hb _ _ zb_w0).trans cb_w0_1, (bkeep hb _ _ zb_w0).trans cb_w0_2, (bkeep hb _ _ zb_w0).trans cb_w0_3, (bkeep hb _ _ zb_w0).trans cb_w0_4, (bkeep hb _ _ zb_x0).trans cb_x0_0, (bkeep hb _ _ zb_x0).trans cb_x0_1, (bkeep hb _ _ zb_x0).trans cb_x0_2, (bkeep hb _ _ zb_x0).trans cb_x0_3, (bkeep hb _ _ zb_x0).trans cb_x0_4⟩)
  have HRW_a := Lib.hid (fun (W : World) (hb : Below w4.heap.size w4 W) => (HR_a.out.below HB_4.out).below hb)
  have HRW_x := Lib.hid (fun (W : World) (hb : Below w4.heap.size w4 W) => HO_x_4.out.row.below hb)
  go_cut [10, 11, 12] (fun a10 a11 a12 wx => ∃ (B_g0 : Nat) (n_gi : Nat) (A_g : Option Addr) (cap_g : Nat) (lo_g : Nat) (hi_g : Nat) (A_gi : Option Addr) (cap_gi : Nat) (lo_gi : Nat) (hi_gi : Nat), a10 = .pointer (some ⟨B_g0, 0, none⟩) ∧ a11 = .slice A_gi n_gi cap_gi ∧ a12 = .bool ok ∧ (w4.heap.size ≤ B_g0 ∧ Bk wx B_g0 30 #[.int .i64 xl, .int .i64 xb, .slice A_g M.length cap_g, .int .i64 xs, .int .i64 xd]) ∧ IOwn wx lo_g hi_g 35 6 A_g M.length cap_g (fl M) ∧ (w4.heap.size ≤ lo_g ∧ hi_g ≤ wx.heap.size ∧ (B_g0 < lo_g ∨ hi_g ≤ B_g0)) ∧ IOwn wx lo_gi hi_gi 3 1 A_gi n_gi cap_gi ids ∧ (w4.heap.size ≤ lo_gi ∧ hi_gi ≤ wx.heap.size ∧ (B_g0 < lo_gi ∨ hi_gi ≤ B_g0)) ∧ (hi_g ≤ lo_gi ∨ hi_gi ≤ lo_g) ∧ Below w4.heap.size w4 wx)
  case first =>
    go_region_held3 (fun w' => w'.cell? ⟨w.heap.size, 0, none⟩ = some (.int .i64 li) ∧ w'.cell? ⟨w.heap.size, 1, none⟩ = some (.int .i64 by_) ∧ w'.cell? ⟨w.heap.size, 2, none⟩ = some (.slice A n cap) ∧ w'.cell? ⟨w.heap.size, 3, none⟩ = some (.int .i64 se) ∧ w'.cell? ⟨w.heap.size, 4, none⟩ = some (.int .i64 dr) ∧ w'.cell? ⟨w.heap.size + 1, 0, none⟩ = some (.int .i64 p0) ∧ w'.cell? ⟨w.heap.size + 1, 1, none⟩ = some (.int .i64 p1) ∧ w'.cell? ⟨w.heap.size + 1, 2, none⟩ = some (.int .i64 p2) ∧ w'.cell? ⟨w.heap.size + 1, 3, none⟩ = some (.int .i64 p3) ∧ w'.cell? ⟨w.heap.size + 1, 4, none⟩ = some (.int .i64 p4) ∧ w'.cell? ⟨w.heap.size + 1, 5, none⟩ = some (.int .i64 p5) ∧ w'.cell? ⟨B_w0, 0, none⟩ = some (.int .i64 xl) ∧ w'.cell? ⟨B_w0, 1, none⟩ = some (.int .i64 xb) ∧ w'.cell? ⟨B_w0, 2, none⟩ = some (.slice A_v M.length cap_v) ∧ w'.cell? ⟨B_w0, 3, none⟩ = some (.int .i64 xs) ∧ w'.cell? ⟨B_w0, 4, none⟩ = some (.int .i64 xd) ∧ w'.cell? ⟨w3.heap.size, 0, none⟩ = some (.int .i64 li) ∧ w'.cell? ⟨w3.heap.size, 1, none⟩ = some (.int .i64 by_) ∧ w'.cell? ⟨w3.heap.size, 2, none⟩ = some (.slice A_x n cap_x) ∧ w'.cell? ⟨w3.heap.size, 3, none⟩ = some (.int .i64 se) ∧ w'.cell? ⟨w3.heap.size, 4, none⟩ = some (.int .i64 dr)) (exact HSX.out _ (by repeat (first | (with_reducible exact b0 _) | (with_reducible refine ba ?_ _) | (with_reducible refine bd ?_ _) | (with_reducible refine Below.drew ?_) | (with_reducible refine bsB ?_ (by first | exact Nat.le_refl _ | exact Nat.le_add_right _ _ | omega)) | (with_reducible refine bt ?_ (by assumption)))))
      (first
        | (go_at_call 15; refine (toPacket_any _ _ _ _ _ _ _).mono ?_; rintro e v0 ⟨rfl, hbr0⟩; have zz0 := hbr0.size; (try simp at zz0); (try (have rx0_0 := fun o => bkeep hbr0 (w4.heap.size) o (by first | omega | (simp; done) | (simp; omega)); have rf0_0 := fun o => bfree hbr0 (w4.heap.size) o (by first | omega | (simp; done) | (simp; omega)))))
        | (go_at_call 35; refine (HIM.out _ _ _ (HRW_x.out _ (by repeat (first | (with_reducible exact b0 _) | (with_reducible refine ba ?_ _) | (with_reducible refine bd ?_ _) | (with_reducible refine Below.drew ?_) | (with_reducible refine bsB ?_ (by first | exact Nat.le_refl _ | exact Nat.le_add_right _ _ | omega)) | (with_reducible refine bt ?_ (by assumption))))) (by omega) HO_x_4.out.cap HO_x_4.out.none_cap).mono ?_; rintro e v1 ⟨A_g, cap_g, A_gi, n_gi, cap_gi, a1_g, b1_g, a2_g, b2_g, rfl, ho_g, ho_gi, t1_g, t2_g, t3_g, t4_g, t5_g, hbr1⟩; have zz1 := hbr1.size; (try simp at zz1); (try (have rx1_0 := fun o => bkeep hbr1 (w4.heap.size) o (by first | omega | (simp; done) | (simp; omega)); have rf1_0 := fun o => bfree hbr1 (w4.heap.size) o (by first | omega | (simp; done) | (simp; omega)))); (try (have rx1_1 := fun o => bkeep hbr1 (v0.heap.size) o (by first | omega | (simp; done) | (simp; omega)); have rf1_1 := fun o => bfree hbr1 (v0.heap.size) o (by first | omega | (simp; done) | (simp; omega)))); obtain ⟨lo_g, hi_g, tl_g, th_g, ho_g⟩ := own_ex ho_g; (try simp at tl_g); (try simp at th_g); obtain ⟨lo_gi, hi_gi, tl_gi, th_gi, ho_gi⟩ := own_ex ho_gi; (try simp at tl_gi); (try simp at th_gi); (try simp at t1_g); (try simp at t3_g)))
    all_goals (go_wp2_with fail; go_meet; clear HSX; first | ((with_reducible refine ⟨v1.heap.size, n_gi, A_g, cap_g, lo_g, hi_g, A_gi, cap_gi, lo_gi, hi_gi, rfl, rfl, rfl, ?_⟩); (with_reducible refine Fin5.close2 (Fin5.new ?_) ho_g ?_ ?_ ?_ ho_gi ?_ ?_ ?_ ?_); all_goals first | omega | exact (by repeat (first | (with_reducible exact b0 _) | (with_reducible refine ba ?_ _) | (with_reducible refine bd ?_ _) | (with_reducible refine Below.drew ?_) | (with_reducible refine bsB ?_ (by first | exact Nat.le_refl _ | exact Nat.le_add_right _ _ | omega)) | (with_reducible refine bt ?_ (by assumption))))) | ((with_reducible refine ⟨v0.heap.size, n_gi, A_g, cap_g, lo_g, hi_g, A_gi, cap_gi, lo_gi, hi_gi, rfl, rfl, rfl, ?_⟩); (with_reducible refine Fin5.close2 (Fin5.old5 ?_ (show Bk v1 (v0.heap.size) 30 _ from ((Bk.new_ rfl).old hbr1)) ?_) ho_g ?_ ?_ ?_ ho_gi ?_ ?_ ?_ ?_); all_goals first | omega | exact (by repeat (first | (with_reducible exact b0 _) | (with_reducible refine ba ?_ _) | (with_reducible refine bd ?_ _) | (with_reducible refine Below.drew ?_) | (with_reducible refine bsB ?_ (by first | exact Nat.le_refl _ | exact Nat.le_add_right _ _ | omega)) | (with_reducible refine bt ?_ (by assumption))))) | ((with_reducible refine ⟨w4.heap.size, n_gi, A_g, cap_g, lo_g, hi_g, A_gi, cap_gi, lo_gi, hi_gi, rfl, rfl, rfl, ?_⟩); (with_reducible refine Fin5.close2 (Fin5.old5 ?_ (show Bk v1 (w4.heap.size) 30 _ from (((Bk.new_ rfl).old hbr0).old hbr1)) ?_) ho_g ?_ ?_ ?_ ho_gi ?_ ?_ ?_ ?_); all_goals first | omega | exact (by repeat (first | (with_reducible exact b0 _) | (with_reducible refine ba ?_ _) | (with_reducible refine bd ?_ _) | (with_reducible refine Below.drew ?_) | (with_reducible refine bsB ?_ (by first | exact Nat.le_refl _ | exact Nat.le_add_right _ _ | omega)) | (with_reducible refine bt ?_ (by assumption))))) | ((with_reducible refine ⟨w4.heap.size, n_gi, A_g, cap_g, lo_g, hi_g, A_gi, cap_gi, lo_gi, hi_gi, rfl, rfl, rfl, ?_⟩); (with_reducible refine Fin5.close2 (Fin5.old5 ?_ (show Bk v1 (w4.heap.size) 30 _ from (((Bk.new_ rfl).drew.old hbr0).old hbr1)) ?_) ho_g ?_ ?_ ?_ ho_gi ?_ ?_ ?_ ?_); all_goals first | omega | exact (by repeat (first | (with_reducible exact b0 _) | (with_reducible refine ba ?_ _) | (with_reducible refine bd ?_ _) | (with_reducible refine Below.drew ?_) | (with_reducible refine bsB ?_ (by first | exact Nat.le_refl _ | exact Nat.le_add_right _ _ | omega)) | (with_reducible refine bt ?_ (by assumption))))))
  obtain ⟨w5, hwc⟩ : ∃ x, x = wc := ⟨_, rfl⟩
  subst hwc
  obtain ⟨B_g0, n_gi, A_g, cap_g, lo_g, hi_g, A_gi, cap_gi, lo_gi, hi_gi, rfl, rfl, rfl, ⟨lb_g0, hk_g0⟩, ho_g, ⟨tl_g, th_g, ts_g⟩, ho_gi, ⟨tl_gi, th_gi, ts_gi⟩, sp_g_gi, hb5⟩ := hcut
  clear HRW_a
  clear HRW_x
  clear HSX
  have HN_g := Lib.hid ho_g.len
  have HO_g_5 := Lib.hid ho_g
  clear ho_g
  have HN_gi := Lib.hid ho_gi.len
  have HO_gi_5 := Lib.hid ho_gi
  clear ho_gi
  have z5 := hb5.size
  (try simp at z5)
  have HK_q_5 : Hid (Bk w5 (w.heap.size) 24 #[.int .i64 li, .int .i64 by_, .slice A n cap, .int .i64 se, .int .i64 dr]) := Lib.hid (HK_q_4.out.old hb5)
  clear HK_q_4
  clear cb_q_0 cb_q_1 cb_q_2 cb_q_3 cb_q_4 zb_q
  have zb_q : w.heap.size < w5.heap.size := HK_q_5.out.lt
  have cb_q_0 : w5.cell? ⟨w.heap.size, 0, none⟩ = some (.int .i64 li) := HK_q_5.out.cell 0
  have cb_q_1 : w5.cell? ⟨w.heap.size, 1, none⟩ = some (.int .i64 by_) := HK_q_5.out.cell 1
  have cb_q_2 : w5.cell? ⟨w.heap.size, 2, none⟩ = some (.slice A n cap) := HK_q_5.out.cell 2
  have cb_q_3 : w5.cell? ⟨w.heap.size, 3, none⟩ = some (.int .i64 se) := HK_q_5.out.cell 3
  have cb_q_4 : w5.cell? ⟨w.heap.size, 4, none⟩ = some (.int .i64 dr) := HK_q_5.out.cell 4
  have HK_p_5 : Hid (Bk w5 (w.heap.size + 1) 26 #[.int .i64 p0, .int .i64 p1, .int .i64 p2, .int .i64 p3, .int .i64 p4, .int .i64 p5]) := Lib.hid (HK_p_4.out.old hb5)
  clear HK_p_4
  clear cb_p_0 cb_p_1 cb_p_2 cb_p_3 cb_p_4 cb_p_5 zb_p
  have zb_p : w.heap.size + 1 < w5.heap.size := HK_p_5.out.lt
  have cb_p_0 : w5.cell? ⟨w.heap.size + 1, 0, none⟩ = some (.int .i64 p0) := HK_p_5.out.cell 0
  have cb_p_1 : w5.cell? ⟨w.heap.size + 1, 1, none⟩ = some (.int .i64 p1) := HK_p_5.out.cell 1
  have cb_p_2 : w5.cell? ⟨w.heap.size + 1, 2, none⟩ = some (.int .i64 p2) := HK_p_5.out.cell 2
  have cb_p_3 : w5.cell? ⟨w.heap.size + 1, 3, none⟩ = some (.int .i64 p3) := HK_p_5.out.cell 3
  have cb_p_4 : w5.cell? ⟨w.heap.size + 1, 4, none⟩ = some (.int .i64 p4) := HK_p_5.out.cell 4
  have cb_p_5 : w5.cell? ⟨w.heap.size + 1, 5, none⟩ = some (.int .i64 p5) := HK_p_5.out.cell 5
  have HK_w0_5 : Hid (Bk w5 (B_w0) 30 #[.int .i64 xl, .int .i64 xb, .slice A_v M.length cap_v, .int .i64 xs, .int .i64 xd]) := Lib.hid (HK_w0_4.out.old hb5)
  clear HK_w0_4
  clear cb_w0_0 cb_w0_1 cb_w0_2 cb_w0_3 cb_w0_4 zb_w0
  have zb_w0 : B_w0 < w5.heap.size := HK_w0_5.out.lt
  have cb_w0_0 : w5.cell? ⟨B_w0, 0, none⟩ = some (.int .i64 xl) := HK_w0_5.out.cell 0
  have cb_w0_1 : w5.cell? ⟨B_w0, 1, none⟩ = some (.int .i64 xb) := HK_w0_5.out.cell 1
  have cb_w0_2 : w5.cell? ⟨B_w0, 2, none⟩ = some (.slice A_v M.length cap_v) := HK_w0_5.out.cell 2
  have cb_w0_3 : w5.cell? ⟨B_w0, 3, none⟩ = some (.int .i64 xs) := HK_w0_5.out.cell 3
  have cb_w0_4 : w5.cell? ⟨B_w0, 4, none⟩ = some (.int .i64 xd) := HK_w0_5.out.cell 4
  have HK_x0_5 : Hid (Bk w5 (w3.heap.size) 30 #[.int .i64 li, .int .i64 by_, .slice A_x n cap_x, .int .i64 se, .int .i64 dr]) := Lib.hid (HK_x0_4.out.old hb5)
  clear HK_x0_4
  clear cb_x0_0 cb_x0_1 cb_x0_2 cb_x0_3 cb_x0_4 zb_x0
  have zb_x0 : w3.heap.size < w5.heap.size := HK_x0_5.out.lt
  have cb_x0_0 : w5.cell? ⟨w3.heap.size, 0, none⟩ = some (.int .i64 li) := HK_x0_5.out.cell 0
  have cb_x0_1 : w5.cell? ⟨w3.heap.size, 1, none⟩ = some (.int .i64 by_) := HK_x0_5.out.cell 1
  have cb_x0_2 : w5.cell? ⟨w3.heap.size, 2, none⟩ = some (.slice A_x n cap_x) := HK_x0_5.out.cell 2
  have cb_x0_3 : w5.cell? ⟨w3.heap.size, 3, none⟩ = some (.int .i64 se) := HK_x0_5.out.cell 3
  have cb_x0_4 : w5.cell? ⟨w3.heap.size, 4, none⟩ = some (.int .i64 dr) := HK_x0_5.out.cell 4
  have HO_v_5 := Lib.hid (HO_v_4.out.old hb5)
  clear HO_v_4
  have HO_vi_5 := Lib.hid (HO_vi_4.out.old hb5)
  clear HO_vi_4
  have HO_x_5 := Lib.hid (HO_x_4.out.old hb5)
  clear HO_x_4
  have HB_5 := Lib.hid (bt HB_4.out hb5)
  clear hb5
  have HK_g0_5 := Lib.hid hk_g0
  clear hk_g0
  have zb_g0 : B_g0 < w5.heap.size := HK_g0_5.out.lt
  have zy_g0 := zb_g0
  have cb_g0_0 : w5.cell? ⟨B_g0, 0, none⟩ = some (.int .i64 xl) := HK_g0_5.out.cell 0
  have cb_g0_1 : w5.cell? ⟨B_g0, 1, none⟩ = some (.int .i64 xb) := HK_g0_5.out.cell 1
  have cb_g0_2 : w5.cell? ⟨B_g0, 2, none⟩ = some (.slice A_g M.length cap_g) := HK_g0_5.out.cell 2
  have cb_g0_3 : w5.cell? ⟨B_g0, 3, none⟩ = some (.int .i64 xs) := HK_g0_5.out.cell 3
  have cb_g0_4 : w5.cell? ⟨B_g0, 4, none⟩ = some (.int .i64 xd) := HK_g0_5.out.cell 4
  obtain ⟨hng, HG⟩ : n_gi = n_vi ∧ Hid (ids.length = n_vi) := ⟨by have := HN_gi.out; have := HN_vi.out; omega, by have := HN_vi.out; unfold Hid; omega⟩
  subst hng
  have hnv : n_gi ≤ n + 1 := by have h1 := HG.out; omega
  go_wp2_with fail
  refine (eqQueue_any _ _ _ _ _ _ _ _ _ (fl M) _ HMM.out HO_g_5.out.row HO_v_5.out.row (by omega)).mono ?_
  rintro e w6 ⟨rfl, hb6⟩
  have z6 := hb6.size
  (try simp at z6)
  have HK_q_6 : Hid (Bk w6 (w.heap.size) 24 #[.int .i64 li, .int .i64 by_, .slice A n cap, .int .i64 se, .int .i64 dr]) := Lib.hid (HK_q_5.out.old hb6)
  clear HK_q_5
  clear cb_q_0 cb_q_1 cb_q_2 cb_q_3 cb_q_4 zb_q
  have zb_q : w.heap.size < w6.heap.size := HK_q_6.out.lt
  have cb_q_0 : w6.cell? ⟨w.heap.size, 0, none⟩ = some (.int .i64 li) := HK_q_6.out.cell 0
  have cb_q_1 : w6.cell? ⟨w.heap.size, 1, none⟩ = some (.int .i64 by_) := HK_q_6.out.cell 1
  have cb_q_2 : w6.cell? ⟨w.heap.size, 2, none⟩ = some (.slice A n cap) := HK_q_6.out.cell 2
  have cb_q_3 : w6.cell? ⟨w.heap.size, 3, none⟩ = some (.int .i64 se) := HK_q_6.out.cell 3
  have cb_q_4 : w6.cell? ⟨w.heap.size, 4, none⟩ = some (.int .i64 dr) := HK_q_6.out.cell 4
  have HK_p_6 : Hid (Bk w6 (w.heap.size + 1) 26 #[.int .i64 p0, .int .i64 p1, .int .i64 p2, .int .i64 p3, .int .i64 p4, .int .i64 p5]) := Lib.hid (HK_p_5.out.old hb6)
  clear HK_p_5
  clear cb_p_0 cb_p_1 cb_p_2 cb_p_3 cb_p_4 cb_p_5 zb_p
  have zb_p : w.heap.size + 1 < w6.heap.size := HK_p_6.out.lt
  have cb_p_0 : w6.cell? ⟨w.heap.size + 1, 0, none⟩ = some (.int .i64 p0) := HK_p_6.out.cell 0
  have cb_p_1 : w6.cell? ⟨w.heap.size + 1, 1, none⟩ = some (.int .i64 p1) := HK_p_6.out.cell 1
  have cb_p_2 : w6.cell? ⟨w.heap.size + 1, 2, none⟩ = some (.int .i64 p2) := HK_p_6.out.cell 2
  have cb_p_3 : w6.cell? ⟨w.heap.size + 1, 3, none⟩ = some (.int .i64 p3) := HK_p_6.out.cell 3
  have cb_p_4 : w6.cell? ⟨w.heap.size + 1, 4, none⟩ = some (.int .i64 p4) := HK_p_6.out.cell 4
  have cb_p_5 : w6.cell? ⟨w.heap.size + 1, 5, none⟩ = some (.int .i64 p5) := HK_p_6.out.cell 5
  have HK_w0_6 : Hid (Bk w6 (B_w0) 30 #[.int .i64 xl, .int .i64 xb, .slice A_v M.length cap_v, .int .i64 xs, .int .i64 xd]) := Lib.hid (HK_w0_5.out.old hb6)
  clear HK_w0_5
  clear cb_w0_0 cb_w0_1 cb_w0_2 cb_w0_3 cb_w0_4 zb_w0
  have zb_w0 : B_w0 < w6.heap.size := HK_w0_6.out.lt
  have cb_w0_0 : w6.cell? ⟨B_w0, 0, none⟩ = some (.int .i64 xl) := HK_w0_6.out.cell 0
  have cb_w0_1 : w6.cell? ⟨B_w0, 1, none⟩ = some (.int .i64 xb) := HK_w0_6.out.cell 1
  have cb_w0_2 : w6.cell? ⟨B_w0, 2, none⟩ = some (.slice A_v M.length cap_v) := HK_w0_6.out.cell 2
  have cb_w0_3 : w6.cell? ⟨B_w0, 3, none⟩ = some (.int .i64 xs) := HK_w0_6.out.cell 3
  have cb_w0_4 : w6.cell? ⟨B_w0, 4, none⟩ = some (.int .i64 xd) := HK_w0_6.out.cell 4
  have HK_x0_6 : Hid (Bk w6 (w3.heap.size) 30 #[.int .i64 li, .int .i64 by_, .slice A_x n cap_x, .int .i64 se, .int .i64 dr]) := Lib.hid (HK_x0_5.out.old hb6)
  clear HK_x0_5
  clear cb_x0_0 cb_x0_1 cb_x0_2 cb_x0_3 cb_x0_4 zb_x0
  have zb_x0 : w3.heap.size < w6.heap.size := HK_x0_6.out.lt
  have cb_x0_0 : w6.cell? ⟨w3.heap.size, 0, none⟩ = some (.int .i64 li) := HK_x0_6.out.cell 0
  have cb_x0_1 : w6.cell? ⟨w3.heap.size, 1, none⟩ = some (.int .i64 by_) := HK_x0_6.out.cell 1
  have cb_x0_2 : w6.cell? ⟨w3.heap.size, 2, none⟩ = some (.slice A_x n cap_x) := HK_x0_6.out.cell 2
  have cb_x0_3 : w6.cell? ⟨w3.heap.size, 3, none⟩ = some (.int .i64 se) := HK_x0_6.out.cell 3
  have cb_x0_4 : w6.cell? ⟨w3.heap.size, 4, none⟩ = some (.int .i64 dr) := HK_x0_6.out.cell 4
  have HK_g0_6 : Hid (Bk w6 (B_g0) 30 #[.int .i64 xl, .int .i64 xb, .slice A_g M.length cap_g, .int .i64 xs, .int .i64 xd]) := Lib.hid (HK_g0_5.out.old hb6)
  clear HK_g0_5
  clear cb_g0_0 cb_g0_1 cb_g0_2 cb_g0_3 cb_g0_4 zb_g0
  have zb_g0 : B_g0 < w6.heap.size := HK_g0_6.out.lt
  have cb_g0_0 : w6.cell? ⟨B_g0, 0, none⟩ = some (.int .i64 xl) := HK_g0_6.out.cell 0
  have cb_g0_1 : w6.cell? ⟨B_g0, 1, none⟩ = some (.int .i64 xb) := HK_g0_6.out.cell 1
  have cb_g0_2 : w6.cell? ⟨B_g0, 2, none⟩ = some (.slice A_g M.length cap_g) := HK_g0_6.out.cell 2
  have cb_g0_3 : w6.cell? ⟨B_g0, 3, none⟩ = some (.int .i64 xs) := HK_g0_6.out.cell 3
  have cb_g0_4 : w6.cell? ⟨B_g0, 4, none⟩ = some (.int .i64 xd) := HK_g0_6.out.cell 4
  have HO_v_6 := Lib.hid (HO_v_5.out.old hb6)
  clear HO_v_5
  have HO_vi_6 := Lib.hid (HO_vi_5.out.old hb6)
  clear HO_vi_5
  have HO_x_6 := Lib.hid (HO_x_5.out.old hb6)
  clear HO_x_5
  have HO_g_6 := Lib.hid (HO_g_5.out.old hb6)
  clear HO_g_5
  have HO_gi_6 := Lib.hid (HO_gi_5.out.old hb6)
  clear HO_gi_5
  have HB_6 := Lib.hid (bt HB_5.out hb6)
  clear hb6
  go_wp2_with fail
  refine (eqIntS_any _ _ _ _ _ ids _ HG.out (by omega) HO_gi_6.out.row HO_vi_6.out.row).mono ?_
  rintro e w7 ⟨rfl, hb7⟩
  have z7 := hb7.size
  (try simp at z7)
  have HK_q_7 : Hid (Bk w7 (w.heap.size) 24 #[.int .i64 li, .int .i64 by_, .slice A n cap, .int .i64 se, .int .i64 dr]) := Lib.hid (HK_q_6.out.old hb7)
  clear HK_q_6
  clear cb_q_0 cb_q_1 cb_q_2 cb_q_3 cb_q_4 zb_q
  have zb_q : w.heap.size < w7.heap.size := HK_q_7.out.lt
  have cb_q_0 : w7.cell? ⟨w.heap.size, 0, none⟩ = some (.int .i64 li) := HK_q_7.out.cell 0
  have cb_q_1 : w7.cell? ⟨w.heap.size, 1, none⟩ = some (.int .i64 by_) := HK_q_7.out.cell 1
  have cb_q_2 : w7.cell? ⟨w.heap.size, 2, none⟩ = some (.slice A n cap) := HK_q_7.out.cell 2
  have cb_q_3 : w7.cell? ⟨w.heap.size, 3, none⟩ = some (.int .i64 se) := HK_q_7.out.cell 3
  have cb_q_4 : w7.cell? ⟨w.heap.size, 4, none⟩ = some (.int .i64 dr) := HK_q_7.out.cell 4
  have HK_p_7 : Hid (Bk w7 (w.heap.size + 1) 26 #[.int .i64 p0, .int .i64 p1, .int .i64 p2, .int .i64 p3, .int .i64 p4, .int .i64 p5]) := Lib.hid (HK_p_6.out.old hb7)
  clear HK_p_6
  clear cb_p_0 cb_p_1 cb_p_2 cb_p_3 cb_p_4 cb_p_5 zb_p
  have zb_p : w.heap.size + 1 < w7.heap.size := HK_p_7.out.lt
  have cb_p_0 : w7.cell? ⟨w.heap.size + 1, 0, none⟩ = some (.int .i64 p0) := HK_p_7.out.cell 0
  have cb_p_1 : w7.cell? ⟨w.heap.size + 1, 1, none⟩ = some (.int .i64 p1) := HK_p_7.out.cell 1
  have cb_p_2 : w7.cell? ⟨w.heap.size + 1, 2, none⟩ = some (.int .i64 p2) := HK_p_7.out.cell 2
  have cb_p_3 : w7.cell? ⟨w.heap.size + 1, 3, none⟩ = some (.int .i64 p3) := HK_p_7.out.cell 3
  have cb_p_4 : w7.cell? ⟨w.heap.size + 1, 4, none⟩ = some (.int .i64 p4) := HK_p_7.out.cell 4
  have cb_p_5 : w7.cell? ⟨w.heap.size + 1, 5, none⟩ = some (.int .i64 p5) := HK_p_7.out.cell 5
  have HK_w0_7 : Hid (Bk w7 (B_w0) 30 #[.int .i64 xl, .int .i64 xb, .slice A_v M.length cap_v, .int .i64 xs, .int .i64 xd]) := Lib.hid (HK_w0_6.out.old hb7)
  clear HK_w0_6
  clear cb_w0_0 cb_w0_1 cb_w0_2 cb_w0_3 cb_w0_4 zb_w0
  have zb_w0 : B_w0 < w7.heap.size := HK_w0_7.out.lt
  have cb_w0_0 : w7.cell? ⟨B_w0, 0, none⟩ = some (.int .i64 xl) := HK_w0_7.out.cell 0
  have cb_w0_1 : w7.cell? ⟨B_w0, 1, none⟩ = some (.int .i64 xb) := HK_w0_7.out.cell 1
  have cb_w0_2 : w7.cell? ⟨B_w0, 2, none⟩ = some (.slice A_v M.length cap_v) := HK_w0_7.out.cell 2
  have cb_w0_3 : w7.cell? ⟨B_w0, 3, none⟩ = some (.int .i64 xs) := HK_w0_7.out.cell 3
  have cb_w0_4 : w7.cell? ⟨B_w0, 4, none⟩ = some (.int .i64 xd) := HK_w0_7.out.cell 4
  have HK_x0_7 : Hid (Bk w7 (w3.heap.size) 30 #[.int .i64 li, .int .i64 by_, .slice A_x n cap_x, .int .i64 se, .int .i64 dr]) := Lib.hid (HK_x0_6.out.old hb7)
  clear HK_x0_6
  clear cb_x0_0 cb_x0_1 cb_x0_2 cb_x0_3 cb_x0_4 zb_x0
  have zb_x0 : w3.heap.size < w7.heap.size := HK_x0_7.out.lt
  have cb_x0_0 : w7.cell? ⟨w3.heap.size, 0, none⟩ = some (.int .i64 li) := HK_x0_7.out.cell 0
  have cb_x0_1 : w7.cell? ⟨w3.heap.size, 1, none⟩ = some (.int .i64 by_) := HK_x0_7.out.cell 1
  have cb_x0_2 : w7.cell? ⟨w3.heap.size, 2, none⟩ = some (.slice A_x n cap_x) := HK_x0_7.out.cell 2
  have cb_x0_3 : w7.cell? ⟨w3.heap.size, 3, none⟩ = some (.int .i64 se) := HK_x0_7.out.cell 3
  have cb_x0_4 : w7.cell? ⟨w3.heap.size, 4, none⟩ = some (.int .i64 dr) := HK_x0_7.out.cell 4
  have HK_g0_7 : Hid (Bk w7 (B_g0) 30 #[.int .i64 xl, .int .i64 xb, .slice A_g M.length cap_g, .int .i64 xs, .int .i64 xd]) := Lib.hid (HK_g0_6.out.old hb7)
  clear HK_g0_6
  clear cb_g0_0 cb_g0_1 cb_g0_2 cb_g0_3 cb_g0_4 zb_g0
  have zb_g0 : B_g0 < w7.heap.size := HK_g0_7.out.lt
  have cb_g0_0 : w7.cell? ⟨B_g0, 0, none⟩ = some (.int .i64 xl) := HK_g0_7.out.cell 0
  have cb_g0_1 : w7.cell? ⟨B_g0, 1, none⟩ = some (.int .i64 xb) := HK_g0_7.out.cell 1
  have cb_g0_2 : w7.cell? ⟨B_g0, 2, none⟩ = some (.slice A_g M.length cap_g) := HK_g0_7.out.cell 2
  have cb_g0_3 : w7.cell? ⟨B_g0, 3, none⟩ = some (.int .i64 xs) := HK_g0_7.out.cell 3
  have cb_g0_4 : w7.cell? ⟨B_g0, 4, none⟩ = some (.int .i64 xd) := HK_g0_7.out.cell 4
  have HO_v_7 := Lib.hid (HO_v_6.out.old hb7)
  clear HO_v_6
  have HO_vi_7 := Lib.hid (HO_vi_6.out.old hb7)
  clear HO_vi_6
  have HO_x_7 := Lib.hid (HO_x_6.out.old hb7)
  clear HO_x_6
  have HO_g_7 := Lib.hid (HO_g_6.out.old hb7)
  clear HO_g_6
  have HO_gi_7 := Lib.hid (HO_gi_6.out.old hb7)
  clear HO_gi_6
  have HB_7 := Lib.hid (bt HB_6.out hb7)
  clear hb7
  go_wp2_with fail
  go_region_held3 (fun w' => w'.cell? ⟨w.heap.size, 0, none⟩ = some (.int .i64 li) ∧ w'.cell? ⟨w.heap.size, 1, none⟩ = some (.int .i64 by_) ∧ w'.cell? ⟨w.heap.size, 2, none⟩ = some (.slice A n cap) ∧ w'.cell? ⟨w.heap.size, 3, none⟩ = some (.int .i64 se) ∧ w'.cell? ⟨w.heap.size, 4, none⟩ = some (.int .i64 dr) ∧ w'.cell? ⟨w.heap.size + 1, 0, none⟩ = some (.int .i64 p0) ∧ w'.cell? ⟨w.heap.size + 1, 1, none⟩ = some (.int .i64 p1) ∧ w'.cell? ⟨w.heap.size + 1, 2, none⟩ = some (.int .i64 p2) ∧ w'.cell? ⟨w.heap.size + 1, 3, none⟩ = some (.int .i64 p3) ∧ w'.cell? ⟨w.heap.size + 1, 4, none⟩ = some (.int .i64 p4) ∧ w'.cell? ⟨w.heap.size + 1, 5, none⟩ = some (.int .i64 p5) ∧ w'.cell? ⟨B_w0, 0, none⟩ = some (.int .i64 xl) ∧ w'.cell? ⟨B_w0, 1, none⟩ = some (.int .i64 xb) ∧ w'.cell? ⟨B_w0, 2, none⟩ = some (.slice A_v M.length cap_v) ∧ w'.cell? ⟨B_w0, 3, none⟩ = some (.int .i64 xs) ∧ w'.cell? ⟨B_w0, 4, none⟩ = some (.int .i64 xd) ∧ w'.cell? ⟨w3.heap.size, 0, none⟩ = some (.int .i64 li) ∧ w'.cell? ⟨w3.heap.size, 1, none⟩ = some (.int .i64 by_) ∧ w'.cell? ⟨w3.heap.size, 2, none⟩ = some (.slice A_x n cap_x) ∧ w'.cell? ⟨w3.heap.size, 3, none⟩ = some (.int .i64 se) ∧ w'.cell? ⟨w3.heap.size, 4, none⟩ = some (.int .i64 dr) ∧ w'.cell? ⟨B_g0, 0, none⟩ = some (.int .i64 xl) ∧ w'.cell? ⟨B_g0, 1, none⟩ = some (.int .i64 xb) ∧ w'.cell? ⟨B_g0, 2, none⟩ = some (.slice A_g M.length cap_g) ∧ w'.cell? ⟨B_g0, 3, none⟩ = some (.int .i64 xs) ∧ w'.cell? ⟨B_g0, 4, none⟩ = some (.int .i64 xd)) (go_keep)
    (first
      | (go_at_call 14; refine (toQueue_any _ _ _ _ _ _ _ L _ HLL.out (HR_a.out.below HB_7.out.drew) (by omega)).mono ?_; rintro e w8 ⟨A_y, cap_y, rfl, ho_y, hb8⟩; have zz8 := hb8.size; (try simp at zz8); have rkhb8_q := fun o => bkeep hb8 (w.heap.size) o (by first | omega | (simp; done) | (simp; omega)); have rkhb8_p := fun o => bkeep hb8 (w.heap.size + 1) o (by first | omega | (simp; done) | (simp; omega)); have rkhb8_w0 := fun o => bkeep hb8 (B_w0) o (by first | omega | (simp; done) | (simp; omega)); have rkhb8_x0 := fun o => bkeep hb8 (w3.heap.size) o (by first | omega | (simp; done) | (simp; omega)); have rkhb8_g0 := fun o => bkeep hb8 (B_g0) o (by first | omega | (simp; done) | (simp; omega)))
      | (go_at_call 17; refine (eqQueue_any _ _ _ _ _ _ _ _ _ (fl L) _ HL.out ((HO_x_7.out.drew).old hb8).row ho_y.row (by omega)).mono ?_; rintro e w9 ⟨rfl, hb9⟩; have zz9 := hb9.size; have rkhb9_q := fun o => bkeep hb9 (w.heap.size) o (by first | omega | (simp; done) | (simp; omega)); have rkhb9_p := fun o => bkeep hb9 (w.heap.size + 1) o (by first | omega | (simp; done) | (simp; omega)); have rkhb9_w0 := fun o => bkeep hb9 (B_w0) o (by first | omega | (simp; done) | (simp; omega)); have rkhb9_x0 := fun o => bkeep hb9 (w3.heap.size) o (by first | omega | (simp; done) | (simp; omega)); have rkhb9_g0 := fun o => bkeep hb9 (B_g0) o (by first | omega | (simp; done) | (simp; omega))))
  clear rkhb8_q rkhb8_p rkhb8_w0 rkhb8_x0 rkhb8_g0 rkhb9_q rkhb9_p rkhb9_w0 rkhb9_x0 rkhb9_g0 zz8 zz9
  have HN_y := Lib.hid ho_y.len
  have HO_y_8 := Lib.hid ho_y
  clear ho_y
  have z8 := hb8.size
  (try simp at z8)
  have HK_q_8 : Hid (Bk w8 (w.heap.size) 24 #[.int .i64 li, .int .i64 by_, .slice A n cap, .int .i64 se, .int .i64 dr]) := Lib.hid ((HK_q_7.out.drew).old hb8)
  clear HK_q_7
  clear cb_q_0 cb_q_1 cb_q_2 cb_q_3 cb_q_4 zb_q
  have zb_q : w.heap.size < w8.heap.size := HK_q_8.out.lt
  have cb_q_0 : w8.cell? ⟨w.heap.size, 0, none⟩ = some (.int .i64 li) := HK_q_8.out.cell 0
  have cb_q_1 : w8.cell? ⟨w.heap.size, 1, none⟩ = some (.int .i64 by_) := HK_q_8.out.cell 1
  have cb_q_2 : w8.cell? ⟨w.heap.size, 2, none⟩ = some (.slice A n cap) := HK_q_8.out.cell 2
  have cb_q_3 : w8.cell? ⟨w.heap.size, 3, none⟩ = some (.int .i64 se) := HK_q_8.out.cell 3
  have cb_q_4 : w8.cell? ⟨w.heap.size, 4, none⟩ = some (.int .i64 dr) := HK_q_8.out.cell 4
  have HK_p_8 : Hid (Bk w8 (w.heap.size + 1) 26 #[.int .i64 p0, .int .i64 p1, .int .i64 p2, .int .i64 p3, .int .i64 p4, .int .i64 p5]) := Lib.hid ((HK_p_7.out.drew).old hb8)
  clear HK_p_7
  clear cb_p_0 cb_p_1 cb_p_2 cb_p_3 cb_p_4 cb_p_5 zb_p
  have zb_p : w.heap.size + 1 < w8.heap.size := HK_p_8.out.lt
  have cb_p_0 : w8.cell? ⟨w.heap.size + 1, 0, none⟩ = some (.int .i64 p0) := HK_p_8.out.cell 0
  have cb_p_1 : w8.cell? ⟨w.heap.size + 1, 1, none⟩ = some (.int .i64 p1) := HK_p_8.out.cell 1
  have cb_p_2 : w8.cell? ⟨w.heap.size + 1, 2, none⟩ = some (.int .i64 p2) := HK_p_8.out.cell 2
  have cb_p_3 : w8.cell? ⟨w.heap.size + 1, 3, none⟩ = some (.int .i64 p3) := HK_p_8.out.cell 3
  have cb_p_4 : w8.cell? ⟨w.heap.size + 1, 4, none⟩ = some (.int .i64 p4) := HK_p_8.out.cell 4
  have cb_p_5 : w8.cell? ⟨w.heap.size + 1, 5, none⟩ = some (.int .i64 p5) := HK_p_8.out.cell 5
  have HK_w0_8 : Hid (Bk w8 (B_w0) 30 #[.int .i64 xl, .int .i64 xb, .slice A_v M.length cap_v, .int .i64 xs, .int .i64 xd]) := Lib.hid ((HK_w0_7.out.drew).old hb8)
  clear HK_w0_7
  clear cb_w0_0 cb_w0_1 cb_w0_2 cb_w0_3 cb_w0_4 zb_w0
  have zb_w0 : B_w0 < w8.heap.size := HK_w0_8.out.lt
  have cb_w0_0 : w8.cell? ⟨B_w0, 0, none⟩ = some (.int .i64 xl) := HK_w0_8.out.cell 0
  have cb_w0_1 : w8.cell? ⟨B_w0, 1, none⟩ = some (.int .i64 xb) := HK_w0_8.out.cell 1
  have cb_w0_2 : w8.cell? ⟨B_w0, 2, none⟩ = some (.slice A_v M.length cap_v) := HK_w0_8.out.cell 2
  have cb_w0_3 : w8.cell? ⟨B_w0, 3, none⟩ = some (.int .i64 xs) := HK_w0_8.out.cell 3
  have cb_w0_4 : w8.cell? ⟨B_w0, 4, none⟩ = some (.int .i64 xd) := HK_w0_8.out.cell 4
  have HK_x0_8 : Hid (Bk w8 (w3.heap.size) 30 #[.int .i64 li, .int .i64 by_, .slice A_x n cap_x, .int .i64 se, .int .i64 dr]) := Lib.hid ((HK_x0_7.out.drew).old hb8)
  clear HK_x0_7
  clear cb_x0_0 cb_x0_1 cb_x0_2 cb_x0_3 cb_x0_4 zb_x0
  have zb_x0 : w3.heap.size < w8.heap.size := HK_x0_8.out.lt
  have cb_x0_0 : w8.cell? ⟨w3.heap.size, 0, none⟩ = some (.int .i64 li) := HK_x0_8.out.cell 0
  have cb_x0_1 : w8.cell? ⟨w3.heap.size, 1, none⟩ = some (.int .i64 by_) := HK_x0_8.out.cell 1
  have cb_x0_2 : w8.cell? ⟨w3.heap.size, 2, none⟩ = some (.slice A_x n cap_x) := HK_x0_8.out.cell 2
  have cb_x0_3 : w8.cell? ⟨w3.heap.size, 3, none⟩ = some (.int .i64 se) := HK_x0_8.out.cell 3
  have cb_x0_4 : w8.cell? ⟨w3.heap.size, 4, none⟩ = some (.int .i64 dr) := HK_x0_8.out.cell 4
  have HK_g0_8 : Hid (Bk w8 (B_g0) 30 #[.int .i64 xl, .int .i64 xb, .slice A_g M.length cap_g, .int .i64 xs, .int .i64 xd]) := Lib.hid ((HK_g0_7.out.drew).old hb8)
  clear HK_g0_7
  clear cb_g0_0 cb_g0_1 cb_g0_2 cb_g0_3 cb_g0_4 zb_g0
  have zb_g0 : B_g0 < w8.heap.size := HK_g0_8.out.lt
  have cb_g0_0 : w8.cell? ⟨B_g0, 0, none⟩ = some (.int .i64 xl) := HK_g0_8.out.cell 0
  have cb_g0_1 : w8.cell? ⟨B_g0, 1, none⟩ = some (.int .i64 xb) := HK_g0_8.out.cell 1
  have cb_g0_2 : w8.cell? ⟨B_g0, 2, none⟩ = some (.slice A_g M.length cap_g) := HK_g0_8.out.cell 2
  have cb_g0_3 : w8.cell? ⟨B_g0, 3, none⟩ = some (.int .i64 xs) := HK_g0_8.out.cell 3
  have cb_g0_4 : w8.cell? ⟨B_g0, 4, none⟩ = some (.int .i64 xd) := HK_g0_8.out.cell 4
  have HO_v_8 := Lib.hid ((HO_v_7.out.drew).old hb8)
  clear HO_v_7
  have HO_vi_8 := Lib.hid ((HO_vi_7.out.drew).old hb8)
  clear HO_vi_7
  have HO_x_8 := Lib.hid ((HO_x_7.out.drew).old hb8)
  clear HO_x_7
  have HO_g_8 := Lib.hid ((HO_g_7.out.drew).old hb8)
  clear HO_g_7
  have HO_gi_8 := Lib.hid ((HO_gi_7.out.drew).old hb8)
  clear HO_gi_7
  have HB_8 := Lib.hid (bt HB_7.out.drew hb8)
  clear hb8
  have z9 := hb9.size
  (try simp at z9)
  have HK_q_9 : Hid (Bk w9 (w.heap.size) 24 #[.int .i64 li, .int .i64 by_, .slice A n cap, .int .i64 se, .int .i64 dr]) := Lib.hid (HK_q_8.out.old hb9)
  clear HK_q_8
  clear cb_q_0 cb_q_1 cb_q_2 cb_q_3 cb_q_4 zb_q
  have zb_q : w.heap.size < w9.heap.size := HK_q_9.out.lt
  have cb_q_0 : w9.cell? ⟨w.heap.size, 0, none⟩ = some (.int .i64 li) := HK_q_9.out.cell 0
  have cb_q_1 : w9.cell? ⟨w.heap.size, 1, none⟩ = some (.int .i64 by_) := HK_q_9.out.cell 1
  have cb_q_2 : w9.cell? ⟨w.heap.size, 2, none⟩ = some (.slice A n cap) := HK_q_9.out.cell 2
  have cb_q_3 : w9.cell? ⟨w.heap.size, 3, none⟩ = some (.int .i64 se) := HK_q_9.out.cell 3
  have cb_q_4 : w9.cell? ⟨w.heap.size, 4, none⟩ = some (.int .i64 dr) := HK_q_9.out.cell 4
  have HK_p_9 : Hid (Bk w9 (w.heap.size + 1) 26 #[.int .i64 p0, .int .i64 p1, .int .i64 p2, .int .i64 p3, .int .i64 p4, .int .i64 p5]) := Lib.hid (HK_p_8.out.old hb9)
  clear HK_p_8
  clear cb_p_0 cb_p_1 cb_p_2 cb_p_3 cb_p_4 cb_p_5 zb_p
  have zb_p : w.heap.size + 1 < w9.heap.size := HK_p_9.out.lt
  have cb_p_0 : w9.cell? ⟨w.heap.size + 1, 0, none⟩ = some (.int .i64 p0) := HK_p_9.out.cell 0
  have cb_p_1 : w9.cell? ⟨w.heap.size + 1, 1, none⟩ = some (.int .i64 p1) := HK_p_9.out.cell 1
  have cb_p_2 : w9.cell? ⟨w.heap.size + 1, 2, none⟩ = some (.int .i64 p2) := HK_p_9.out.cell 2
  have cb_p_3 : w9.cell? ⟨w.heap.size + 1, 3, none⟩ = some (.int .i64 p3) := HK_p_9.out.cell 3
  have cb_p_4 : w9.cell? ⟨w.heap.size + 1, 4, none⟩ = some (.int .i64 p4) := HK_p_9.out.cell 4
  have cb_p_5 : w9.cell? ⟨w.heap.size + 1, 5, none⟩ = some (.int .i64 p5) := HK_p_9.out.cell 5
  have HK_w0_9 : Hid (Bk w9 (B_w0) 30 #[.int .i64 xl, .int .i64 xb, .slice A_v M.length cap_v, .int .i64 xs, .int .i64 xd]) := Lib.hid (HK_w0_8.out.old hb9)
  clear HK_w0_8
  clear cb_w0_0 cb_w0_1 cb_w0_2 cb_w0_3 cb_w0_4 zb_w0
  have zb_w0 : B_w0 < w9.heap.size := HK_w0_9.out.lt
  have cb_w0_0 : w9.cell? ⟨B_w0, 0, none⟩ = some (.int .i64 xl) := HK_w0_9.out.cell 0
  have cb_w0_1 : w9.cell? ⟨B_w0, 1, none⟩ = some (.int .i64 xb) := HK_w0_9.out.cell 1
  have cb_w0_2 : w9.cell? ⟨B_w0, 2, none⟩ = some (.slice A_v M.length cap_v) := HK_w0_9.out.cell 2
  have cb_w0_3 : w9.cell? ⟨B_w0, 3, none⟩ = some (.int .i64 xs) := HK_w0_9.out.cell 3
  have cb_w0_4 : w9.cell? ⟨B_w0, 4, none⟩ = some (.int .i64 xd) := HK_w0_9.out.cell 4
  have HK_x0_9 : Hid (Bk w9 (w3.heap.size) 30 #[.int .i64 li, .int .i64 by_, .slice A_x n cap_x, .int .i64 se, .int .i64 dr]) := Lib.hid (HK_x0_8.out.old hb9)
  clear HK_x0_8
  clear cb_x0_0 cb_x0_1 cb_x0_2 cb_x0_3 cb_x0_4 zb_x0
  have zb_x0 : w3.heap.size < w9.heap.size := HK_x0_9.out.lt
  have cb_x0_0 : w9.cell? ⟨w3.heap.size, 0, none⟩ = some (.int .i64 li) := HK_x0_9.out.cell 0
  have cb_x0_1 : w9.cell? ⟨w3.heap.size, 1, none⟩ = some (.int .i64 by_) := HK_x0_9.out.cell 1
  have cb_x0_2 : w9.cell? ⟨w3.heap.size, 2, none⟩ = some (.slice A_x n cap_x) := HK_x0_9.out.cell 2
  have cb_x0_3 : w9.cell? ⟨w3.heap.size, 3, none⟩ = some (.int .i64 se) := HK_x0_9.out.cell 3
  have cb_x0_4 : w9.cell? ⟨w3.heap.size, 4, none⟩ = some (.int .i64 dr) := HK_x0_9.out.cell 4
  have HK_g0_9 : Hid (Bk w9 (B_g0) 30 #[.int .i64 xl, .int .i64 xb, .slice A_g M.length cap_g, .int .i64 xs, .int .i64 xd]) := Lib.hid (HK_g0_8.out.old hb9)
  clear HK_g0_8
  clear cb_g0_0 cb_g0_1 cb_g0_2 cb_g0_3 cb_g0_4 zb_g0
  have zb_g0 : B_g0 < w9.heap.size := HK_g0_9.out.lt
  have cb_g0_0 : w9.cell? ⟨B_g0, 0, none⟩ = some (.int .i64 xl) := HK_g0_9.out.cell 0
  have cb_g0_1 : w9.cell? ⟨B_g0, 1, none⟩ = some (.int .i64 xb) := HK_g0_9.out.cell 1
  have cb_g0_2 : w9.cell? ⟨B_g0, 2, none⟩ = some (.slice A_g M.length cap_g) := HK_g0_9.out.cell 2
  have cb_g0_3 : w9.cell? ⟨B_g0, 3, none⟩ = some (.int .i64 xs) := HK_g0_9.out.cell 3
  have cb_g0_4 : w9.cell? ⟨B_g0, 4, none⟩ = some (.int .i64 xd) := HK_g0_9.out.cell 4
  have HO_v_9 := Lib.hid (HO_v_8.out.old hb9)
  clear HO_v_8
  have HO_vi_9 := Lib.hid (HO_vi_8.out.old hb9)
  clear HO_vi_8
  have HO_x_9 := Lib.hid (HO_x_8.out.old hb9)
  clear HO_x_8
  have HO_g_9 := Lib.hid (HO_g_8.out.old hb9)
  clear HO_g_8
  have HO_gi_9 := Lib.hid (HO_gi_8.out.old hb9)
  clear HO_gi_8
  have HO_y_9 := Lib.hid (HO_y_8.out.old hb9)
  clear HO_y_8
  have HB_9 := Lib.hid (bt HB_8.out hb9)
  clear hb9
  go_wp2_with fail
  refine (markQueue_any _ _ _ _ _ _ _ (fl L) 1 _ _ _ HO_x_9.out (by omega) (by omega) (by omega) (by omega)).mono ?_
  rintro e w10 ⟨rfl, ho10, hb10⟩
  have HO_x_10 := Lib.hid ho10
  clear ho10
  have z10 := hb10.size
  (try simp at z10)
  have HK_q_10 : Hid (Bk w10 (w.heap.size) 24 #[.int .i64 li, .int .i64 by_, .slice A n cap, .int .i64 se, .int .i64 dr]) := Lib.hid (HK_q_9.out.chg hb10 (by first | omega | (simp; done) | (simp; omega)))
  clear HK_q_9
  clear cb_q_0 cb_q_1 cb_q_2 cb_q_3 cb_q_4 zb_q
  have zb_q : w.heap.size < w10.heap.size := HK_q_10.out.lt
  have cb_q_0 : w10.cell? ⟨w.heap.size, 0, none⟩ = some (.int .i64 li) := HK_q_10.out.cell 0
  have cb_q_1 : w10.cell? ⟨w.heap.size, 1, none⟩ = some (.int .i64 by_) := HK_q_10.out.cell 1
  have cb_q_2 : w10.cell? ⟨w.heap.size, 2, none⟩ = some (.slice A n cap) := HK_q_10.out.cell 2
  have cb_q_3 : w10.cell? ⟨w.heap.size, 3, none⟩ = some (.int .i64 se) := HK_q_10.out.cell 3
  have cb_q_4 : w10.cell? ⟨w.heap.size, 4, none⟩ = some (.int .i64 dr) := HK_q_10.out.cell 4
  have HK_p_10 : Hid (Bk w10 (w.heap.size + 1) 26 #[.int .i64 p0, .int .i64 p1, .int .i64 p2, .int .i64 p3, .int .i64 p4, .int .i64 p5]) := Lib.hid (HK_p_9.out.chg hb10 (by first | omega | (simp; done) | (simp; omega)))
  clear HK_p_9
  clear cb_p_0 cb_p_1 cb_p_2 cb_p_3 cb_p_4 cb_p_5 zb_p
  have zb_p : w.heap.size + 1 < w10.heap.size := HK_p_10.out.lt
  have cb_p_0 : w10.cell? ⟨w.heap.size + 1, 0, none⟩ = some (.int .i64 p0) := HK_p_10.out.cell 0
  have cb_p_1 : w10.cell? ⟨w.heap.size + 1, 1, none⟩ = some (.int .i64 p1) := HK_p_10.out.cell 1
  have cb_p_2 : w10.cell? ⟨w.heap.size + 1, 2, none⟩ = some (.int .i64 p2) := HK_p_10.out.cell 2
  have cb_p_3 : w10.cell? ⟨w.heap.size + 1, 3, none⟩ = some (.int .i64 p3) := HK_p_10.out.cell 3
  have cb_p_4 : w10.cell? ⟨w.heap.size + 1, 4, none⟩ = some (.int .i64 p4) := HK_p_10.out.cell 4
  have cb_p_5 : w10.cell? ⟨w.heap.size + 1, 5, none⟩ = some (.int .i64 p5) := HK_p_10.out.cell 5
  have HK_w0_10 : Hid (Bk w10 (B_w0) 30 #[.int .i64 xl, .int .i64 xb, .slice A_v M.length cap_v, .int .i64 xs, .int .i64 xd]) := Lib.hid (HK_w0_9.out.chg hb10 (by first | omega | (simp; done) | (simp; omega)))
  clear HK_w0_9
  clear cb_w0_0 cb_w0_1 cb_w0_2 cb_w0_3 cb_w0_4 zb_w0
  have zb_w0 : B_w0 < w10.heap.size := HK_w0_10.out.lt
  have cb_w0_0 : w10.cell? ⟨B_w0, 0, none⟩ = some (.int .i64 xl) := HK_w0_10.out.cell 0
  have cb_w0_1 : w10.cell? ⟨B_w0, 1, none⟩ = some (.int .i64 xb) := HK_w0_10.out.cell 1
  have cb_w0_2 : w10.cell? ⟨B_w0, 2, none⟩ = some (.slice A_v M.length cap_v) := HK_w0_10.out.cell 2
  have cb_w0_3 : w10.cell? ⟨B_w0, 3, none⟩ = some (.int .i64 xs) := HK_w0_10.out.cell 3
  have cb_w0_4 : w10.cell? ⟨B_w0, 4, none⟩ = some (.int .i64 xd) := HK_w0_10.out.cell 4
  have HK_x0_10 : Hid (Bk w10 (w3.heap.size) 30 #[.int .i64 li, .int .i64 by_, .slice A_x n cap_x, .int .i64 se, .int .i64 dr]) := Lib.hid (HK_x0_9.out.chg hb10 (by first | omega | (simp; done) | (simp; omega)))
  clear HK_x0_9
  clear cb_x0_0 cb_x0_1 cb_x0_2 cb_x0_3 cb_x0_4 zb_x0
  have zb_x0 : w3.heap.size < w10.heap.size := HK_x0_10.out.lt
  have cb_x0_0 : w10.cell? ⟨w3.heap.size, 0, none⟩ = some (.int .i64 li) := HK_x0_10.out.cell 0
  have cb_x0_1 : w10.cell? ⟨w3.heap.size, 1, none⟩ = some (.int .i64 by_) := HK_x0_10.out.cell 1
  have cb_x0_2 : w10.cell? ⟨w3.heap.size, 2, none⟩ = some (.slice A_x n cap_x) := HK_x0_10.out.cell 2
  have cb_x0_3 : w10.cell? ⟨w3.heap.size, 3, none⟩ = some (.int .i64 se) := HK_x0_10.out.cell 3
  have cb_x0_4 : w10.cell? ⟨w3.heap.size, 4, none⟩ = some (.int .i64 dr) := HK_x0_10.out.cell 4
  have HK_g0_10 : Hid (Bk w10 (B_g0) 30 #[.int .i64 xl, .int .i64 xb, .slice A_g M.length cap_g, .int .i64 xs, .int .i64 xd]) := Lib.hid (HK_g0_9.out.chg hb10 (by first | omega | (simp; done) | (simp; omega)))
  clear HK_g0_9
  clear cb_g0_0 cb_g0_1 cb_g0_2 cb_g0_3 cb_g0_4 zb_g0
  have zb_g0 : B_g0 < w10.heap.size := HK_g0_10.out.lt
  have cb_g0_0 : w10.cell? ⟨B_g0, 0, none⟩ = some (.int .i64 xl) := HK_g0_10.out.cell 0
  have cb_g0_1 : w10.cell? ⟨B_g0, 1, none⟩ = some (.int .i64 xb) := HK_g0_10.out.cell 1
  have cb_g0_2 : w10.cell? ⟨B_g0, 2, none⟩ = some (.slice A_g M.length cap_g) := HK_g0_10.out.cell 2
  have cb_g0_3 : w10.cell? ⟨B_g0, 3, none⟩ = some (.int .i64 xs) := HK_g0_10.out.cell 3
  have cb_g0_4 : w10.cell? ⟨B_g0, 4, none⟩ = some (.int .i64 xd) := HK_g0_10.out.cell 4
  have HO_v_10 := Lib.hid (HO_v_9.out.chg hb10 (by first | omega | (simp; done) | (simp; omega)))
  clear HO_v_9
  have HO_vi_10 := Lib.hid (HO_vi_9.out.chg hb10 (by first | omega | (simp; done) | (simp; omega)))
  clear HO_vi_9
  have HO_g_10 := Lib.hid (HO_g_9.out.chg hb10 (by first | omega | (simp; done) | (simp; omega)))
  clear HO_g_9
  have HO_gi_10 := Lib.hid (HO_gi_9.out.chg hb10 (by first | omega | (simp; done) | (simp; omega)))
  clear HO_gi_9
  have HO_y_10 := Lib.hid (HO_y_9.out.chg hb10 (by first | omega | (simp; done) | (simp; omega)))
  clear HO_y_9
  have HB_10 := Lib.hid (Chg.below HB_9.out hb10 (by first | omega | (simp; done) | (simp; omega)))
  clear hb10
  clear HO_x_9
  go_wp2_with fail
  refine (eqQueue_any _ _ _ _ _ _ _ _ _ (fl M) _ HMM.out HO_g_10.out.row HO_v_10.out.row (by omega)).mono ?_
  rintro e w11 ⟨rfl, hb11⟩
  have z11 := hb11.size
  (try simp at z11)
  have HK_q_11 : Hid (Bk w11 (w.heap.size) 24 #[.int .i64 li, .int .i64 by_, .slice A n cap, .int .i64 se, .int .i64 dr]) := Lib.hid (HK_q_10.out.old hb11)
  clear HK_q_10
  clear cb_q_0 cb_q_1 cb_q_2 cb_q_3 cb_q_4 zb_q
  have zb_q : w.heap.size < w11.heap.size := HK_q_11.out.lt
  have cb_q_0 : w11.cell? ⟨w.heap.size, 0, none⟩ = some (.int .i64 li) := HK_q_11.out.cell 0
  have cb_q_1 : w11.cell? ⟨w.heap.size, 1, none⟩ = some (.int .i64 by_) := HK_q_11.out.cell 1
  have cb_q_2 : w11.cell? ⟨w.heap.size, 2, none⟩ = some (.slice A n cap) := HK_q_11.out.cell 2
  have cb_q_3 : w11.cell? ⟨w.heap.size, 3, none⟩ = some (.int .i64 se) := HK_q_11.out.cell 3
  have cb_q_4 : w11.cell? ⟨w.heap.size, 4, none⟩ = some (.int .i64 dr) := HK_q_11.out.cell 4
  have HK_p_11 : Hid (Bk w11 (w.heap.size + 1) 26 #[.int .i64 p0, .int .i64 p1, .int .i64 p2, .int .i64 p3, .int .i64 p4, .int .i64 p5]) := Lib.hid (HK_p_10.out.old hb11)
  clear HK_p_10
  clear cb_p_0 cb_p_1 cb_p_2 cb_p_3 cb_p_4 cb_p_5 zb_p
  have zb_p : w.heap.size + 1 < w11.heap.size := HK_p_11.out.lt
  have cb_p_0 : w11.cell? ⟨w.heap.size + 1, 0, none⟩ = some (.int .i64 p0) := HK_p_11.out.cell 0
  have cb_p_1 : w11.cell? ⟨w.heap.size + 1, 1, none⟩ = some (.int .i64 p1) := HK_p_11.out.cell 1
  have cb_p_2 : w11.cell? ⟨w.heap.size + 1, 2, none⟩ = some (.int .i64 p2) := HK_p_11.out.cell 2
  have cb_p_3 : w11.cell? ⟨w.heap.size + 1, 3, none⟩ = some (.int .i64 p3) := HK_p_11.out.cell 3
  have cb_p_4 : w11.cell? ⟨w.heap.size + 1, 4, none⟩ = some (.int .i64 p4) := HK_p_11.out.cell 4
  have cb_p_5 : w11.cell? ⟨w.heap.size + 1, 5, none⟩ = some (.int .i64 p5) := HK_p_11.out.cell 5
  have HK_w0_11 : Hid (Bk w11 (B_w0) 30 #[.int .i64 xl, .int .i64 xb, .slice A_v M.length cap_v, .int .i64 xs, .int .i64 xd]) := Lib.hid (HK_w0_10.out.old hb11)
  clear HK_w0_10
  clear cb_w0_0 cb_w0_1 cb_w0_2 cb_w0_3 cb_w0_4 zb_w0
  have zb_w0 : B_w0 < w11.heap.size := HK_w0_11.out.lt
  have cb_w0_0 : w11.cell? ⟨B_w0, 0, none⟩ = some (.int .i64 xl) := HK_w0_11.out.cell 0
  have cb_w0_1 : w11.cell? ⟨B_w0, 1, none⟩ = some (.int .i64 xb) := HK_w0_11.out.cell 1
  have cb_w0_2 : w11.cell? ⟨B_w0, 2, none⟩ = some (.slice A_v M.length cap_v) := HK_w0_11.out.cell 2
  have cb_w0_3 : w11.cell? ⟨B_w0, 3, none⟩ = some (.int .i64 xs) := HK_w0_11.out.cell 3
  have cb_w0_4 : w11.cell? ⟨B_w0, 4, none⟩ = some (.int .i64 xd) := HK_w0_11.out.cell 4
  have HK_x0_11 : Hid (Bk w11 (w3.heap.size) 30 #[.int .i64 li, .int .i64 by_, .slice A_x n cap_x, .int .i64 se, .int .i64 dr]) := Lib.hid (HK_x0_10.out.old hb11)
  clear HK_x0_10
  clear cb_x0_0 cb_x0_1 cb_x0_2 cb_x0_3 cb_x0_4 zb_x0
  have zb_x0 : w3.heap.size < w11.heap.size := HK_x0_11.out.lt
  have cb_x0_0 : w11.cell? ⟨w3.heap.size, 0, none⟩ = some (.int .i64 li) := HK_x0_11.out.cell 0
  have cb_x0_1 : w11.cell? ⟨w3.heap.size, 1, none⟩ = some (.int .i64 by_) := HK_x0_11.out.cell 1
  have cb_x0_2 : w11.cell? ⟨w3.heap.size, 2, none⟩ = some (.slice A_x n cap_x) := HK_x0_11.out.cell 2
  have cb_x0_3 : w11.cell? ⟨w3.heap.size, 3, none⟩ = some (.int .i64 se) := HK_x0_11.out.cell 3
  have cb_x0_4 : w11.cell? ⟨w3.heap.size, 4, none⟩ = some (.int .i64 dr) := HK_x0_11.out.cell 4
  have HK_g0_11 : Hid (Bk w11 (B_g0) 30 #[.int .i64 xl, .int .i64 xb, .slice A_g M.length cap_g, .int .i64 xs, .int .i64 xd]) := Lib.hid (HK_g0_10.out.old hb11)
  clear HK_g0_10
  clear cb_g0_0 cb_g0_1 cb_g0_2 cb_g0_3 cb_g0_4 zb_g0
  have zb_g0 : B_g0 < w11.heap.size := HK_g0_11.out.lt
  have cb_g0_0 : w11.cell? ⟨B_g0, 0, none⟩ = some (.int .i64 xl) := HK_g0_11.out.cell 0
  have cb_g0_1 : w11.cell? ⟨B_g0, 1, none⟩ = some (.int .i64 xb) := HK_g0_11.out.cell 1
  have cb_g0_2 : w11.cell? ⟨B_g0, 2, none⟩ = some (.slice A_g M.length cap_g) := HK_g0_11.out.cell 2
  have cb_g0_3 : w11.cell? ⟨B_g0, 3, none⟩ = some (.int .i64 xs) := HK_g0_11.out.cell 3
  have cb_g0_4 : w11.cell? ⟨B_g0, 4, none⟩ = some (.int .i64 xd) := HK_g0_11.out.cell 4
  have HO_v_11 := Lib.hid (HO_v_10.out.old hb11)
  clear HO_v_10
  have HO_vi_11 := Lib.hid (HO_vi_10.out.old hb11)
  clear HO_vi_10
  have HO_x_11 := Lib.hid (HO_x_10.out.old hb11)
  clear HO_x_10
  have HO_g_11 := Lib.hid (HO_g_10.out.old hb11)
  clear HO_g_10
  have HO_gi_11 := Lib.hid (HO_gi_10.out.old hb11)
  clear HO_gi_10
  have HO_y_11 := Lib.hid (HO_y_10.out.old hb11)
  clear HO_y_10
  have HB_11 := Lib.hid (bt HB_10.out hb11)
  clear hb11
  go_wp2_with fail
  refine (eqIntS_any _ _ _ _ _ ids _ HG.out (by omega) HO_gi_11.out.row HO_vi_11.out.row).mono ?_
  rintro e w12 ⟨rfl, hb12⟩
  have z12 := hb12.size
  (try simp at z12)
  have HK_q_12 : Hid (Bk w12 (w.heap.size) 24 #[.int .i64 li, .int .i64 by_, .slice A n cap, .int .i64 se, .int .i64 dr]) := Lib.hid (HK_q_11.out.old hb12)
  clear HK_q_11
  clear cb_q_0 cb_q_1 cb_q_2 cb_q_3 cb_q_4 zb_q
  have zb_q : w.heap.size < w12.heap.size := HK_q_12.out.lt
  have cb_q_0 : w12.cell? ⟨w.heap.size, 0, none⟩ = some (.int .i64 li) := HK_q_12.out.cell 0
  have cb_q_1 : w12.cell? ⟨w.heap.size, 1, none⟩ = some (.int .i64 by_) := HK_q_12.out.cell 1
  have cb_q_2 : w12.cell? ⟨w.heap.size, 2, none⟩ = some (.slice A n cap) := HK_q_12.out.cell 2
  have cb_q_3 : w12.cell? ⟨w.heap.size, 3, none⟩ = some (.int .i64 se) := HK_q_12.out.cell 3
  have cb_q_4 : w12.cell? ⟨w.heap.size, 4, none⟩ = some (.int .i64 dr) := HK_q_12.out.cell 4
  have HK_p_12 : Hid (Bk w12 (w.heap.size + 1) 26 #[.int .i64 p0, .int .i64 p1, .int .i64 p2, .int .i64 p3, .int .i64 p4, .int .i64 p5]) := Lib.hid (HK_p_11.out.old hb12)
  clear HK_p_11
  clear cb_p_0 cb_p_1 cb_p_2 cb_p_3 cb_p_4 cb_p_5 zb_p
  have zb_p : w.heap.size + 1 < w12.heap.size := HK_p_12.out.lt
  have cb_p_0 : w12.cell? ⟨w.heap.size + 1, 0, none⟩ = some (.int .i64 p0) := HK_p_12.out.cell 0
  have cb_p_1 : w12.cell? ⟨w.heap.size + 1, 1, none⟩ = some (.int .i64 p1) := HK_p_12.out.cell 1
  have cb_p_2 : w12.cell? ⟨w.heap.size + 1, 2, none⟩ = some (.int .i64 p2) := HK_p_12.out.cell 2
  have cb_p_3 : w12.cell? ⟨w.heap.size + 1, 3, none⟩ = some (.int .i64 p3) := HK_p_12.out.cell 3
  have cb_p_4 : w12.cell? ⟨w.heap.size + 1, 4, none⟩ = some (.int .i64 p4) := HK_p_12.out.cell 4
  have cb_p_5 : w12.cell? ⟨w.heap.size + 1, 5, none⟩ = some (.int .i64 p5) := HK_p_12.out.cell 5
  have HK_w0_12 : Hid (Bk w12 (B_w0) 30 #[.int .i64 xl, .int .i64 xb, .slice A_v M.length cap_v, .int .i64 xs, .int .i64 xd]) := Lib.hid (HK_w0_11.out.old hb12)
  clear HK_w0_11
  clear cb_w0_0 cb_w0_1 cb_w0_2 cb_w0_3 cb_w0_4 zb_w0
  have zb_w0 : B_w0 < w12.heap.size := HK_w0_12.out.lt
  have cb_w0_0 : w12.cell? ⟨B_w0, 0, none⟩ = some (.int .i64 xl) := HK_w0_12.out.cell 0
  have cb_w0_1 : w12.cell? ⟨B_w0, 1, none⟩ = some (.int .i64 xb) := HK_w0_12.out.cell 1
  have cb_w0_2 : w12.cell? ⟨B_w0, 2, none⟩ = some (.slice A_v M.length cap_v) := HK_w0_12.out.cell 2
  have cb_w0_3 : w12.cell? ⟨B_w0, 3, none⟩ = some (.int .i64 xs) := HK_w0_12.out.cell 3
  have cb_w0_4 : w12.cell? ⟨B_w0, 4, none⟩ = some (.int .i64 xd) := HK_w0_12.out.cell 4
  have HK_x0_12 : Hid (Bk w12 (w3.heap.size) 30 #[.int .i64 li, .int .i64 by_, .slice A_x n cap_x, .int .i64 se, .int .i64 dr]) := Lib.hid (HK_x0_11.out.old hb12)
  clear HK_x0_11
  clear cb_x0_0 cb_x0_1 cb_x0_2 cb_x0_3 cb_x0_4 zb_x0
  have zb_x0 : w3.heap.size < w12.heap.size := HK_x0_12.out.lt
  have cb_x0_0 : w12.cell? ⟨w3.heap.size, 0, none⟩ = some (.int .i64 li) := HK_x0_12.out.cell 0
  have cb_x0_1 : w12.cell? ⟨w3.heap.size, 1, none⟩ = some (.int .i64 by_) := HK_x0_12.out.cell 1
  have cb_x0_2 : w12.cell? ⟨w3.heap.size, 2, none⟩ = some (.slice A_x n cap_x) := HK_x0_12.out.cell 2
  have cb_x0_3 : w12.cell? ⟨w3.heap.size, 3, none⟩ = some (.int .i64 se) := HK_x0_12.out.cell 3
  have cb_x0_4 : w12.cell? ⟨w3.heap.size, 4, none⟩ = some (.int .i64 dr) := HK_x0_12.out.cell 4
  have HK_g0_12 : Hid (Bk w12 (B_g0) 30 #[.int .i64 xl, .int .i64 xb, .slice A_g M.length cap_g, .int .i64 xs, .int .i64 xd]) := Lib.hid (HK_g0_11.out.old hb12)
  clear HK_g0_11
  clear cb_g0_0 cb_g0_1 cb_g0_2 cb_g0_3 cb_g0_4 zb_g0
  have zb_g0 : B_g0 < w12.heap.size := HK_g0_12.out.lt
  have cb_g0_0 : w12.cell? ⟨B_g0, 0, none⟩ = some (.int .i64 xl) := HK_g0_12.out.cell 0
  have cb_g0_1 : w12.cell? ⟨B_g0, 1, none⟩ = some (.int .i64 xb) := HK_g0_12.out.cell 1
  have cb_g0_2 : w12.cell? ⟨B_g0, 2, none⟩ = some (.slice A_g M.length cap_g) := HK_g0_12.out.cell 2
  have cb_g0_3 : w12.cell? ⟨B_g0, 3, none⟩ = some (.int .i64 xs) := HK_g0_12.out.cell 3
  have cb_g0_4 : w12.cell? ⟨B_g0, 4, none⟩ = some (.int .i64 xd) := HK_g0_12.out.cell 4
  have HO_v_12 := Lib.hid (HO_v_11.out.old hb12)
  clear HO_v_11
  have HO_vi_12 := Lib.hid (HO_vi_11.out.old hb12)
  clear HO_vi_11
  have HO_x_12 := Lib.hid (HO_x_11.out.old hb12)
  clear HO_x_11
  have HO_g_12 := Lib.hid (HO_g_11.out.old hb12)
  clear HO_g_11
  have HO_gi_12 := Lib.hid (HO_gi_11.out.old hb12)
  clear HO_gi_11
  have HO_y_12 := Lib.hid (HO_y_11.out.old hb12)
  clear HO_y_11
  have HB_12 := Lib.hid (bt HB_11.out hb12)
  clear hb12
  go_wp2_with fail
  refine (markQueue_any _ _ _ _ _ _ _ (fl M) 1 _ _ _ HO_g_12.out (by omega) (by omega) (by omega) (by omega)).mono ?_
  rintro e w13 ⟨rfl, ho13, hb13⟩
  have HO_g_13 := Lib.hid ho13
  clear ho13
  have z13 := hb13.size
  (try simp at z13)
  have HK_q_13 : Hid (Bk w13 (w.heap.size) 24 #[.int .i64 li, .int .i64 by_, .slice A n cap, .int .i64 se, .int .i64 dr]) := Lib.hid (HK_q_12.out.chg hb13 (by first | omega | (simp; done) | (simp; omega)))
  clear HK_q_12
  clear cb_q_0 cb_q_1 cb_q_2 cb_q_3 cb_q_4 zb_q
  have zb_q : w.heap.size < w13.heap.size := HK_q_13.out.lt
  have cb_q_0 : w13.cell? ⟨w.heap.size, 0, none⟩ = some (.int .i64 li) := HK_q_13.out.cell 0
  have cb_q_1 : w13.cell? ⟨w.heap.size, 1, none⟩ = some (.int .i64 by_) := HK_q_13.out.cell 1
  have cb_q_2 : w13.cell? ⟨w.heap.size, 2, none⟩ = some (.slice A n cap) := HK_q_13.out.cell 2
  have cb_q_3 : w13.cell? ⟨w.heap.size, 3, none⟩ = some (.int .i64 se) := HK_q_13.out.cell 3
  have cb_q_4 : w13.cell? ⟨w.heap.size, 4, none⟩ = some (.int .i64 dr) := HK_q_13.out.cell 4
  have HK_p_13 : Hid (Bk w13 (w.heap.size + 1) 26 #[.int .i64 p0, .int .i64 p1, .int .i64 p2, .int .i64 p3, .int .i64 p4, .int .i64 p5]) := Lib.hid (HK_p_12.out.chg hb13 (by first | omega | (simp; done) | (simp; omega)))
  clear HK_p_12
  clear cb_p_0 cb_p_1 cb_p_2 cb_p_3 cb_p_4 cb_p_5 zb_p
  have zb_p : w.heap.size + 1 < w13.heap.size := HK_p_13.out.lt
  have cb_p_0 : w13.cell? ⟨w.heap.size + 1, 0, none⟩ = some (.int .i64 p0) := HK_p_13.out.cell 0
  have cb_p_1 : w13.cell? ⟨w.heap.size + 1, 1, none⟩ = some (.int .i64 p1) := HK_p_13.out.cell 1
  have cb_p_2 : w13.cell? ⟨w.heap.size + 1, 2, none⟩ = some (.int .i64 p2) := HK_p_13.out.cell 2
  have cb_p_3 : w13.cell? ⟨w.heap.size + 1, 3, none⟩ = some (.int .i64 p3) := HK_p_13.out.cell 3
  have cb_p_4 : w13.cell? ⟨w.heap.size + 1, 4, none⟩ = some (.int .i64 p4) := HK_p_13.out.cell 4
  have cb_p_5 : w13.cell? ⟨w.heap.size + 1, 5, none⟩ = some (.int .i64 p5) := HK_p_13.out.cell 5
  have HK_w0_13 : Hid (Bk w13 (B_w0) 30 #[.int .i64 xl, .int .i64 xb, .slice A_v M.length cap_v, .int .i64 xs, .int .i64 xd]) := Lib.hid (HK_w0_12.out.chg hb13 (by first | omega | (simp; done) | (simp; omega)))
  clear HK_w0_12
  clear cb_w0_0 cb_w0_1 cb_w0_2 cb_w0_3 cb_w0_4 zb_w0
  have zb_w0 : B_w0 < w13.heap.size := HK_w0_13.out.lt
  have cb_w0_0 : w13.cell? ⟨B_w0, 0, none⟩ = some (.int .i64 xl) := HK_w0_13.out.cell 0
  have cb_w0_1 : w13.cell? ⟨B_w0, 1, none⟩ = some (.int .i64 xb) := HK_w0_13.out.cell 1
  have cb_w0_2 : w13.cell? ⟨B_w0, 2, none⟩ = some (.slice A_v M.length cap_v) := HK_w0_13.out.cell 2
  have cb_w0_3 : w13.cell? ⟨B_w0, 3, none⟩ = some (.int .i64 xs) := HK_w0_13.out.cell 3
  have cb_w0_4 : w13.cell? ⟨B_w0, 4, none⟩ = some (.int .i64 xd) := HK_w0_13.out.cell 4
  have HK_x0_13 : Hid (Bk w13 (w3.heap.size) 30 #[.int .i64 li, .int .i64 by_, .slice A_x n cap_x, .int .i64 se, .int .i64 dr]) := Lib.hid (HK_x0_12.out.chg hb13 (by first | omega | (simp; done) | (simp; omega)))
  clear HK_x0_12
  clear cb_x0_0 cb_x0_1 cb_x0_2 cb_x0_3 cb_x0_4 zb_x0
  have zb_x0 : w3.heap.size < w13.heap.size := HK_x0_13.out.lt
  have cb_x0_0 : w13.cell? ⟨w3.heap.size, 0, none⟩ = some (.int .i64 li) := HK_x0_13.out.cell 0
  have cb_x0_1 : w13.cell? ⟨w3.heap.size, 1, none⟩ = some (.int .i64 by_) := HK_x0_13.out.cell 1
  have cb_x0_2 : w13.cell? ⟨w3.heap.size, 2, none⟩ = some (.slice A_x n cap_x) := HK_x0_13.out.cell 2
  have cb_x0_3 : w13.cell? ⟨w3.heap.size, 3, none⟩ = some (.int .i64 se) := HK_x0_13.out.cell 3
  have cb_x0_4 : w13.cell? ⟨w3.heap.size, 4, none⟩ = some (.int .i64 dr) := HK_x0_13.out.cell 4
  have HK_g0_13 : Hid (Bk w13 (B_g0) 30 #[.int .i64 xl, .int .i64 xb, .slice A_g M.length cap_g, .int .i64 xs, .int .i64 xd]) := Lib.hid (HK_g0_12.out.chg hb13 (by first | omega | (simp; done) | (simp; omega)))
  clear HK_g0_12
  clear cb_g0_0 cb_g0_1 cb_g0_2 cb_g0_3 cb_g0_4 zb_g0
  have zb_g0 : B_g0 < w13.heap.size := HK_g0_13.out.lt
  have cb_g0_0 : w13.cell? ⟨B_g0, 0, none⟩ = some (.int .i64 xl) := HK_g0_13.out.cell 0
  have cb_g0_1 : w13.cell? ⟨B_g0, 1, none⟩ = some (.int .i64 xb) := HK_g0_13.out.cell 1
  have cb_g0_2 : w13.cell? ⟨B_g0, 2, none⟩ = some (.slice A_g M.length cap_g) := HK_g0_13.out.cell 2
  have cb_g0_3 : w13.cell? ⟨B_g0, 3, none⟩ = some (.int .i64 xs) := HK_g0_13.out.cell 3
  have cb_g0_4 : w13.cell? ⟨B_g0, 4, none⟩ = some (.int .i64 xd) := HK_g0_13.out.cell 4
  have HO_v_13 := Lib.hid (HO_v_12.out.chg hb13 (by first | omega | (simp; done) | (simp; omega)))
  clear HO_v_12
  have HO_vi_13 := Lib.hid (HO_vi_12.out.chg hb13 (by first | omega | (simp; done) | (simp; omega)))
  clear HO_vi_12
  have HO_x_13 := Lib.hid (HO_x_12.out.chg hb13 (by first | omega | (simp; done) | (simp; omega)))
  clear HO_x_12
  have HO_gi_13 := Lib.hid (HO_gi_12.out.chg hb13 (by first | omega | (simp; done) | (simp; omega)))
  clear HO_gi_12
  have HO_y_13 := Lib.hid (HO_y_12.out.chg hb13 (by first | omega | (simp; done) | (simp; omega)))
  clear HO_y_12
  have HB_13 := Lib.hid (Chg.below HB_12.out hb13 (by first | omega | (simp; done) | (simp; omega)))
  clear hb13
  clear HO_g_12
  go_wp2_with fail
  refine (markIntS_any _ _ _ ids _ _ _ _ HO_gi_13.out (by omega) (by omega) (by omega)).mono ?_
  rintro e w14 ⟨rfl, ho14, hb14⟩
  have HO_gi_14 := Lib.hid ho14
  clear ho14
  have z14 := hb14.size
  (try simp at z14)
  have HK_q_14 : Hid (Bk w14 (w.heap.size) 24 #[.int .i64 li, .int .i64 by_, .slice A n cap, .int .i64 se, .int .i64 dr]) := Lib.hid (HK_q_13.out.chg hb14 (by first | omega | (simp; done) | (simp; omega)))
  clear HK_q_13
  clear cb_q_0 cb_q_1 cb_q_2 cb_q_3 cb_q_4 zb_q
  have zb_q : w.heap.size < w14.heap.size := HK_q_14.out.lt
  have cb_q_0 : w14.cell? ⟨w.heap.size, 0, none⟩ = some (.int .i64 li) := HK_q_14.out.cell 0
  have cb_q_1 : w14.cell? ⟨w.heap.size, 1, none⟩ = some (.int .i64 by_) := HK_q_14.out.cell 1
  have cb_q_2 : w14.cell? ⟨w.heap.size, 2, none⟩ = some (.slice A n cap) := HK_q_14.out.cell 2
  have cb_q_3 : w14.cell? ⟨w.heap.size, 3, none⟩ = some (.int .i64 se) := HK_q_14.out.cell 3
  have cb_q_4 : w14.cell? ⟨w.heap.size, 4, none⟩ = some (.int .i64 dr) := HK_q_14.out.cell 4
  have HK_p_14 : Hid (Bk w14 (w.heap.size + 1) 26 #[.int .i64 p0, .int .i64 p1, .int .i64 p2, .int .i64 p3, .int .i64 p4, .int .i64 p5]) := Lib.hid (HK_p_13.out.chg hb14 (by first | omega | (simp; done) | (simp; omega)))
  clear HK_p_13
  clear cb_p_0 cb_p_1 cb_p_2 cb_p_3 cb_p_4 cb_p_5 zb_p
  have zb_p : w.heap.size + 1 < w14.heap.size := HK_p_14.out.lt
  have cb_p_0 : w14.cell? ⟨w.heap.size + 1, 0, none⟩ = some (.int .i64 p0) := HK_p_14.out.cell 0
  have cb_p_1 : w14.cell? ⟨w.heap.size + 1, 1, none⟩ = some (.int .i64 p1) := HK_p_14.out.cell 1
  have cb_p_2 : w14.cell? ⟨w.heap.size + 1, 2, none⟩ = some (.int .i64 p2) := HK_p_14.out.cell 2
  have cb_p_3 : w14.cell? ⟨w.heap.size + 1, 3, none⟩ = some (.int .i64 p3) := HK_p_14.out.cell 3
  have cb_p_4 : w14.cell? ⟨w.heap.size + 1, 4, none⟩ = some (.int .i64 p4) := HK_p_14.out.cell 4
  have cb_p_5 : w14.cell? ⟨w.heap.size + 1, 5, none⟩ = some (.int .i64 p5) := HK_p_14.out.cell 5
  have HK_w0_14 : Hid (Bk w14 (B_w0) 30 #[.int .i64 xl, .int .i64 xb, .slice A_v M.length cap_v, .int .i64 xs, .int .i64 xd]) := Lib.hid (HK_w0_13.out.chg hb14 (by first | omega | (simp; done) | (simp; omega)))
  clear HK_w0_13
  clear cb_w0_0 cb_w0_1 cb_w0_2 cb_w0_3 cb_w0_4 zb_w0
  have zb_w0 : B_w0 < w14.heap.size := HK_w0_14.out.lt
  have cb_w0_0 : w14.cell? ⟨B_w0, 0, none⟩ = some (.int .i64 xl) := HK_w0_14.out.cell 0
  have cb_w0_1 : w14.cell? ⟨B_w0, 1, none⟩ = some (.int .i64 xb) := HK_w0_14.out.cell 1
  have cb_w0_2 : w14.cell? ⟨B_w0, 2, none⟩ = some (.slice A_v M.length cap_v) := HK_w0_14.out.cell 2
  have cb_w0_3 : w14.cell? ⟨B_w0, 3, none⟩ = some (.int .i64 xs) := HK_w0_14.out.cell 3
  have cb_w0_4 : w14.cell? ⟨B_w0, 4, none⟩ = some (.int .i64 xd) := HK_w0_14.out.cell 4
  have HK_x0_14 : Hid (Bk w14 (w3.heap.size) 30 #[.int .i64 li, .int .i64 by_, .slice A_x n cap_x, .int .i64 se, .int .i64 dr]) := Lib.hid (HK_x0_13.out.chg hb14 (by first | omega | (simp; done) | (simp; omega)))
  clear HK_x0_13
  clear cb_x0_0 cb_x0_1 cb_x0_2 cb_x0_3 cb_x0_4 zb_x0
  have zb_x0 : w3.heap.size < w14.heap.size := HK_x0_14.out.lt
  have cb_x0_0 : w14.cell? ⟨w3.heap.size, 0, none⟩ = some (.int .i64 li) := HK_x0_14.out.cell 0
  have cb_x0_1 : w14.cell? ⟨w3.heap.size, 1, none⟩ = some (.int .i64 by_) := HK_x0_14.out.cell 1
  have cb_x0_2 : w14.cell? ⟨w3.heap.size, 2, none⟩ = some (.slice A_x n cap_x) := HK_x0_14.out.cell 2
  have cb_x0_3 : w14.cell? ⟨w3.heap.size, 3, none⟩ = some (.int .i64 se) := HK_x0_14.out.cell 3
  have cb_x0_4 : w14.cell? ⟨w3.heap.size, 4, none⟩ = some (.int .i64 dr) := HK_x0_14.out.cell 4
  have HK_g0_14 : Hid (Bk w14 (B_g0) 30 #[.int .i64 xl, .int .i64 xb, .slice A_g M.length cap_g, .int .i64 xs, .int .i64 xd]) := Lib.hid (HK_g0_13.out.chg hb14 (by first | omega | (simp; done) | (simp; omega)))
  clear HK_g0_13
  clear cb_g0_0 cb_g0_1 cb_g0_2 cb_g0_3 cb_g0_4 zb_g0
  have zb_g0 : B_g0 < w14.heap.size := HK_g0_14.out.lt
  have cb_g0_0 : w14.cell? ⟨B_g0, 0, none⟩ = some (.int .i64 xl) := HK_g0_14.out.cell 0
  have cb_g0_1 : w14.cell? ⟨B_g0, 1, none⟩ = some (.int .i64 xb) := HK_g0_14.out.cell 1
  have cb_g0_2 : w14.cell? ⟨B_g0, 2, none⟩ = some (.slice A_g M.length cap_g) := HK_g0_14.out.cell 2
  have cb_g0_3 : w14.cell? ⟨B_g0, 3, none⟩ = some (.int .i64 xs) := HK_g0_14.out.cell 3
  have cb_g0_4 : w14.cell? ⟨B_g0, 4, none⟩ = some (.int .i64 xd) := HK_g0_14.out.cell 4
  have HO_v_14 := Lib.hid (HO_v_13.out.chg hb14 (by first | omega | (simp; done) | (simp; omega)))
  clear HO_v_13
  have HO_vi_14 := Lib.hid (HO_vi_13.out.chg hb14 (by first | omega | (simp; done) | (simp; omega)))
  clear HO_vi_13
  have HO_x_14 := Lib.hid (HO_x_13.out.chg hb14 (by first | omega | (simp; done) | (simp; omega)))
  clear HO_x_13
  have HO_g_14 := Lib.hid (HO_g_13.out.chg hb14 (by first | omega | (simp; done) | (simp; omega)))
  clear HO_g_13
  have HO_y_14 := Lib.hid (HO_y_13.out.chg hb14 (by first | omega | (simp; done) | (simp; omega)))
  clear HO_y_13
  have HB_14 := Lib.hid (Chg.below HB_13.out hb14 (by first | omega | (simp; done) | (simp; omega)))
  clear hb14
  clear HO_gi_13
  go_wp2_with fail
  refine (heldQueue_any _ _ _ _ _ _ _ 1 _ HO_g_14.out.row (by omega) (by omega) (by omega)).mono ?_
  rintro e w15 ⟨rfl, hb15⟩
  have z15 := hb15.size
  (try simp at z15)
  have HK_q_15 : Hid (Bk w15 (w.heap.size) 24 #[.int .i64 li, .int .i64 by_, .slice A n cap, .int .i64 se, .int .i64 dr]) := Lib.hid (HK_q_14.out.old hb15)
  clear HK_q_14
  clear cb_q_0 cb_q_1 cb_q_2 cb_q_3 cb_q_4 zb_q
  have zb_q : w.heap.size < w15.heap.size := HK_q_15.out.lt
  have cb_q_0 : w15.cell? ⟨w.heap.size, 0, none⟩ = some (.int .i64 li) := HK_q_15.out.cell 0
  have cb_q_1 : w15.cell? ⟨w.heap.size, 1, none⟩ = some (.int .i64 by_) := HK_q_15.out.cell 1
  have cb_q_2 : w15.cell? ⟨w.heap.size, 2, none⟩ = some (.slice A n cap) := HK_q_15.out.cell 2
  have cb_q_3 : w15.cell? ⟨w.heap.size, 3, none⟩ = some (.int .i64 se) := HK_q_15.out.cell 3
  have cb_q_4 : w15.cell? ⟨w.heap.size, 4, none⟩ = some (.int .i64 dr) := HK_q_15.out.cell 4
  have HK_p_15 : Hid (Bk w15 (w.heap.size + 1) 26 #[.int .i64 p0, .int .i64 p1, .int .i64 p2, .int .i64 p3, .int .i64 p4, .int .i64 p5]) := Lib.hid (HK_p_14.out.old hb15)
  clear HK_p_14
  clear cb_p_0 cb_p_1 cb_p_2 cb_p_3 cb_p_4 cb_p_5 zb_p
  have zb_p : w.heap.size + 1 < w15.heap.size := HK_p_15.out.lt
  have cb_p_0 : w15.cell? ⟨w.heap.size + 1, 0, none⟩ = some (.int .i64 p0) := HK_p_15.out.cell 0
  have cb_p_1 : w15.cell? ⟨w.heap.size + 1, 1, none⟩ = some (.int .i64 p1) := HK_p_15.out.cell 1
  have cb_p_2 : w15.cell? ⟨w.heap.size + 1, 2, none⟩ = some (.int .i64 p2) := HK_p_15.out.cell 2
  have cb_p_3 : w15.cell? ⟨w.heap.size + 1, 3, none⟩ = some (.int .i64 p3) := HK_p_15.out.cell 3
  have cb_p_4 : w15.cell? ⟨w.heap.size + 1, 4, none⟩ = some (.int .i64 p4) := HK_p_15.out.cell 4
  have cb_p_5 : w15.cell? ⟨w.heap.size + 1, 5, none⟩ = some (.int .i64 p5) := HK_p_15.out.cell 5
  have HK_w0_15 : Hid (Bk w15 (B_w0) 30 #[.int .i64 xl, .int .i64 xb, .slice A_v M.length cap_v, .int .i64 xs, .int .i64 xd]) := Lib.hid (HK_w0_14.out.old hb15)
  clear HK_w0_14
  clear cb_w0_0 cb_w0_1 cb_w0_2 cb_w0_3 cb_w0_4 zb_w0
  have zb_w0 : B_w0 < w15.heap.size := HK_w0_15.out.lt
  have cb_w0_0 : w15.cell? ⟨B_w0, 0, none⟩ = some (.int .i64 xl) := HK_w0_15.out.cell 0
  have cb_w0_1 : w15.cell? ⟨B_w0, 1, none⟩ = some (.int .i64 xb) := HK_w0_15.out.cell 1
  have cb_w0_2 : w15.cell? ⟨B_w0, 2, none⟩ = some (.slice A_v M.length cap_v) := HK_w0_15.out.cell 2
  have cb_w0_3 : w15.cell? ⟨B_w0, 3, none⟩ = some (.int .i64 xs) := HK_w0_15.out.cell 3
  have cb_w0_4 : w15.cell? ⟨B_w0, 4, none⟩ = some (.int .i64 xd) := HK_w0_15.out.cell 4
  have HK_x0_15 : Hid (Bk w15 (w3.heap.size) 30 #[.int .i64 li, .int .i64 by_, .slice A_x n cap_x, .int .i64 se, .int .i64 dr]) := Lib.hid (HK_x0_14.out.old hb15)
  clear HK_x0_14
  clear cb_x0_0 cb_x0_1 cb_x0_2 cb_x0_3 cb_x0_4 zb_x0
  have zb_x0 : w3.heap.size < w15.heap.size := HK_x0_15.out.lt
  have cb_x0_0 : w15.cell? ⟨w3.heap.size, 0, none⟩ = some (.int .i64 li) := HK_x0_15.out.cell 0
  have cb_x0_1 : w15.cell? ⟨w3.heap.size, 1, none⟩ = some (.int .i64 by_) := HK_x0_15.out.cell 1
  have cb_x0_2 : w15.cell? ⟨w3.heap.size, 2, none⟩ = some (.slice A_x n cap_x) := HK_x0_15.out.cell 2
  have cb_x0_3 : w15.cell? ⟨w3.heap.size, 3, none⟩ = some (.int .i64 se) := HK_x0_15.out.cell 3
  have cb_x0_4 : w15.cell? ⟨w3.heap.size, 4, none⟩ = some (.int .i64 dr) := HK_x0_15.out.cell 4
  have HK_g0_15 : Hid (Bk w15 (B_g0) 30 #[.int .i64 xl, .int .i64 xb, .slice A_g M.length cap_g, .int .i64 xs, .int .i64 xd]) := Lib.hid (HK_g0_14.out.old hb15)
  clear HK_g0_14
  clear cb_g0_0 cb_g0_1 cb_g0_2 cb_g0_3 cb_g0_4 zb_g0
  have zb_g0 : B_g0 < w15.heap.size := HK_g0_15.out.lt
  have cb_g0_0 : w15.cell? ⟨B_g0, 0, none⟩ = some (.int .i64 xl) := HK_g0_15.out.cell 0
  have cb_g0_1 : w15.cell? ⟨B_g0, 1, none⟩ = some (.int .i64 xb) := HK_g0_15.out.cell 1
  have cb_g0_2 : w15.cell? ⟨B_g0, 2, none⟩ = some (.slice A_g M.length cap_g) := HK_g0_15.out.cell 2
  have cb_g0_3 : w15.cell? ⟨B_g0, 3, none⟩ = some (.int .i64 xs) := HK_g0_15.out.cell 3
  have cb_g0_4 : w15.cell? ⟨B_g0, 4, none⟩ = some (.int .i64 xd) := HK_g0_15.out.cell 4
  have HO_v_15 := Lib.hid (HO_v_14.out.old hb15)
  clear HO_v_14
  have HO_vi_15 := Lib.hid (HO_vi_14.out.old hb15)
  clear HO_vi_14
  have HO_x_15 := Lib.hid (HO_x_14.out.old hb15)
  clear HO_x_14
  have HO_g_15 := Lib.hid (HO_g_14.out.old hb15)
  clear HO_g_14
  have HO_gi_15 := Lib.hid (HO_gi_14.out.old hb15)
  clear HO_gi_14
  have HO_y_15 := Lib.hid (HO_y_14.out.old hb15)
  clear HO_y_14
  have HB_15 := Lib.hid (bt HB_14.out hb15)
  clear hb15
  go_wp2_with fail
  refine (heldIntS_any _ _ _ _ _ HO_gi_15.out.row (by omega) (by omega) (by omega)).mono ?_
  rintro e w16 ⟨rfl, hb16⟩
  have z16 := hb16.size
  (try simp at z16)
  have HK_q_16 : Hid (Bk w16 (w.heap.size) 24 #[.int .i64 li, .int .i64 by_, .slice A n cap, .int .i64 se, .int .i64 dr]) := Lib.hid (HK_q_15.out.old hb16)
  clear HK_q_15
  clear cb_q_0 cb_q_1 cb_q_2 cb_q_3 cb_q_4 zb_q
  have zb_q : w.heap.size < w16.heap.size := HK_q_16.out.lt
  have cb_q_0 : w16.cell? ⟨w.heap.size, 0, none⟩ = some (.int .i64 li) := HK_q_16.out.cell 0
  have cb_q_1 : w16.cell? ⟨w.heap.size, 1, none⟩ = some (.int .i64 by_) := HK_q_16.out.cell 1
  have cb_q_2 : w16.cell? ⟨w.heap.size, 2, none⟩ = some (.slice A n cap) := HK_q_16.out.cell 2
  have cb_q_3 : w16.cell? ⟨w.heap.size, 3, none⟩ = some (.int .i64 se) := HK_q_16.out.cell 3
  have cb_q_4 : w16.cell? ⟨w.heap.size, 4, none⟩ = some (.int .i64 dr) := HK_q_16.out.cell 4
  have HK_p_16 : Hid (Bk w16 (w.heap.size + 1) 26 #[.int .i64 p0, .int .i64 p1, .int .i64 p2, .int .i64 p3, .int .i64 p4, .int .i64 p5]) := Lib.hid (HK_p_15.out.old hb16)
  clear HK_p_15
  clear cb_p_0 cb_p_1 cb_p_2 cb_p_3 cb_p_4 cb_p_5 zb_p
  have zb_p : w.heap.size + 1 < w16.heap.size := HK_p_16.out.lt
  have cb_p_0 : w16.cell? ⟨w.heap.size + 1, 0, none⟩ = some (.int .i64 p0) := HK_p_16.out.cell 0
  have cb_p_1 : w16.cell? ⟨w.heap.size + 1, 1, none⟩ = some (.int .i64 p1) := HK_p_16.out.cell 1
  have cb_p_2 : w16.cell? ⟨w.heap.size + 1, 2, none⟩ = some (.int .i64 p2) := HK_p_16.out.cell 2
  have cb_p_3 : w16.cell? ⟨w.heap.size + 1, 3, none⟩ = some (.int .i64 p3) := HK_p_16.out.cell 3
  have cb_p_4 : w16.cell? ⟨w.heap.size + 1, 4, none⟩ = some (.int .i64 p4) := HK_p_16.out.cell 4
  have cb_p_5 : w16.cell? ⟨w.heap.size + 1, 5, none⟩ = some (.int .i64 p5) := HK_p_16.out.cell 5
  have HK_w0_16 : Hid (Bk w16 (B_w0) 30 #[.int .i64 xl, .int .i64 xb, .slice A_v M.length cap_v, .int .i64 xs, .int .i64 xd]) := Lib.hid (HK_w0_15.out.old hb16)
  clear HK_w0_15
  clear cb_w0_0 cb_w0_1 cb_w0_2 cb_w0_3 cb_w0_4 zb_w0
  have zb_w0 : B_w0 < w16.heap.size := HK_w0_16.out.lt
  have cb_w0_0 : w16.cell? ⟨B_w0, 0, none⟩ = some (.int .i64 xl) := HK_w0_16.out.cell 0
  have cb_w0_1 : w16.cell? ⟨B_w0, 1, none⟩ = some (.int .i64 xb) := HK_w0_16.out.cell 1
  have cb_w0_2 : w16.cell? ⟨B_w0, 2, none⟩ = some (.slice A_v M.length cap_v) := HK_w0_16.out.cell 2
  have cb_w0_3 : w16.cell? ⟨B_w0, 3, none⟩ = some (.int .i64 xs) := HK_w0_16.out.cell 3
  have cb_w0_4 : w16.cell? ⟨B_w0, 4, none⟩ = some (.int .i64 xd) := HK_w0_16.out.cell 4
  have HK_x0_16 : Hid (Bk w16 (w3.heap.size) 30 #[.int .i64 li, .int .i64 by_, .slice A_x n cap_x, .int .i64 se, .int .i64 dr]) := Lib.hid (HK_x0_15.out.old hb16)
  clear HK_x0_15
  clear cb_x0_0 cb_x0_1 cb_x0_2 cb_x0_3 cb_x0_4 zb_x0
  have zb_x0 : w3.heap.size < w16.heap.size := HK_x0_16.out.lt
  have cb_x0_0 : w16.cell? ⟨w3.heap.size, 0, none⟩ = some (.int .i64 li) := HK_x0_16.out.cell 0
  have cb_x0_1 : w16.cell? ⟨w3.heap.size, 1, none⟩ = some (.int .i64 by_) := HK_x0_16.out.cell 1
  have cb_x0_2 : w16.cell? ⟨w3.heap.size, 2, none⟩ = some (.slice A_x n cap_x) := HK_x0_16.out.cell 2
  have cb_x0_3 : w16.cell? ⟨w3.heap.size, 3, none⟩ = some (.int .i64 se) := HK_x0_16.out.cell 3
  have cb_x0_4 : w16.cell? ⟨w3.heap.size, 4, none⟩ = some (.int .i64 dr) := HK_x0_16.out.cell 4
  have HK_g0_16 : Hid (Bk w16 (B_g0) 30 #[.int .i64 xl, .int .i64 xb, .slice A_g M.length cap_g, .int .i64 xs, .int .i64 xd]) := Lib.hid (HK_g0_15.out.old hb16)
  clear HK_g0_15
  clear cb_g0_0 cb_g0_1 cb_g0_2 cb_g0_3 cb_g0_4 zb_g0
  have zb_g0 : B_g0 < w16.heap.size := HK_g0_16.out.lt
  have cb_g0_0 : w16.cell? ⟨B_g0, 0, none⟩ = some (.int .i64 xl) := HK_g0_16.out.cell 0
  have cb_g0_1 : w16.cell? ⟨B_g0, 1, none⟩ = some (.int .i64 xb) := HK_g0_16.out.cell 1
  have cb_g0_2 : w16.cell? ⟨B_g0, 2, none⟩ = some (.slice A_g M.length cap_g) := HK_g0_16.out.cell 2
  have cb_g0_3 : w16.cell? ⟨B_g0, 3, none⟩ = some (.int .i64 xs) := HK_g0_16.out.cell 3
  have cb_g0_4 : w16.cell? ⟨B_g0, 4, none⟩ = some (.int .i64 xd) := HK_g0_16.out.cell 4
  have HO_v_16 := Lib.hid (HO_v_15.out.old hb16)
  clear HO_v_15
  have HO_vi_16 := Lib.hid (HO_vi_15.out.old hb16)
  clear HO_vi_15
  have HO_x_16 := Lib.hid (HO_x_15.out.old hb16)
  clear HO_x_15
  have HO_g_16 := Lib.hid (HO_g_15.out.old hb16)
  clear HO_g_15
  have HO_gi_16 := Lib.hid (HO_gi_15.out.old hb16)
  clear HO_gi_15
  have HO_y_16 := Lib.hid (HO_y_15.out.old hb16)
  clear HO_y_15
  have HB_16 := Lib.hid (bt HB_15.out hb16)
  clear hb16
  go_wp2_with fail
  have HSX := Lib.hid (show ∀ w' : World, Below w16.heap.size w16 w' → (fun w' => w'.cell? ⟨w.heap.size, 0, none⟩ = some (.int .i64 li) ∧ w'.cell? ⟨w.heap.size, 1, none⟩ = some (.int .i64 by_) ∧ w'.cell? ⟨w.heap.size, 2, none⟩ = some (.slice A n cap) ∧ w'.cell? ⟨w.heap.size, 3, none⟩ = some (.int .i64 se) ∧ w'.cell? ⟨w.heap.size, 4, none⟩ = some (.int .i64 dr) ∧ w'.cell? ⟨w.heap.size + 1, 0, none⟩ = some (.int .i64 p0) ∧ w'.cell? ⟨w.heap.size + 1, 1, none⟩ = some (.int .i64 p1) ∧ w'.cell? ⟨w.heap.size + 1, 2, none⟩ = some (.int .i64 p2) ∧ w'.cell? ⟨w.heap.size + 1, 3, none⟩ = some (.int .i64 p3) ∧ w'.cell? ⟨w.heap.size + 1, 4, none⟩ = some (.int .i64 p4) ∧ w'.cell? ⟨w.heap.size + 1, 5, none⟩ = some (.int .i64 p5) ∧ w'.cell? ⟨B_w0, 0, none⟩ = some (.int .i64 xl) ∧ w'.cell? ⟨B_w0, 1, none⟩ = some (.int .i64 xb) ∧ w'.cell? ⟨B_w0, 2, none⟩ = some (.slice A_v M.length cap_v) ∧ w'.cell? ⟨B_w0, 3, none⟩ = some (.int .i64 xs) ∧ w'.cell? ⟨B_w0, 4, none⟩ = some (.int .i64 xd) ∧ w'.cell? ⟨w3.heap.size, 0, none⟩ = some (.int .i64 li) ∧ w'.cell? ⟨w3.heap.size, 1, none⟩ = some (.int .i64 by_) ∧ w'.cell? ⟨w3.heap.size, 2, none⟩ = some (.slice A_x n cap_x) ∧ w'.cell? ⟨w3.heap.size, 3, none⟩ = some (.int .i64 se) ∧ w'.cell? ⟨w3.heap.size, 4, none⟩ = some (.int .i64 dr) ∧ w'.cell? ⟨B_g0, 0, none⟩ = some (.int .i64 xl) ∧ w'.cell? ⟨B_g0, 1, none⟩ = some (.int .i64 xb) ∧ w'.cell? ⟨B_g0, 2, none⟩ = some (.slice A_g M.length cap_g) ∧ w'.cell? ⟨B_g0, 3, none⟩ = some (.int .i64 xs) ∧ w'.cell? ⟨B_g0, 4, none⟩ = some (.int .i64 xd)) w' from fun w' hb => ⟨(bkeep hb _ _ zb_q).trans cb_q_0, (bkeep hb _ _ zb_q).trans cb_q_1, (bkeep hb _ _ zb_q).trans cb_q_2, (bkeep hb _ _ zb_q).trans cb_q_3, (bkeep hb _ _ zb_q).trans cb_q_4, (bkeep hb _ _ zb_p).trans cb_p_0, (bkeep hb _ _ zb_p).trans cb_p_1, (bkeep hb _ _ zb_p).trans cb_p_2, (bkeep hb _ _ zb_p).trans cb_p_3, (bkeep hb _ _ zb_p).trans cb_p_4, (bkeep hb _ _ zb_p).trans cb_p_5, (bkeep hb _ _ zb_w0).trans cb_w0_0, (bkeep hb _ _ zb_w0).trans cb_w0_1, (bkeep hb _ _ zb_w0).trans cb_w0_2, (bkeep hb _ _ zb_w0).trans cb_w0_3, (bkeep hb _ _ zb_w0).trans cb_w0_4, (bkeep hb _ _ zb_x0).trans cb_x0_0, (bkeep hb _ _ zb_x0).trans cb_x0_1, (bkeep hb _ _ zb_x0).trans cb_x0_2, (bkeep hb _ _ zb_x0).trans cb_x0_3, (bkeep hb _ _ zb_x0).trans cb_x0_4, (bkeep hb _ _ zb_g0).trans cb_g0_0, (bkeep hb _ _ zb_g0).trans cb_g0_1, (bkeep hb _ _ zb_g0).trans cb_g0_2, (bkeep hb _ _ zb_g0).trans cb_g0_3, (bkeep hb _ _ zb_g0).trans cb_g0_4⟩)
  have HRW_a := Lib.hid (fun (W : World) (hb : Below w16.heap.size w16 W) => (HR_a.out.below HB_16.out).below hb)
  go_cut [16, 17, 18] (fun a16 a17 a18 wx => ∃ (B_h0 : Nat) (n_hi : Nat) (A_h : Option Addr) (cap_h : Nat) (lo_h : Nat) (hi_h : Nat) (A_hi : Option Addr) (cap_hi : Nat) (lo_hi : Nat) (hi_hi : Nat), a16 = .pointer (some ⟨B_h0, 0, none⟩) ∧ a17 = .slice A_hi n_hi cap_hi ∧ a18 = .bool ok ∧ (w16.heap.size ≤ B_h0 ∧ Bk wx B_h0 30 #[.int .i64 xl, .int .i64 xb, .slice A_h M.length cap_h, .int .i64 xs, .int .i64 xd]) ∧ IOwn wx lo_h hi_h 35 6 A_h M.length cap_h (fl M) ∧ (w16.heap.size ≤ lo_h ∧ hi_h ≤ wx.heap.size ∧ (B_h0 < lo_h ∨ hi_h ≤ B_h0)) ∧ IOwn wx lo_hi hi_hi 3 1 A_hi n_hi cap_hi ids ∧ (w16.heap.size ≤ lo_hi ∧ hi_hi ≤ wx.heap.size ∧ (B_h0 < lo_hi ∨ hi_hi ≤ B_h0)) ∧ (hi_h ≤ lo_hi ∨ hi_hi ≤ lo_h) ∧ Below w16.heap.size w16 wx)
  case first =>
    go_region_held3 (fun w' => w'.cell? ⟨w.heap.size, 0, none⟩ = some (.int .i64 li) ∧ w'.cell? ⟨w.heap.size, 1, none⟩ = some (.int .i64 by_) ∧ w'.cell? ⟨w.heap.size, 2, none⟩ = some (.slice A n cap) ∧ w'.cell? ⟨w.heap.size, 3, none⟩ = some (.int .i64 se) ∧ w'.cell? ⟨w.heap.size, 4, none⟩ = some (.int .i64 dr) ∧ w'.cell? ⟨w.heap.size + 1, 0, none⟩ = some (.int .i64 p0) ∧ w'.cell? ⟨w.heap.size + 1, 1, none⟩ = some (.int .i64 p1) ∧ w'.cell? ⟨w.heap.size + 1, 2, none⟩ = some (.int .i64 p2) ∧ w'.cell? ⟨w.heap.size + 1, 3, none⟩ = some (.int .i64 p3) ∧ w'.cell? ⟨w.heap.size + 1, 4, none⟩ = some (.int .i64 p4) ∧ w'.cell? ⟨w.heap.size + 1, 5, none⟩ = some (.int .i64 p5) ∧ w'.cell? ⟨B_w0, 0, none⟩ = some (.int .i64 xl) ∧ w'.cell? ⟨B_w0, 1, none⟩ = some (.int .i64 xb) ∧ w'.cell? ⟨B_w0, 2, none⟩ = some (.slice A_v M.length cap_v) ∧ w'.cell? ⟨B_w0, 3, none⟩ = some (.int .i64 xs) ∧ w'.cell? ⟨B_w0, 4, none⟩ = some (.int .i64 xd) ∧ w'.cell? ⟨w3.heap.size, 0, none⟩ = some (.int .i64 li) ∧ w'.cell? ⟨w3.heap.size, 1, none⟩ = some (.int .i64 by_) ∧ w'.cell? ⟨w3.heap.size, 2, none⟩ = some (.slice A_x n cap_x) ∧ w'.cell? ⟨w3.heap.size, 3, none⟩ = some (.int .i64 se) ∧ w'.cell? ⟨w3.heap.size, 4, none⟩ = some (.int .i64 dr) ∧ w'.cell? ⟨B_g0, 0, none⟩ = some (.int .i64 xl) ∧ w'.cell? ⟨B_g0, 1, none⟩ = some (.int .i64 xb) ∧ w'.cell? ⟨B_g0, 2, none⟩ = some (.slice A_g M.length cap_g) ∧ w'.cell? ⟨B_g0, 3, none⟩ = some (.int .i64 xs) ∧ w'.cell? ⟨B_g0, 4, none⟩ = some (.int .i64 xd)) (exact HSX.out _ (by repeat (first | (with_reducible exact b0 _) | (with_reducible refine ba ?_ _) | (with_reducible refine bd ?_ _) | (with_reducible refine Below.drew ?_) | (with_reducible refine bsB ?_ (by first | exact Nat.le_refl _ | exact Nat.le_add_right _ _ | omega)) | (with_reducible refine bt ?_ (by assumption)))))
      (first
        | (go_at_call 14; refine (toQueue_any _ _ _ _ _ _ _ L _ HLL.out (HRW_a.out _ (by repeat (first | (with_reducible exact b0 _) | (with_reducible refine ba ?_ _) | (with_reducible refine bd ?_ _) | (with_reducible refine Below.drew ?_) | (with_reducible refine bsB ?_ (by first | exact Nat.le_refl _ | exact Nat.le_add_right _ _ | omega)) | (with_reducible refine bt ?_ (by assumption))))) (by omega)).mono ?_; rintro e v0 ⟨A_z, cap_z, rfl, ho_z, hbr0⟩; have zz0 := hbr0.size; (try simp at zz0); (try (have rx0_0 := fun o => bkeep hbr0 (w16.heap.size) o (by first | omega | (simp; done) | (simp; omega)); have rf0_0 := fun o => bfree hbr0 (w16.heap.size) o (by first | omega | (simp; done) | (simp; omega)))))
        | (go_at_call 15; refine (toPacket_any _ _ _ _ _ _ _).mono ?_; rintro e v1 ⟨rfl, hbr1⟩; have zz1 := hbr1.size; (try simp at zz1); (try (have rx1_0 := fun o => bkeep hbr1 (w16.heap.size) o (by first | omega | (simp; done) | (simp; omega)); have rf1_0 := fun o => bfree hbr1 (w16.heap.size) o (by first | omega | (simp; done) | (simp; omega)))); (try (have rx1_1 := fun o => bkeep hbr1 (v0.heap.size) o (by first | omega | (simp; done) | (simp; omega)); have rf1_1 := fun o => bfree hbr1 (v0.heap.size) o (by first | omega | (simp; done) | (simp; omega)))))
        | (go_at_call 35; refine (HIM.out _ _ _ (ho_z.row.below (by repeat (first | (with_reducible exact b0 _) | (with_reducible refine ba ?_ _) | (with_reducible refine bd ?_ _) | (with_reducible refine Below.drew ?_) | (with_reducible refine bsB ?_ (by first | exact Nat.le_refl _ | exact Nat.le_add_right _ _ | omega)) | (with_reducible refine bt ?_ (by assumption))))) (by omega) ho_z.cap ho_z.none_cap).mono ?_; rintro e v2 ⟨A_h, cap_h, A_hi, n_hi, cap_hi, a1_h, b1_h, a2_h, b2_h, rfl, ho_h, ho_hi, t1_h, t2_h, t3_h, t4_h, t5_h, hbr2⟩; have zz2 := hbr2.size; (try simp at zz2); (try (have rx2_0 := fun o => bkeep hbr2 (w16.heap.size) o (by first | omega | (simp; done) | (simp; omega)); have rf2_0 := fun o => bfree hbr2 (w16.heap.size) o (by first | omega | (simp; done) | (simp; omega)))); (try (have rx2_1 := fun o => bkeep hbr2 (v0.heap.size) o (by first | omega | (simp; done) | (simp; omega)); have rf2_1 := fun o => bfree hbr2 (v0.heap.size) o (by first | omega | (simp; done) | (simp; omega)))); (try (have rx2_2 := fun o => bkeep hbr2 (v1.heap.size) o (by first | omega | (simp; done) | (simp; omega)); have rf2_2 := fun o => bfree hbr2 (v1.heap.size) o (by first | omega | (simp; done) | (simp; omega)))); obtain ⟨lo_h, hi_h, tl_h, th_h, ho_h⟩ := own_ex ho_h; (try simp at tl_h); (try simp at th_h); obtain ⟨lo_hi, hi_hi, tl_hi, th_hi, ho_hi⟩ := own_ex ho_hi; (try simp at tl_hi); (try simp at th_hi); (try simp at t1_h); (try simp at t3_h)))
    all_goals (go_wp2_with fail; go_meet; clear HSX; first | ((with_reducible refine ⟨v2.heap.size, n_hi, A_h, cap_h, lo_h, hi_h, A_hi, cap_hi, lo_hi, hi_hi, rfl, rfl, rfl, ?_⟩); (with_reducible refine Fin5.close2 (Fin5.new ?_) ho_h ?_ ?_ ?_ ho_hi ?_ ?_ ?_ ?_); all_goals first | omega | exact (by repeat (first | (with_reducible exact b0 _) | (with_reducible refine ba ?_ _) | (with_reducible refine bd ?_ _) | (with_reducible refine Below.drew ?_) | (with_reducible refine bsB ?_ (by first | exact Nat.le_refl _ | exact Nat.le_add_right _ _ | omega)) | (with_reducible refine bt ?_ (by assumption))))) | ((with_reducible refine ⟨v1.heap.size, n_hi, A_h, cap_h, lo_h, hi_h, A_hi, cap_hi, lo_hi, hi_hi, rfl, rfl, rfl, ?_⟩); (with_reducible refine Fin5.close2 (Fin5.old5 ?_ (show Bk v2 (v1.heap.size) 30 _ from ((Bk.new_ rfl).old hbr2)) ?_) ho_h ?_ ?_ ?_ ho_hi ?_ ?_ ?_ ?_); all_goals first | omega | exact (by repeat (first | (with_reducible exact b0 _) | (with_reducible refine ba ?_ _) | (with_reducible refine bd ?_ _) | (with_reducible refine Below.drew ?_) | (with_reducible refine bsB ?_ (by first | exact Nat.le_refl _ | exact Nat.le_add_right _ _ | omega)) | (with_reducible refine bt ?_ (by assumption))))) | ((with_reducible refine ⟨v0.heap.size, n_hi, A_h, cap_h, lo_h, hi_h, A_hi, cap_hi, lo_hi, hi_hi, rfl, rfl, rfl, ?_⟩); (with_reducible refine Fin5.close2 (Fin5.old5 ?_ (show Bk v2 (v0.heap.size) 30 _ from (((Bk.new_ rfl).old hbr1).old hbr2)) ?_) ho_h ?_ ?_ ?_ ho_hi ?_ ?_ ?_ ?_); all_goals first | omega | exact (by repeat (first | (with_reducible exact b0 _) | (with_reducible refine ba ?_ _) | (with_reducible refine bd ?_ _) | (with_reducible refine Below.drew ?_) | (with_reducible refine bsB ?_ (by first | exact Nat.le_refl _ | exact Nat.le_add_right _ _ | omega)) | (with_reducible refine bt ?_ (by assumption))))) | ((with_reducible refine ⟨w16.heap.size, n_hi, A_h, cap_h, lo_h, hi_h, A_hi, cap_hi, lo_hi, hi_hi, rfl, rfl, rfl, ?_⟩); (with_reducible refine Fin5.close2 (Fin5.old5 ?_ (show Bk v2 (w16.heap.size) 30 _ from ((((Bk.new_ rfl).old hbr0).old hbr1).old hbr2)) ?_) ho_h ?_ ?_ ?_ ho_hi ?_ ?_ ?_ ?_); all_goals first | omega | exact (by repeat (first | (with_reducible exact b0 _) | (with_reducible refine ba ?_ _) | (with_reducible refine bd ?_ _) | (with_reducible refine Below.drew ?_) | (with_reducible refine bsB ?_ (by first | exact Nat.le_refl _ | exact Nat.le_add_right _ _ | omega)) | (with_reducible refine bt ?_ (by assumption))))) | ((with_reducible refine ⟨w16.heap.size, n_hi, A_h, cap_h, lo_h, hi_h, A_hi, cap_hi, lo_hi, hi_hi, rfl, rfl, rfl, ?_⟩); (with_reducible refine Fin5.close2 (Fin5.old5 ?_ (show Bk v2 (w16.heap.size) 30 _ from ((((Bk.new_ rfl).drew.old hbr0).old hbr1).old hbr2)) ?_) ho_h ?_ ?_ ?_ ho_hi ?_ ?_ ?_ ?_); all_goals first | omega | exact (by repeat (first | (with_reducible exact b0 _) | (with_reducible refine ba ?_ _) | (with_reducible refine bd ?_ _) | (with_reducible refine Below.drew ?_) | (with_reducible refine bsB ?_ (by first | exact Nat.le_refl _ | exact Nat.le_add_right _ _ | omega)) | (with_reducible refine bt ?_ (by assumption))))))
  obtain ⟨w17, hwc⟩ : ∃ x, x = wc := ⟨_, rfl⟩
  subst hwc
  obtain ⟨B_h0, n_hi, A_h, cap_h, lo_h, hi_h, A_hi, cap_hi, lo_hi, hi_hi, rfl, rfl, rfl, ⟨lb_h0, hk_h0⟩, ho_h, ⟨tl_h, th_h, ts_h⟩, ho_hi, ⟨tl_hi, th_hi, ts_hi⟩, sp_h_hi, hb17⟩ := hcut
  clear HRW_a
  clear HSX
  have HN_h := Lib.hid ho_h.len
  have HO_h_17 := Lib.hid ho_h
  clear ho_h
  have HN_hi := Lib.hid ho_hi.len
  have HO_hi_17 := Lib.hid ho_hi
  clear ho_hi
  have z17 := hb17.size
  (try simp at z17)
  have HK_q_17 : Hid (Bk w17 (w.heap.size) 24 #[.int .i64 li, .int .i64 by_, .slice A n cap, .int .i64 se, .int .i64 dr]) := Lib.hid (HK_q_16.out.old hb17)
  clear HK_q_16
  clear cb_q_0 cb_q_1 cb_q_2 cb_q_3 cb_q_4 zb_q
  have zb_q : w.heap.size < w17.heap.size := HK_q_17.out.lt
  have cb_q_0 : w17.cell? ⟨w.heap.size, 0, none⟩ = some (.int .i64 li) := HK_q_17.out.cell 0
  have cb_q_1 : w17.cell? ⟨w.heap.size, 1, none⟩ = some (.int .i64 by_) := HK_q_17.out.cell 1
  have cb_q_2 : w17.cell? ⟨w.heap.size, 2, none⟩ = some (.slice A n cap) := HK_q_17.out.cell 2
  have cb_q_3 : w17.cell? ⟨w.heap.size, 3, none⟩ = some (.int .i64 se) := HK_q_17.out.cell 3
  have cb_q_4 : w17.cell? ⟨w.heap.size, 4, none⟩ = some (.int .i64 dr) := HK_q_17.out.cell 4
  have HK_p_17 : Hid (Bk w17 (w.heap.size + 1) 26 #[.int .i64 p0, .int .i64 p1, .int .i64 p2, .int .i64 p3, .int .i64 p4, .int .i64 p5]) := Lib.hid (HK_p_16.out.old hb17)
  clear HK_p_16
  clear cb_p_0 cb_p_1 cb_p_2 cb_p_3 cb_p_4 cb_p_5 zb_p
  have zb_p : w.heap.size + 1 < w17.heap.size := HK_p_17.out.lt
  have cb_p_0 : w17.cell? ⟨w.heap.size + 1, 0, none⟩ = some (.int .i64 p0) := HK_p_17.out.cell 0
  have cb_p_1 : w17.cell? ⟨w.heap.size + 1, 1, none⟩ = some (.int .i64 p1) := HK_p_17.out.cell 1
  have cb_p_2 : w17.cell? ⟨w.heap.size + 1, 2, none⟩ = some (.int .i64 p2) := HK_p_17.out.cell 2
  have cb_p_3 : w17.cell? ⟨w.heap.size + 1, 3, none⟩ = some (.int .i64 p3) := HK_p_17.out.cell 3
  have cb_p_4 : w17.cell? ⟨w.heap.size + 1, 4, none⟩ = some (.int .i64 p4) := HK_p_17.out.cell 4
  have cb_p_5 : w17.cell? ⟨w.heap.size + 1, 5, none⟩ = some (.int .i64 p5) := HK_p_17.out.cell 5
  have HK_w0_17 : Hid (Bk w17 (B_w0) 30 #[.int .i64 xl, .int .i64 xb, .slice A_v M.length cap_v, .int .i64 xs, .int .i64 xd]) := Lib.hid (HK_w0_16.out.old hb17)
  clear HK_w0_16
  clear cb_w0_0 cb_w0_1 cb_w0_2 cb_w0_3 cb_w0_4 zb_w0
  have zb_w0 : B_w0 < w17.heap.size := HK_w0_17.out.lt
  have cb_w0_0 : w17.cell? ⟨B_w0, 0, none⟩ = some (.int .i64 xl) := HK_w0_17.out.cell 0
  have cb_w0_1 : w17.cell? ⟨B_w0, 1, none⟩ = some (.int .i64 xb) := HK_w0_17.out.cell 1
  have cb_w0_2 : w17.cell? ⟨B_w0, 2, none⟩ = some (.slice A_v M.length cap_v) := HK_w0_17.out.cell 2
  have cb_w0_3 : w17.cell? ⟨B_w0, 3, none⟩ = some (.int .i64 xs) := HK_w0_17.out.cell 3
  have cb_w0_4 : w17.cell? ⟨B_w0, 4, none⟩ = some (.int .i64 xd) := HK_w0_17.out.cell 4
  have HK_x0_17 : Hid (Bk w17 (w3.heap.size) 30 #[.int .i64 li, .int .i64 by_, .slice A_x n cap_x, .int .i64 se, .int .i64 dr]) := Lib.hid (HK_x0_16.out.old hb17)
  clear HK_x0_16
  clear cb_x0_0 cb_x0_1 cb_x0_2 cb_x0_3 cb_x0_4 zb_x0
  have zb_x0 : w3.heap.size < w17.heap.size := HK_x0_17.out.lt
  have cb_x0_0 : w17.cell? ⟨w3.heap.size, 0, none⟩ = some (.int .i64 li) := HK_x0_17.out.cell 0
  have cb_x0_1 : w17.cell? ⟨w3.heap.size, 1, none⟩ = some (.int .i64 by_) := HK_x0_17.out.cell 1
  have cb_x0_2 : w17.cell? ⟨w3.heap.size, 2, none⟩ = some (.slice A_x n cap_x) := HK_x0_17.out.cell 2
  have cb_x0_3 : w17.cell? ⟨w3.heap.size, 3, none⟩ = some (.int .i64 se) := HK_x0_17.out.cell 3
  have cb_x0_4 : w17.cell? ⟨w3.heap.size, 4, none⟩ = some (.int .i64 dr) := HK_x0_17.out.cell 4
  have HK_g0_17 : Hid (Bk w17 (B_g0) 30 #[.int .i64 xl, .int .i64 xb, .slice A_g M.length cap_g, .int .i64 xs, .int .i64 xd]) := Lib.hid (HK_g0_16.out.old hb17)
  clear HK_g0_16
  clear cb_g0_0 cb_g0_1 cb_g0_2 cb_g0_3 cb_g0_4 zb_g0
  have zb_g0 : B_g0 < w17.heap.size := HK_g0_17.out.lt
  have cb_g0_0 : w17.cell? ⟨B_g0, 0, none⟩ = some (.int .i64 xl) := HK_g0_17.out.cell 0
  have cb_g0_1 : w17.cell? ⟨B_g0, 1, none⟩ = some (.int .i64 xb) := HK_g0_17.out.cell 1
  have cb_g0_2 : w17.cell? ⟨B_g0, 2, none⟩ = some (.slice A_g M.length cap_g) := HK_g0_17.out.cell 2
  have cb_g0_3 : w17.cell? ⟨B_g0, 3, none⟩ = some (.int .i64 xs) := HK_g0_17.out.cell 3
  have cb_g0_4 : w17.cell? ⟨B_g0, 4, none⟩ = some (.int .i64 xd) := HK_g0_17.out.cell 4
  have HO_v_17 := Lib.hid (HO_v_16.out.old hb17)
  clear HO_v_16
  have HO_vi_17 := Lib.hid (HO_vi_16.out.old hb17)
  clear HO_vi_16
  have HO_x_17 := Lib.hid (HO_x_16.out.old hb17)
  clear HO_x_16
  have HO_g_17 := Lib.hid (HO_g_16.out.old hb17)
  clear HO_g_16
  have HO_gi_17 := Lib.hid (HO_gi_16.out.old hb17)
  clear HO_gi_16
  have HO_y_17 := Lib.hid (HO_y_16.out.old hb17)
  clear HO_y_16
  have HB_17 := Lib.hid (bt HB_16.out hb17)
  clear hb17
  have HK_h0_17 := Lib.hid hk_h0
  clear hk_h0
  have zb_h0 : B_h0 < w17.heap.size := HK_h0_17.out.lt
  have zy_h0 := zb_h0
  have cb_h0_0 : w17.cell? ⟨B_h0, 0, none⟩ = some (.int .i64 xl) := HK_h0_17.out.cell 0
  have cb_h0_1 : w17.cell? ⟨B_h0, 1, none⟩ = some (.int .i64 xb) := HK_h0_17.out.cell 1
  have cb_h0_2 : w17.cell? ⟨B_h0, 2, none⟩ = some (.slice A_h M.length cap_h) := HK_h0_17.out.cell 2
  have cb_h0_3 : w17.cell? ⟨B_h0, 3, none⟩ = some (.int .i64 xs) := HK_h0_17.out.cell 3
  have cb_h0_4 : w17.cell? ⟨B_h0, 4, none⟩ = some (.int .i64 xd) := HK_h0_17.out.cell 4
  obtain rfl : n_hi = n_gi := by have := HN_hi.out; have := HG.out; omega
  go_wp2_with fail
  refine (eqQueue_any _ _ _ _ _ _ _ _ _ (fl M) _ HMM.out HO_h_17.out.row HO_v_17.out.row (by omega)).mono ?_
  rintro e w18 ⟨rfl, hb18⟩
  have z18 := hb18.size
  (try simp at z18)
  have HK_q_18 : Hid (Bk w18 (w.heap.size) 24 #[.int .i64 li, .int .i64 by_, .slice A n cap, .int .i64 se, .int .i64 dr]) := Lib.hid (HK_q_17.out.old hb18)
  clear HK_q_17
  clear cb_q_0 cb_q_1 cb_q_2 cb_q_3 cb_q_4 zb_q
  have zb_q : w.heap.size < w18.heap.size := HK_q_18.out.lt
  have cb_q_0 : w18.cell? ⟨w.heap.size, 0, none⟩ = some (.int .i64 li) := HK_q_18.out.cell 0
  have cb_q_1 : w18.cell? ⟨w.heap.size, 1, none⟩ = some (.int .i64 by_) := HK_q_18.out.cell 1
  have cb_q_2 : w18.cell? ⟨w.heap.size, 2, none⟩ = some (.slice A n cap) := HK_q_18.out.cell 2
  have cb_q_3 : w18.cell? ⟨w.heap.size, 3, none⟩ = some (.int .i64 se) := HK_q_18.out.cell 3
  have cb_q_4 : w18.cell? ⟨w.heap.size, 4, none⟩ = some (.int .i64 dr) := HK_q_18.out.cell 4
  have HK_p_18 : Hid (Bk w18 (w.heap.size + 1) 26 #[.int .i64 p0, .int .i64 p1, .int .i64 p2, .int .i64 p3, .int .i64 p4, .int .i64 p5]) := Lib.hid (HK_p_17.out.old hb18)
  clear HK_p_17
  clear cb_p_0 cb_p_1 cb_p_2 cb_p_3 cb_p_4 cb_p_5 zb_p
  have zb_p : w.heap.size + 1 < w18.heap.size := HK_p_18.out.lt
  have cb_p_0 : w18.cell? ⟨w.heap.size + 1, 0, none⟩ = some (.int .i64 p0) := HK_p_18.out.cell 0
  have cb_p_1 : w18.cell? ⟨w.heap.size + 1, 1, none⟩ = some (.int .i64 p1) := HK_p_18.out.cell 1
  have cb_p_2 : w18.cell? ⟨w.heap.size + 1, 2, none⟩ = some (.int .i64 p2) := HK_p_18.out.cell 2
  have cb_p_3 : w18.cell? ⟨w.heap.size + 1, 3, none⟩ = some (.int .i64 p3) := HK_p_18.out.cell 3
  have cb_p_4 : w18.cell? ⟨w.heap.size + 1, 4, none⟩ = some (.int .i64 p4) := HK_p_18.out.cell 4
  have cb_p_5 : w18.cell? ⟨w.heap.size + 1, 5, none⟩ = some (.int .i64 p5) := HK_p_18.out.cell 5
  have HK_w0_18 : Hid (Bk w18 (B_w0) 30 #[.int .i64 xl, .int .i64 xb, .slice A_v M.length cap_v, .int .i64 xs, .int .i64 xd]) := Lib.hid (HK_w0_17.out.old hb18)
  clear HK_w0_17
  clear cb_w0_0 cb_w0_1 cb_w0_2 cb_w0_3 cb_w0_4 zb_w0
  have zb_w0 : B_w0 < w18.heap.size := HK_w0_18.out.lt
  have cb_w0_0 : w18.cell? ⟨B_w0, 0, none⟩ = some (.int .i64 xl) := HK_w0_18.out.cell 0
  have cb_w0_1 : w18.cell? ⟨B_w0, 1, none⟩ = some (.int .i64 xb) := HK_w0_18.out.cell 1
  have cb_w0_2 : w18.cell? ⟨B_w0, 2, none⟩ = some (.slice A_v M.length cap_v) := HK_w0_18.out.cell 2
  have cb_w0_3 : w18.cell? ⟨B_w0, 3, none⟩ = some (.int .i64 xs) := HK_w0_18.out.cell 3
  have cb_w0_4 : w18.cell? ⟨B_w0, 4, none⟩ = some (.int .i64 xd) := HK_w0_18.out.cell 4
  have HK_x0_18 : Hid (Bk w18 (w3.heap.size) 30 #[.int .i64 li, .int .i64 by_, .slice A_x n cap_x, .int .i64 se, .int .i64 dr]) := Lib.hid (HK_x0_17.out.old hb18)
  clear HK_x0_17
  clear cb_x0_0 cb_x0_1 cb_x0_2 cb_x0_3 cb_x0_4 zb_x0
  have zb_x0 : w3.heap.size < w18.heap.size := HK_x0_18.out.lt
  have cb_x0_0 : w18.cell? ⟨w3.heap.size, 0, none⟩ = some (.int .i64 li) := HK_x0_18.out.cell 0
  have cb_x0_1 : w18.cell? ⟨w3.heap.size, 1, none⟩ = some (.int .i64 by_) := HK_x0_18.out.cell 1
  have cb_x0_2 : w18.cell? ⟨w3.heap.size, 2, none⟩ = some (.slice A_x n cap_x) := HK_x0_18.out.cell 2
  have cb_x0_3 : w18.cell? ⟨w3.heap.size, 3, none⟩ = some (.int .i64 se) := HK_x0_18.out.cell 3
  have cb_x0_4 : w18.cell? ⟨w3.heap.size, 4, none⟩ = some (.int .i64 dr) := HK_x0_18.out.cell 4
  have HK_g0_18 : Hid (Bk w18 (B_g0) 30 #[.int .i64 xl, .int .i64 xb, .slice A_g M.length cap_g, .int .i64 xs, .int .i64 xd]) := Lib.hid (HK_g0_17.out.old hb18)
  clear HK_g0_17
  clear cb_g0_0 cb_g0_1 cb_g0_2 cb_g0_3 cb_g0_4 zb_g0
  have zb_g0 : B_g0 < w18.heap.size := HK_g0_18.out.lt
  have cb_g0_0 : w18.cell? ⟨B_g0, 0, none⟩ = some (.int .i64 xl) := HK_g0_18.out.cell 0
  have cb_g0_1 : w18.cell? ⟨B_g0, 1, none⟩ = some (.int .i64 xb) := HK_g0_18.out.cell 1
  have cb_g0_2 : w18.cell? ⟨B_g0, 2, none⟩ = some (.slice A_g M.length cap_g) := HK_g0_18.out.cell 2
  have cb_g0_3 : w18.cell? ⟨B_g0, 3, none⟩ = some (.int .i64 xs) := HK_g0_18.out.cell 3
  have cb_g0_4 : w18.cell? ⟨B_g0, 4, none⟩ = some (.int .i64 xd) := HK_g0_18.out.cell 4
  have HK_h0_18 : Hid (Bk w18 (B_h0) 30 #[.int .i64 xl, .int .i64 xb, .slice A_h M.length cap_h, .int .i64 xs, .int .i64 xd]) := Lib.hid (HK_h0_17.out.old hb18)
  clear HK_h0_17
  clear cb_h0_0 cb_h0_1 cb_h0_2 cb_h0_3 cb_h0_4 zb_h0
  have zb_h0 : B_h0 < w18.heap.size := HK_h0_18.out.lt
  have cb_h0_0 : w18.cell? ⟨B_h0, 0, none⟩ = some (.int .i64 xl) := HK_h0_18.out.cell 0
  have cb_h0_1 : w18.cell? ⟨B_h0, 1, none⟩ = some (.int .i64 xb) := HK_h0_18.out.cell 1
  have cb_h0_2 : w18.cell? ⟨B_h0, 2, none⟩ = some (.slice A_h M.length cap_h) := HK_h0_18.out.cell 2
  have cb_h0_3 : w18.cell? ⟨B_h0, 3, none⟩ = some (.int .i64 xs) := HK_h0_18.out.cell 3
  have cb_h0_4 : w18.cell? ⟨B_h0, 4, none⟩ = some (.int .i64 xd) := HK_h0_18.out.cell 4
  have HO_v_18 := Lib.hid (HO_v_17.out.old hb18)
  clear HO_v_17
  have HO_vi_18 := Lib.hid (HO_vi_17.out.old hb18)
  clear HO_vi_17
  have HO_x_18 := Lib.hid (HO_x_17.out.old hb18)
  clear HO_x_17
  have HO_g_18 := Lib.hid (HO_g_17.out.old hb18)
  clear HO_g_17
  have HO_gi_18 := Lib.hid (HO_gi_17.out.old hb18)
  clear HO_gi_17
  have HO_y_18 := Lib.hid (HO_y_17.out.old hb18)
  clear HO_y_17
  have HO_h_18 := Lib.hid (HO_h_17.out.old hb18)
  clear HO_h_17
  have HO_hi_18 := Lib.hid (HO_hi_17.out.old hb18)
  clear HO_hi_17
  have HB_18 := Lib.hid (bt HB_17.out hb18)
  clear hb18
  go_wp2_with fail
  refine (eqIntS_any _ _ _ _ _ ids _ HG.out (by omega) HO_hi_18.out.row HO_vi_18.out.row).mono ?_
  rintro e w19 ⟨rfl, hb19⟩
  have z19 := hb19.size
  (try simp at z19)
  have HK_q_19 : Hid (Bk w19 (w.heap.size) 24 #[.int .i64 li, .int .i64 by_, .slice A n cap, .int .i64 se, .int .i64 dr]) := Lib.hid (HK_q_18.out.old hb19)
  clear HK_q_18
  clear cb_q_0 cb_q_1 cb_q_2 cb_q_3 cb_q_4 zb_q
  have zb_q : w.heap.size < w19.heap.size := HK_q_19.out.lt
  have cb_q_0 : w19.cell? ⟨w.heap.size, 0, none⟩ = some (.int .i64 li) := HK_q_19.out.cell 0
  have cb_q_1 : w19.cell? ⟨w.heap.size, 1, none⟩ = some (.int .i64 by_) := HK_q_19.out.cell 1
  have cb_q_2 : w19.cell? ⟨w.heap.size, 2, none⟩ = some (.slice A n cap) := HK_q_19.out.cell 2
  have cb_q_3 : w19.cell? ⟨w.heap.size, 3, none⟩ = some (.int .i64 se) := HK_q_19.out.cell 3
  have cb_q_4 : w19.cell? ⟨w.heap.size, 4, none⟩ = some (.int .i64 dr) := HK_q_19.out.cell 4
  have HK_p_19 : Hid (Bk w19 (w.heap.size + 1) 26 #[.int .i64 p0, .int .i64 p1, .int .i64 p2, .int .i64 p3, .int .i64 p4, .int .i64 p5]) := Lib.hid (HK_p_18.out.old hb19)
  clear HK_p_18
  clear cb_p_0 cb_p_1 cb_p_2 cb_p_3 cb_p_4 cb_p_5 zb_p
  have zb_p : w.heap.size + 1 < w19.heap.size := HK_p_19.out.lt
  have cb_p_0 : w19.cell? ⟨w.heap.size + 1, 0, none⟩ = some (.int .i64 p0) := HK_p_19.out.cell 0
  have cb_p_1 : w19.cell? ⟨w.heap.size + 1, 1, none⟩ = some (.int .i64 p1) := HK_p_19.out.cell 1
  have cb_p_2 : w19.cell? ⟨w.heap.size + 1, 2, none⟩ = some (.int .i64 p2) := HK_p_19.out.cell 2
  have cb_p_3 : w19.cell? ⟨w.heap.size + 1, 3, none⟩ = some (.int .i64 p3) := HK_p_19.out.cell 3
  have cb_p_4 : w19.cell? ⟨w.heap.size + 1, 4, none⟩ = some (.int .i64 p4) := HK_p_19.out.cell 4
  have cb_p_5 : w19.cell? ⟨w.heap.size + 1, 5, none⟩ = some (.int .i64 p5) := HK_p_19.out.cell 5
  have HK_w0_19 : Hid (Bk w19 (B_w0) 30 #[.int .i64 xl, .int .i64 xb, .slice A_v M.length cap_v, .int .i64 xs, .int .i64 xd]) := Lib.hid (HK_w0_18.out.old hb19)
  clear HK_w0_18
  clear cb_w0_0 cb_w0_1 cb_w0_2 cb_w0_3 cb_w0_4 zb_w0
  have zb_w0 : B_w0 < w19.heap.size := HK_w0_19.out.lt
  have cb_w0_0 : w19.cell? ⟨B_w0, 0, none⟩ = some (.int .i64 xl) := HK_w0_19.out.cell 0
  have cb_w0_1 : w19.cell? ⟨B_w0, 1, none⟩ = some (.int .i64 xb) := HK_w0_19.out.cell 1
  have cb_w0_2 : w19.cell? ⟨B_w0, 2, none⟩ = some (.slice A_v M.length cap_v) := HK_w0_19.out.cell 2
  have cb_w0_3 : w19.cell? ⟨B_w0, 3, none⟩ = some (.int .i64 xs) := HK_w0_19.out.cell 3
  have cb_w0_4 : w19.cell? ⟨B_w0, 4, none⟩ = some (.int .i64 xd) := HK_w0_19.out.cell 4
  have HK_x0_19 : Hid (Bk w19 (w3.heap.size) 30 #[.int .i64 li, .int .i64 by_, .slice A_x n cap_x, .int .i64 se, .int .i64 dr]) := Lib.hid (HK_x0_18.out.old hb19)
  clear HK_x0_18
  clear cb_x0_0 cb_x0_1 cb_x0_2 cb_x0_3 cb_x0_4 zb_x0
  have zb_x0 : w3.heap.size < w19.heap.size := HK_x0_19.out.lt
  have cb_x0_0 : w19.cell? ⟨w3.heap.size, 0, none⟩ = some (.int .i64 li) := HK_x0_19.out.cell 0
  have cb_x0_1 : w19.cell? ⟨w3.heap.size, 1, none⟩ = some (.int .i64 by_) := HK_x0_19.out.cell 1
  have cb_x0_2 : w19.cell? ⟨w3.heap.size, 2, none⟩ = some (.slice A_x n cap_x) := HK_x0_19.out.cell 2
  have cb_x0_3 : w19.cell? ⟨w3.heap.size, 3, none⟩ = some (.int .i64 se) := HK_x0_19.out.cell 3
  have cb_x0_4 : w19.cell? ⟨w3.heap.size, 4, none⟩ = some (.int .i64 dr) := HK_x0_19.out.cell 4
  have HK_g0_19 : Hid (Bk w19 (B_g0) 30 #[.int .i64 xl, .int .i64 xb, .slice A_g M.length cap_g, .int .i64 xs, .int .i64 xd]) := Lib.hid (HK_g0_18.out.old hb19)
  clear HK_g0_18
  clear cb_g0_0 cb_g0_1 cb_g0_2 cb_g0_3 cb_g0_4 zb_g0
  have zb_g0 : B_g0 < w19.heap.size := HK_g0_19.out.lt
  have cb_g0_0 : w19.cell? ⟨B_g0, 0, none⟩ = some (.int .i64 xl) := HK_g0_19.out.cell 0
  have cb_g0_1 : w19.cell? ⟨B_g0, 1, none⟩ = some (.int .i64 xb) := HK_g0_19.out.cell 1
  have cb_g0_2 : w19.cell? ⟨B_g0, 2, none⟩ = some (.slice A_g M.length cap_g) := HK_g0_19.out.cell 2
  have cb_g0_3 : w19.cell? ⟨B_g0, 3, none⟩ = some (.int .i64 xs) := HK_g0_19.out.cell 3
  have cb_g0_4 : w19.cell? ⟨B_g0, 4, none⟩ = some (.int .i64 xd) := HK_g0_19.out.cell 4
  have HK_h0_19 : Hid (Bk w19 (B_h0) 30 #[.int .i64 xl, .int .i64 xb, .slice A_h M.length cap_h, .int .i64 xs, .int .i64 xd]) := Lib.hid (HK_h0_18.out.old hb19)
  clear HK_h0_18
  clear cb_h0_0 cb_h0_1 cb_h0_2 cb_h0_3 cb_h0_4 zb_h0
  have zb_h0 : B_h0 < w19.heap.size := HK_h0_19.out.lt
  have cb_h0_0 : w19.cell? ⟨B_h0, 0, none⟩ = some (.int .i64 xl) := HK_h0_19.out.cell 0
  have cb_h0_1 : w19.cell? ⟨B_h0, 1, none⟩ = some (.int .i64 xb) := HK_h0_19.out.cell 1
  have cb_h0_2 : w19.cell? ⟨B_h0, 2, none⟩ = some (.slice A_h M.length cap_h) := HK_h0_19.out.cell 2
  have cb_h0_3 : w19.cell? ⟨B_h0, 3, none⟩ = some (.int .i64 xs) := HK_h0_19.out.cell 3
  have cb_h0_4 : w19.cell? ⟨B_h0, 4, none⟩ = some (.int .i64 xd) := HK_h0_19.out.cell 4
  have HO_v_19 := Lib.hid (HO_v_18.out.old hb19)
  clear HO_v_18
  have HO_vi_19 := Lib.hid (HO_vi_18.out.old hb19)
  clear HO_vi_18
  have HO_x_19 := Lib.hid (HO_x_18.out.old hb19)
  clear HO_x_18
  have HO_g_19 := Lib.hid (HO_g_18.out.old hb19)
  clear HO_g_18
  have HO_gi_19 := Lib.hid (HO_gi_18.out.old hb19)
  clear HO_gi_18
  have HO_y_19 := Lib.hid (HO_y_18.out.old hb19)
  clear HO_y_18
  have HO_h_19 := Lib.hid (HO_h_18.out.old hb19)
  clear HO_h_18
  have HO_hi_19 := Lib.hid (HO_hi_18.out.old hb19)
  clear HO_hi_18
  have HB_19 := Lib.hid (bt HB_18.out hb19)
  clear hb19
  go_wp2_with fail
  refine (heldQueue_any _ _ _ _ _ _ _ 1 _ HO_g_19.out.row (by omega) (by omega) (by omega)).mono ?_
  rintro e w20 ⟨rfl, hb20⟩
  have z20 := hb20.size
  (try simp at z20)
  have HK_q_20 : Hid (Bk w20 (w.heap.size) 24 #[.int .i64 li, .int .i64 by_, .slice A n cap, .int .i64 se, .int .i64 dr]) := Lib.hid (HK_q_19.out.old hb20)
  clear HK_q_19
  clear cb_q_0 cb_q_1 cb_q_2 cb_q_3 cb_q_4 zb_q
  have zb_q : w.heap.size < w20.heap.size := HK_q_20.out.lt
  have cb_q_0 : w20.cell? ⟨w.heap.size, 0, none⟩ = some (.int .i64 li) := HK_q_20.out.cell 0
  have cb_q_1 : w20.cell? ⟨w.heap.size, 1, none⟩ = some (.int .i64 by_) := HK_q_20.out.cell 1
  have cb_q_2 : w20.cell? ⟨w.heap.size, 2, none⟩ = some (.slice A n cap) := HK_q_20.out.cell 2
  have cb_q_3 : w20.cell? ⟨w.heap.size, 3, none⟩ = some (.int .i64 se) := HK_q_20.out.cell 3
  have cb_q_4 : w20.cell? ⟨w.heap.size, 4, none⟩ = some (.int .i64 dr) := HK_q_20.out.cell 4
  have HK_p_20 : Hid (Bk w20 (w.heap.size + 1) 26 #[.int .i64 p0, .int .i64 p1, .int .i64 p2, .int .i64 p3, .int .i64 p4, .int .i64 p5]) := Lib.hid (HK_p_19.out.old hb20)
  clear HK_p_19
  clear cb_p_0 cb_p_1 cb_p_2 cb_p_3 cb_p_4 cb_p_5 zb_p
  have zb_p : w.heap.size + 1 < w20.heap.size := HK_p_20.out.lt
  have cb_p_0 : w20.cell? ⟨w.heap.size + 1, 0, none⟩ = some (.int .i64 p0) := HK_p_20.out.cell 0
  have cb_p_1 : w20.cell? ⟨w.heap.size + 1, 1, none⟩ = some (.int .i64 p1) := HK_p_20.out.cell 1
  have cb_p_2 : w20.cell? ⟨w.heap.size + 1, 2, none⟩ = some (.int .i64 p2) := HK_p_20.out.cell 2
  have cb_p_3 : w20.cell? ⟨w.heap.size + 1, 3, none⟩ = some (.int .i64 p3) := HK_p_20.out.cell 3
  have cb_p_4 : w20.cell? ⟨w.heap.size + 1, 4, none⟩ = some (.int .i64 p4) := HK_p_20.out.cell 4
  have cb_p_5 : w20.cell? ⟨w.heap.size + 1, 5, none⟩ = some (.int .i64 p5) := HK_p_20.out.cell 5
  have HK_w0_20 : Hid (Bk w20 (B_w0) 30 #[.int .i64 xl, .int .i64 xb, .slice A_v M.length cap_v, .int .i64 xs, .int .i64 xd]) := Lib.hid (HK_w0_19.out.old hb20)
  clear HK_w0_19
  clear cb_w0_0 cb_w0_1 cb_w0_2 cb_w0_3 cb_w0_4 zb_w0
  have zb_w0 : B_w0 < w20.heap.size := HK_w0_20.out.lt
  have cb_w0_0 : w20.cell? ⟨B_w0, 0, none⟩ = some (.int .i64 xl) := HK_w0_20.out.cell 0
  have cb_w0_1 : w20.cell? ⟨B_w0, 1, none⟩ = some (.int .i64 xb) := HK_w0_20.out.cell 1
  have cb_w0_2 : w20.cell? ⟨B_w0, 2, none⟩ = some (.slice A_v M.length cap_v) := HK_w0_20.out.cell 2
  have cb_w0_3 : w20.cell? ⟨B_w0, 3, none⟩ = some (.int .i64 xs) := HK_w0_20.out.cell 3
  have cb_w0_4 : w20.cell? ⟨B_w0, 4, none⟩ = some (.int .i64 xd) := HK_w0_20.out.cell 4
  have HK_x0_20 : Hid (Bk w20 (w3.heap.size) 30 #[.int .i64 li, .int .i64 by_, .slice A_x n cap_x, .int .i64 se, .int .i64 dr]) := Lib.hid (HK_x0_19.out.old hb20)
  clear HK_x0_19
  clear cb_x0_0 cb_x0_1 cb_x0_2 cb_x0_3 cb_x0_4 zb_x0
  have zb_x0 : w3.heap.size < w20.heap.size := HK_x0_20.out.lt
  have cb_x0_0 : w20.cell? ⟨w3.heap.size, 0, none⟩ = some (.int .i64 li) := HK_x0_20.out.cell 0
  have cb_x0_1 : w20.cell? ⟨w3.heap.size, 1, none⟩ = some (.int .i64 by_) := HK_x0_20.out.cell 1
  have cb_x0_2 : w20.cell? ⟨w3.heap.size, 2, none⟩ = some (.slice A_x n cap_x) := HK_x0_20.out.cell 2
  have cb_x0_3 : w20.cell? ⟨w3.heap.size, 3, none⟩ = some (.int .i64 se) := HK_x0_20.out.cell 3
  have cb_x0_4 : w20.cell? ⟨w3.heap.size, 4, none⟩ = some (.int .i64 dr) := HK_x0_20.out.cell 4
  have HK_g0_20 : Hid (Bk w20 (B_g0) 30 #[.int .i64 xl, .int .i64 xb, .slice A_g M.length cap_g, .int .i64 xs, .int .i64 xd]) := Lib.hid (HK_g0_19.out.old hb20)
  clear HK_g0_19
  clear cb_g0_0 cb_g0_1 cb_g0_2 cb_g0_3 cb_g0_4 zb_g0
  have zb_g0 : B_g0 < w20.heap.size := HK_g0_20.out.lt
  have cb_g0_0 : w20.cell? ⟨B_g0, 0, none⟩ = some (.int .i64 xl) := HK_g0_20.out.cell 0
  have cb_g0_1 : w20.cell? ⟨B_g0, 1, none⟩ = some (.int .i64 xb) := HK_g0_20.out.cell 1
  have cb_g0_2 : w20.cell? ⟨B_g0, 2, none⟩ = some (.slice A_g M.length cap_g) := HK_g0_20.out.cell 2
  have cb_g0_3 : w20.cell? ⟨B_g0, 3, none⟩ = some (.int .i64 xs) := HK_g0_20.out.cell 3
  have cb_g0_4 : w20.cell? ⟨B_g0, 4, none⟩ = some (.int .i64 xd) := HK_g0_20.out.cell 4
  have HK_h0_20 : Hid (Bk w20 (B_h0) 30 #[.int .i64 xl, .int .i64 xb, .slice A_h M.length cap_h, .int .i64 xs, .int .i64 xd]) := Lib.hid (HK_h0_19.out.old hb20)
  clear HK_h0_19
  clear cb_h0_0 cb_h0_1 cb_h0_2 cb_h0_3 cb_h0_4 zb_h0
  have zb_h0 : B_h0 < w20.heap.size := HK_h0_20.out.lt
  have cb_h0_0 : w20.cell? ⟨B_h0, 0, none⟩ = some (.int .i64 xl) := HK_h0_20.out.cell 0
  have cb_h0_1 : w20.cell? ⟨B_h0, 1, none⟩ = some (.int .i64 xb) := HK_h0_20.out.cell 1
  have cb_h0_2 : w20.cell? ⟨B_h0, 2, none⟩ = some (.slice A_h M.length cap_h) := HK_h0_20.out.cell 2
  have cb_h0_3 : w20.cell? ⟨B_h0, 3, none⟩ = some (.int .i64 xs) := HK_h0_20.out.cell 3
  have cb_h0_4 : w20.cell? ⟨B_h0, 4, none⟩ = some (.int .i64 xd) := HK_h0_20.out.cell 4
  have HO_v_20 := Lib.hid (HO_v_19.out.old hb20)
  clear HO_v_19
  have HO_vi_20 := Lib.hid (HO_vi_19.out.old hb20)
  clear HO_vi_19
  have HO_x_20 := Lib.hid (HO_x_19.out.old hb20)
  clear HO_x_19
  have HO_g_20 := Lib.hid (HO_g_19.out.old hb20)
  clear HO_g_19
  have HO_gi_20 := Lib.hid (HO_gi_19.out.old hb20)
  clear HO_gi_19
  have HO_y_20 := Lib.hid (HO_y_19.out.old hb20)
  clear HO_y_19
  have HO_h_20 := Lib.hid (HO_h_19.out.old hb20)
  clear HO_h_19
  have HO_hi_20 := Lib.hid (HO_hi_19.out.old hb20)
  clear HO_hi_19
  have HB_20 := Lib.hid (bt HB_19.out hb20)
  clear hb20
  go_wp2_with fail
  refine (heldIntS_any _ _ _ _ _ HO_gi_20.out.row (by omega) (by omega) (by omega)).mono ?_
  rintro e w21 ⟨rfl, hb21⟩
  have z21 := hb21.size
  (try simp at z21)
  have HK_q_21 : Hid (Bk w21 (w.heap.size) 24 #[.int .i64 li, .int .i64 by_, .slice A n cap, .int .i64 se, .int .i64 dr]) := Lib.hid (HK_q_20.out.old hb21)
  clear HK_q_20
  clear cb_q_0 cb_q_1 cb_q_2 cb_q_3 cb_q_4 zb_q
  have zb_q : w.heap.size < w21.heap.size := HK_q_21.out.lt
  have cb_q_0 : w21.cell? ⟨w.heap.size, 0, none⟩ = some (.int .i64 li) := HK_q_21.out.cell 0
  have cb_q_1 : w21.cell? ⟨w.heap.size, 1, none⟩ = some (.int .i64 by_) := HK_q_21.out.cell 1
  have cb_q_2 : w21.cell? ⟨w.heap.size, 2, none⟩ = some (.slice A n cap) := HK_q_21.out.cell 2
  have cb_q_3 : w21.cell? ⟨w.heap.size, 3, none⟩ = some (.int .i64 se) := HK_q_21.out.cell 3
  have cb_q_4 : w21.cell? ⟨w.heap.size, 4, none⟩ = some (.int .i64 dr) := HK_q_21.out.cell 4
  have HK_p_21 : Hid (Bk w21 (w.heap.size + 1) 26 #[.int .i64 p0, .int .i64 p1, .int .i64 p2, .int .i64 p3, .int .i64 p4, .int .i64 p5]) := Lib.hid (HK_p_20.out.old hb21)
  clear HK_p_20
  clear cb_p_0 cb_p_1 cb_p_2 cb_p_3 cb_p_4 cb_p_5 zb_p
  have zb_p : w.heap.size + 1 < w21.heap.size := HK_p_21.out.lt
  have cb_p_0 : w21.cell? ⟨w.heap.size + 1, 0, none⟩ = some (.int .i64 p0) := HK_p_21.out.cell 0
  have cb_p_1 : w21.cell? ⟨w.heap.size + 1, 1, none⟩ = some (.int .i64 p1) := HK_p_21.out.cell 1
  have cb_p_2 : w21.cell? ⟨w.heap.size + 1, 2, none⟩ = some (.int .i64 p2) := HK_p_21.out.cell 2
  have cb_p_3 : w21.cell? ⟨w.heap.size + 1, 3, none⟩ = some (.int .i64 p3) := HK_p_21.out.cell 3
  have cb_p_4 : w21.cell? ⟨w.heap.size + 1, 4, none⟩ = some (.int .i64 p4) := HK_p_21.out.cell 4
  have cb_p_5 : w21.cell? ⟨w.heap.size + 1, 5, none⟩ = some (.int .i64 p5) := HK_p_21.out.cell 5
  have HK_w0_21 : Hid (Bk w21 (B_w0) 30 #[.int .i64 xl, .int .i64 xb, .slice A_v M.length cap_v, .int .i64 xs, .int .i64 xd]) := Lib.hid (HK_w0_20.out.old hb21)
  clear HK_w0_20
  clear cb_w0_0 cb_w0_1 cb_w0_2 cb_w0_3 cb_w0_4 zb_w0
  have zb_w0 : B_w0 < w21.heap.size := HK_w0_21.out.lt
  have cb_w0_0 : w21.cell? ⟨B_w0, 0, none⟩ = some (.int .i64 xl) := HK_w0_21.out.cell 0
  have cb_w0_1 : w21.cell? ⟨B_w0, 1, none⟩ = some (.int .i64 xb) := HK_w0_21.out.cell 1
  have cb_w0_2 : w21.cell? ⟨B_w0, 2, none⟩ = some (.slice A_v M.length cap_v) := HK_w0_21.out.cell 2
  have cb_w0_3 : w21.cell? ⟨B_w0, 3, none⟩ = some (.int .i64 xs) := HK_w0_21.out.cell 3
  have cb_w0_4 : w21.cell? ⟨B_w0, 4, none⟩ = some (.int .i64 xd) := HK_w0_21.out.cell 4
  have HK_x0_21 : Hid (Bk w21 (w3.heap.size) 30 #[.int .i64 li, .int .i64 by_, .slice A_x n cap_x, .int .i64 se, .int .i64 dr]) := Lib.hid (HK_x0_20.out.old hb21)
  clear HK_x0_20
  clear cb_x0_0 cb_x0_1 cb_x0_2 cb_x0_3 cb_x0_4 zb_x0
  have zb_x0 : w3.heap.size < w21.heap.size := HK_x0_21.out.lt
  have cb_x0_0 : w21.cell? ⟨w3.heap.size, 0, none⟩ = some (.int .i64 li) := HK_x0_21.out.cell 0
  have cb_x0_1 : w21.cell? ⟨w3.heap.size, 1, none⟩ = some (.int .i64 by_) := HK_x0_21.out.cell 1
  have cb_x0_2 : w21.cell? ⟨w3.heap.size, 2, none⟩ = some (.slice A_x n cap_x) := HK_x0_21.out.cell 2
  have cb_x0_3 : w21.cell? ⟨w3.heap.size, 3, none⟩ = some (.int .i64 se) := HK_x0_21.out.cell 3
  have cb_x0_4 : w21.cell? ⟨w3.heap.size, 4, none⟩ = some (.int .i64 dr) := HK_x0_21.out.cell 4
  have HK_g0_21 : Hid (Bk w21 (B_g0) 30 #[.int .i64 xl, .int .i64 xb, .slice A_g M.length cap_g, .int .i64 xs, .int .i64 xd]) := Lib.hid (HK_g0_20.out.old hb21)
  clear HK_g0_20
  clear cb_g0_0 cb_g0_1 cb_g0_2 cb_g0_3 cb_g0_4 zb_g0
  have zb_g0 : B_g0 < w21.heap.size := HK_g0_21.out.lt
  have cb_g0_0 : w21.cell? ⟨B_g0, 0, none⟩ = some (.int .i64 xl) := HK_g0_21.out.cell 0
  have cb_g0_1 : w21.cell? ⟨B_g0, 1, none⟩ = some (.int .i64 xb) := HK_g0_21.out.cell 1
  have cb_g0_2 : w21.cell? ⟨B_g0, 2, none⟩ = some (.slice A_g M.length cap_g) := HK_g0_21.out.cell 2
  have cb_g0_3 : w21.cell? ⟨B_g0, 3, none⟩ = some (.int .i64 xs) := HK_g0_21.out.cell 3
  have cb_g0_4 : w21.cell? ⟨B_g0, 4, none⟩ = some (.int .i64 xd) := HK_g0_21.out.cell 4
  have HK_h0_21 : Hid (Bk w21 (B_h0) 30 #[.int .i64 xl, .int .i64 xb, .slice A_h M.length cap_h, .int .i64 xs, .int .i64 xd]) := Lib.hid (HK_h0_20.out.old hb21)
  clear HK_h0_20
  clear cb_h0_0 cb_h0_1 cb_h0_2 cb_h0_3 cb_h0_4 zb_h0
  have zb_h0 : B_h0 < w21.heap.size := HK_h0_21.out.lt
  have cb_h0_0 : w21.cell? ⟨B_h0, 0, none⟩ = some (.int .i64 xl) := HK_h0_21.out.cell 0
  have cb_h0_1 : w21.cell? ⟨B_h0, 1, none⟩ = some (.int .i64 xb) := HK_h0_21.out.cell 1
  have cb_h0_2 : w21.cell? ⟨B_h0, 2, none⟩ = some (.slice A_h M.length cap_h) := HK_h0_21.out.cell 2
  have cb_h0_3 : w21.cell? ⟨B_h0, 3, none⟩ = some (.int .i64 xs) := HK_h0_21.out.cell 3
  have cb_h0_4 : w21.cell? ⟨B_h0, 4, none⟩ = some (.int .i64 xd) := HK_h0_21.out.cell 4
  have HO_v_21 := Lib.hid (HO_v_20.out.old hb21)
  clear HO_v_20
  have HO_vi_21 := Lib.hid (HO_vi_20.out.old hb21)
  clear HO_vi_20
  have HO_x_21 := Lib.hid (HO_x_20.out.old hb21)
  clear HO_x_20
  have HO_g_21 := Lib.hid (HO_g_20.out.old hb21)
  clear HO_g_20
  have HO_gi_21 := Lib.hid (HO_gi_20.out.old hb21)
  clear HO_gi_20
  have HO_y_21 := Lib.hid (HO_y_20.out.old hb21)
  clear HO_y_20
  have HO_h_21 := Lib.hid (HO_h_20.out.old hb21)
  clear HO_h_20
  have HO_hi_21 := Lib.hid (HO_hi_20.out.old hb21)
  clear HO_hi_20
  have HB_21 := Lib.hid (bt HB_20.out hb21)
  clear hb21
  go_wp2_with fail
  go_ret
  exact ⟨rfl, HB_21.out⟩
theorem own : ownKnob Try.prog.godebug = none := by kernel_rfl
theorem laidOut : laidOutB Try.prog = true := by kernel_rfl
set_option maxRecDepth 100000 in
theorem lifted (os : Os) (started : os.Started) (H : Type) (enc : TypeId × Value → H) :
    ReturnsInHanded {} Try.checked os 6 .any (Rows.fnExactRemoveFlowSpec.pre6 enc Try.prog Try.f6 Rows.fnExactRemoveFlowRow.domain false) (Rows.fnExactRemoveFlowSpec.post enc Try.prog Try.f6 false true false false) := by
  refine returnsInHanded_of_change (C := Try.checked) own started (by kernel_rfl) Try.func6
    (ChangeSpec.witness6 (enc := enc) (C := Try.checked) false ⟨#[], #[.agg #[.int .i64 0, .int .i64 0, .slice none 0 0, .int .i64 0, .int .i64 0], .agg #[.int .i64 0, .int .i64 0, .int .i64 0, .int .i64 0, .int .i64 0, .int .i64 0]], []⟩ 8 (by kernel_rfl) (by kernel_rfl) (by kernel_rfl) (by kernel_rfl)) ?_
  intro W base args ds gs before hval0 hW hcnd _
  have hval : ∀ (j : Nat) t v, Try.f6.params[j]? = some t → args[j]? = some v → Value.okWide Try.prog W .any base t v := hval0
  have hW' := hW
  obtain ⟨p, q, hA0, hV, rfl, hfz, hnd⟩ := hW
  have hA : DataW.TrodAll enc Try.prog W 0 (fun _ => true) true Try.f6.params.toList args.toList ds p := hA0
  rw [Try.params6] at hA hval
  obtain ⟨v0, vs0, d0, ds0, p0, q0, hargs, rfl, rfl, h0, r0⟩ := trodAll_cons hA
  obtain ⟨v1, vs1, d1, ds1, p1, q1, rfl, rfl, rfl, h1, r1⟩ := trodAll_cons r0
  obtain ⟨rfl, rfl, rfl⟩ := trodAll_nil r1
  obtain rfl : args = #[v0, v1] := by cases args; simp_all
  obtain ⟨rfl, rfl⟩ := trodVars_none hV
  have k0 := h0
  have lt0 : ∀ x ∈ p0, x.block < W.heap.size := by obtain ⟨m, hm⟩ := k0; exact DataW.trod_lt m _ _ _ hm
  have k1 := h1
  have lt1 : ∀ x ∈ p1, x.block < W.heap.size := by obtain ⟨m, hm⟩ := k1; exact DataW.trod_lt m _ _ _ hm
  obtain ⟨cs0, rfl, hsz0⟩ := okWide_struct Try.underlying24 (hval 0 24 v0 rfl rfl)
  obtain ⟨c0_0, c0_1, c0_2, c0_3, c0_4, rfl⟩ := arr5 (hsz0.trans (by kernel_rfl))
  have hf0 := h0
  obtain ⟨fu0, hf0⟩ := hf0
  simp only [Value.cells] at hf0
  obtain ⟨a0_0, ea0_0⟩ := leaf_int Try.underlying24 hf0 0 _ rfl Try.underlying3 (by kernel_rfl) rfl
  obtain ⟨ea0_0, wa0_0⟩ := ea0_0
  subst ea0_0
  obtain ⟨a0_1, ea0_1⟩ := leaf_int Try.underlying24 hf0 1 _ rfl Try.underlying3 (by kernel_rfl) rfl
  obtain ⟨ea0_1, wa0_1⟩ := ea0_1
  subst ea0_1
  obtain ⟨ma0_2, ya0_2, ta0_2⟩ := leaf Try.underlying24 hf0 2 _ rfl (by kernel_rfl) rfl
  obtain ⟨Aa0_2, lena0_2, capa0_2, la0_2, ea0_2, hra0_2⟩ := rows_leaf (s := 6) Try.underlying22 (by kernel_rfl) (by decide) (flatPacket enc W) ta0_2
  subst ea0_2
  obtain ⟨a0_3, ea0_3⟩ := leaf_int Try.underlying24 hf0 3 _ rfl Try.underlying3 (by kernel_rfl) rfl
  obtain ⟨ea0_3, wa0_3⟩ := ea0_3
  subst ea0_3
  obtain ⟨a0_4, ea0_4⟩ := leaf_int Try.underlying24 hf0 4 _ rfl Try.underlying3 (by kernel_rfl) rfl
  obtain ⟨ea0_4, wa0_4⟩ := ea0_4
  subst ea0_4
  obtain ⟨cs1, rfl, hsz1⟩ := okWide_struct Try.underlying26 (hval 1 26 v1 rfl rfl)
  obtain ⟨c1_0, c1_1, c1_2, c1_3, c1_4, c1_5, rfl⟩ := arr6 (hsz1.trans (by kernel_rfl))
  have hf1 := h1
  obtain ⟨fu1, hf1⟩ := hf1
  simp only [Value.cells] at hf1
  obtain ⟨a1_0, ea1_0⟩ := leaf_int Try.underlying26 hf1 0 _ rfl Try.underlying3 (by kernel_rfl) rfl
  obtain ⟨ea1_0, wa1_0⟩ := ea1_0
  subst ea1_0
  obtain ⟨a1_1, ea1_1⟩ := leaf_int Try.underlying26 hf1 1 _ rfl Try.underlying3 (by kernel_rfl) rfl
  obtain ⟨ea1_1, wa1_1⟩ := ea1_1
  subst ea1_1
  obtain ⟨a1_2, ea1_2⟩ := leaf_int Try.underlying26 hf1 2 _ rfl Try.underlying3 (by kernel_rfl) rfl
  obtain ⟨ea1_2, wa1_2⟩ := ea1_2
  subst ea1_2
  obtain ⟨a1_3, ea1_3⟩ := leaf_int Try.underlying26 hf1 3 _ rfl Try.underlying3 (by kernel_rfl) rfl
  obtain ⟨ea1_3, wa1_3⟩ := ea1_3
  subst ea1_3
  obtain ⟨a1_4, ea1_4⟩ := leaf_int Try.underlying26 hf1 4 _ rfl Try.underlying3 (by kernel_rfl) rfl
  obtain ⟨ea1_4, wa1_4⟩ := ea1_4
  subst ea1_4
  obtain ⟨a1_5, ea1_5⟩ := leaf_int Try.underlying26 hf1 5 _ rfl Try.underlying3 (by kernel_rfl) rfl
  obtain ⟨ea1_5, wa1_5⟩ := ea1_5
  subst ea1_5
  clear hA0 hval0
  refine (walk W a0_0 (ibounds wa0_0) a0_1 (ibounds wa0_1) Aa0_2 lena0_2 capa0_2 la0_2 hra0_2 a0_3 (ibounds wa0_3) a0_4 (ibounds wa0_4) a1_0 (ibounds wa1_0) a1_1 (ibounds wa1_1) a1_2 (ibounds wa1_2) a1_3 (ibounds wa1_3) a1_4 (ibounds wa1_4) a1_5 (ibounds wa1_5)).mono fun e W' ⟨he, bel⟩ => ?_
  subst he
  exact ⟨_, rfl, _, _, _, [], _, [], hW', trodAll_mk1 (shut_bool Try.underlying4 _), (trodAll_cons_mk (Below.trod laidOut (by kernel_rfl) (of_decide_eq_true (by kernel_rfl)) k0 bel lt0) (trodAll_cons_mk (Below.trod laidOut (by kernel_rfl) (of_decide_eq_true (by kernel_rfl)) k1 bel lt1) trodAll_mk0)), rfl, bel.frame _, fun h => by cases h⟩
theorem over : Rows.fnExactRemoveFlowRow.holds Try.pinned (OpenSpec.ofChange Rows.fnExactRemoveFlowSpec) :=
  OpenClaim.holds_of_wide 6 Try.f6 rfl rfl rfl rfl rfl rfl rfl ⟨rfl, rfl, rfl, rfl, rfl⟩ rfl rfl rfl rfl rfl (by kernel_rfl) Try.func6 (by kernel_rfl)
    (of_decide_eq_true (by kernel_rfl)) (by unfold Func.isWrapper; first | (rw [if_pos (by decide +kernel)]; kernel_rfl) | (rw [if_neg (by decide +kernel)]; exact ⟨rfl, rfl⟩))
    (fun os started H enc _ => lifted os started H enc)
/-- The given statement. -/
theorem proved : Rows.FnExactRemoveFlowSaid := over
#print axioms proved
end Go.Proofs.Ytgdldmeeaejjpaa.lawRemoveFlow
