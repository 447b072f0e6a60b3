/- The statement FnExactPutFairSaid: for every input the law FnExactPutFair returns true, and its arguments read as before. No condition. -/
import Derived.Test.YtgdldmeeaejjpaaFairOpen
import Derived.Test.YtgdldmeeaejjpaaFairPF
import Derived.Deep.RegionHeld3
import Derived.Deep.DeepCutAuto
namespace Go.Proofs.Ytgdldmeeaejjpaa.lawPutFair
open Go.ChangeShapes Go.WideShapes Go.ChangeAt Go.RowKit
set_option linter.unusedVariables false
set_option maxRecDepth 100000 in
set_option maxHeartbeats 4000000 in
theorem walk (w : World) (qu : Int) (_ : IB qu) (li : Int) (_ : IB li) (A : Option Addr) (n cap : Nat) (G : List (List Int)) (hq : NRow w A G ∧ G.length = n ∧ n ≤ cap ∧ (A = none → cap = 0) ∧ n ≤ 9223372036854775807 ∧ ∀ (i : Nat) (l : List Int), G[i]? = some l → l.length ≤ 55340232221128654842)
    (B : Option Addr) (m capd : Nat) (D : List Int) (hd : IRow w B D ∧ D.length = m ∧ m ≤ capd ∧ (B = none → capd = 0) ∧ m ≤ 9223372036854775807) (nx : Int) (_ : IB nx) (op : Bool) (p0 : Int) (_ : IB p0) (p1 : Int) (_ : IB p1) (p2 : Int) (_ : IB p2) (p3 : Int) (_ : IB p3) (p4 : Int) (_ : IB p4) (p5 : Int) (_ : IB p5) :
    Calls Try.prog 11 #[.agg #[.int .i64 qu, .int .i64 li, .slice A n cap, .slice B m capd, .int .i64 nx, .bool op], .agg #[.int .i64 p0, .int .i64 p1, .int .i64 p2, .int .i64 p3, .int .i64 p4, .int .i64 p5]] w fun e w' => e = .returned (.bool true) ∧ Below w.heap.size w w' := by
  obtain ⟨hqr, hqn, hqc, hq0, hn, hG⟩ := hq
  obtain ⟨hdr, hdn, hdc, hd0, hm⟩ := hd
  obtain ⟨F, rfl⟩ := hqr.unf
  have HR_a := Lib.hid (show FRow w ⟨A, n, cap, B, m, capd⟩ (F.map fl) D from ⟨hqr, hqn, hqc, hq0, hdr, hdn, hdc, hd0⟩)
  have HG := Lib.hid hG
  have HLN := Lib.hid (show (F.map fl).length = n ∧ D.length = m from ⟨hqn, hdn⟩)
  clear hqr hqn hqc hq0 hG hdr hdn hdc hd0
  have HSP := Lib.hid (fun (M : Fm) (w : World) (hr : FRow w M (F.map fl) D) (hn : M.n ≤ 1048576) (hm : M.m ≤ 1048576) => specPutFair_any ⟨p0, p1, p2, p3, p4, p5⟩ qu li M.A M.n M.cap M.B M.m M.capd nx op F D w hr hn hm)
  have HIM := Lib.hid (fun (M : Fm) (w : World) (hr : FRow w M (F.map fl) D) (hn : M.n ≤ 1048576) (hm : M.m ≤ 1048576) => implPutFair_any ⟨p0, p1, p2, p3, p4, p5⟩ qu li M.A M.n M.cap M.B M.m M.capd nx op F D w hr hn hm)
  unfold PfP at HSP HIM
  go_enter Try.func11, Try.ntmps11
  go_wp2_with fail
  refine (szFair_any qu li ⟨A, n, cap, B, m, capd⟩ nx op (F.map fl) D _ (HR_a.out.below (ba (ba (b0 w) _) _)) HG.out hn hm).mono ?_
  rintro e w1 ⟨⟨v, rfl, hv⟩, hb1⟩
  have z1 := hb1.size
  (try simp at z1)
  have HK_q_1 : Hid (Bk w1 (w.heap.size) 51 #[.int .i64 qu, .int .i64 li, .slice A n cap, .slice B m capd, .int .i64 nx, .bool op]) := Lib.hid (((Bk.new_ (by simp) : Bk _ (w.heap.size) 51 #[.int .i64 qu, .int .i64 li, .slice A n cap, .slice B m capd, .int .i64 nx, .bool op]).alloc _).old hb1)
  have zb_q : w.heap.size < w1.heap.size := HK_q_1.out.lt
  have cb_q_0 : w1.cell? ⟨w.heap.size, 0, none⟩ = some (.int .i64 qu) := HK_q_1.out.cell 0
  have cb_q_1 : w1.cell? ⟨w.heap.size, 1, none⟩ = some (.int .i64 li) := HK_q_1.out.cell 1
  have cb_q_2 : w1.cell? ⟨w.heap.size, 2, none⟩ = some (.slice A n cap) := HK_q_1.out.cell 2
  have cb_q_3 : w1.cell? ⟨w.heap.size, 3, none⟩ = some (.slice B m capd) := HK_q_1.out.cell 3
  have cb_q_4 : w1.cell? ⟨w.heap.size, 4, none⟩ = some (.int .i64 nx) := HK_q_1.out.cell 4
  have cb_q_5 : w1.cell? ⟨w.heap.size, 5, none⟩ = some (.bool op) := HK_q_1.out.cell 5
  have HK_p_1 : Hid (Bk w1 (w.heap.size + 1) 26 #[.int .i64 p0, .int .i64 p1, .int .i64 p2, .int .i64 p3, .int .i64 p4, .int .i64 p5]) := Lib.hid ((Bk.new_ (by simp) : Bk _ (w.heap.size + 1) 26 #[.int .i64 p0, .int .i64 p1, .int .i64 p2, .int .i64 p3, .int .i64 p4, .int .i64 p5]).old hb1)
  have zb_p : w.heap.size + 1 < w1.heap.size := HK_p_1.out.lt
  have cb_p_0 : w1.cell? ⟨w.heap.size + 1, 0, none⟩ = some (.int .i64 p0) := HK_p_1.out.cell 0
  have cb_p_1 : w1.cell? ⟨w.heap.size + 1, 1, none⟩ = some (.int .i64 p1) := HK_p_1.out.cell 1
  have cb_p_2 : w1.cell? ⟨w.heap.size + 1, 2, none⟩ = some (.int .i64 p2) := HK_p_1.out.cell 2
  have cb_p_3 : w1.cell? ⟨w.heap.size + 1, 3, none⟩ = some (.int .i64 p3) := HK_p_1.out.cell 3
  have cb_p_4 : w1.cell? ⟨w.heap.size + 1, 4, none⟩ = some (.int .i64 p4) := HK_p_1.out.cell 4
  have cb_p_5 : w1.cell? ⟨w.heap.size + 1, 5, none⟩ = some (.int .i64 p5) := HK_p_1.out.cell 5
  have HB_1 := Lib.hid (bt (ba (ba (b0 w) _) _) hb1)
  clear hb1
  rcases hv with rfl | ⟨hv0, hsz⟩
  · go_wp2_with fail
    go_ret
    exact ⟨rfl, HB_1.out⟩
  simp only at hsz
  have hn2 : n ≤ 1048576 := by omega
  have hm2 : m ≤ 1048576 := by omega
  have hgs : gsum (F.map fl) ≤ 6291456 := by omega
  have HG2 := Lib.hid (fun (i : Nat) (l : List Int) (h : (F.map fl)[i]? = some l) => Nat.le_trans (gsum_mem h) hgs)
  have HG3 := Lib.hid (fun (i : Nat) (l : List Int) (h : (F.map fl)[i]? = some l) => show l.length ≤ 6597069766656 from Nat.le_trans (HG2.out i l h) (by omega))
  have HSN := Lib.hid (show (ifG (pfOk qu li F D nx op ⟨p0, p1, p2, p3, p4, p5⟩) (pfG li F ⟨p0, p1, p2, p3, p4, p5⟩)).length ≤ n ∧ (ifG (pfOk qu li F D nx op ⟨p0, p1, p2, p3, p4, p5⟩) D).length ≤ m from ⟨Nat.le_trans (ifG_len _ _) (by rw [pfG_len]; have h := HLN.out.1; rw [List.length_map] at h; exact Nat.le_of_eq h), Nat.le_trans (ifG_len _ _) (Nat.le_of_eq HLN.out.2)⟩)
  have hgs2 : gsum (ifG (pfOk qu li F D nx op ⟨p0, p1, p2, p3, p4, p5⟩) (pfG li F ⟨p0, p1, p2, p3, p4, p5⟩)) ≤ 12582918 := Nat.le_trans (ifG_gsum _ _) (Nat.le_trans (pfG_gsum li F ⟨p0, p1, p2, p3, p4, p5⟩) (by omega))
  have HGE := Lib.hid (fun (i : Nat) (l : List Int) (h : (ifG (pfOk qu li F D nx op ⟨p0, p1, p2, p3, p4, p5⟩) (pfG li F ⟨p0, p1, p2, p3, p4, p5⟩))[i]? = some l) => show l.length ≤ 6597069766656 from Nat.le_trans (gsum_mem h) (Nat.le_trans hgs2 (by omega)))
  generalize (ifG (pfOk qu li F D nx op ⟨p0, p1, p2, p3, p4, p5⟩) (pfG li F ⟨p0, p1, p2, p3, p4, p5⟩)) = E at *
  generalize (ifG (pfOk qu li F D nx op ⟨p0, p1, p2, p3, p4, p5⟩) D) = T at *
  generalize pfIn li F ⟨p0, p1, p2, p3, p4, p5⟩ = xi at *
  generalize hok : pfOk qu li F D nx op ⟨p0, p1, p2, p3, p4, p5⟩ = ok at *
  clear hok
  generalize ifz ok qu = xq at *
  generalize ifz ok li = xl at *
  generalize ifz ok nx = xn at *
  generalize (ok && op) = xo at *
  generalize (ok && xi) = xi2 at *
  go_wp2_with fail
  have HSX := Lib.hid (show ∀ w' : World, Below w1.heap.size w1 w' → (fun w' => w'.cell? ⟨w.heap.size, 0, none⟩ = some (.int .i64 qu) ∧ w'.cell? ⟨w.heap.size, 1, none⟩ = some (.int .i64 li) ∧ w'.cell? ⟨w.heap.size, 2, none⟩ = some (.slice A n cap) ∧ w'.cell? ⟨w.heap.size, 3, none⟩ = some (.slice B m capd) ∧ w'.cell? ⟨w.heap.size, 4, none⟩ = some (.int .i64 nx) ∧ w'.cell? ⟨w.heap.size, 5, none⟩ = some (.bool op) ∧ w'.cell? ⟨w.heap.size + 1, 0, none⟩ = some (.int .i64 p0) ∧ w'.cell? ⟨w.heap.size + 1, 1, none⟩ = some (.int .i64 p1) ∧ w'.cell? ⟨w.heap.size + 1, 2, none⟩ = some (.int .i64 p2) ∧ w'.cell? ⟨w.heap.size + 1, 3, none⟩ = some (.int .i64 p3) ∧ w'.cell? ⟨w.heap.size + 1, 4, none⟩ = some (.int .i64 p4) ∧ w'.cell? ⟨w.heap.size + 1, 5, none⟩ = some (.int .i64 p5)) w' from fun w' hb => ⟨(bkeep hb _ _ zb_q).trans cb_q_0, (bkeep hb _ _ zb_q).trans cb_q_1, (bkeep hb _ _ zb_q).trans cb_q_2, (bkeep hb _ _ zb_q).trans cb_q_3, (bkeep hb _ _ zb_q).trans cb_q_4, (bkeep hb _ _ zb_q).trans cb_q_5, (bkeep hb _ _ zb_p).trans cb_p_0, (bkeep hb _ _ zb_p).trans cb_p_1, (bkeep hb _ _ zb_p).trans cb_p_2, (bkeep hb _ _ zb_p).trans cb_p_3, (bkeep hb _ _ zb_p).trans cb_p_4, (bkeep hb _ _ zb_p).trans cb_p_5⟩)
  have HRW_a := Lib.hid (fun (W : World) (hb : Below w1.heap.size w1 W) => (HR_a.out.below HB_1.out).below hb)
  go_cut [6, 7, 8] (fun a6 a7 a8 wx => ∃ (B_v0 : Nat) (M_v : Fm) (lo_v : Nat) (hi_v : Nat), a6 = .pointer (some ⟨B_v0, 0, none⟩) ∧ a7 = .bool xi2 ∧ a8 = .bool ok ∧ (w1.heap.size ≤ B_v0 ∧ Bk wx B_v0 56 #[.int .i64 xq, .int .i64 xl, .slice M_v.A M_v.n M_v.cap, .slice M_v.B M_v.m M_v.capd, .int .i64 xn, .bool xo]) ∧ FOwn wx lo_v hi_v M_v E T ∧ (w1.heap.size ≤ lo_v ∧ hi_v ≤ wx.heap.size ∧ ((B_v0 < lo_v ∨ hi_v ≤ B_v0) ∧ lo_v ≤ hi_v)) ∧ Below w1.heap.size w1 wx)
  case first =>
    go_region_held3 (fun w' => w'.cell? ⟨w.heap.size, 0, none⟩ = some (.int .i64 qu) ∧ w'.cell? ⟨w.heap.size, 1, none⟩ = some (.int .i64 li) ∧ w'.cell? ⟨w.heap.size, 2, none⟩ = some (.slice A n cap) ∧ w'.cell? ⟨w.heap.size, 3, none⟩ = some (.slice B m capd) ∧ w'.cell? ⟨w.heap.size, 4, none⟩ = some (.int .i64 nx) ∧ w'.cell? ⟨w.heap.size, 5, none⟩ = some (.bool op) ∧ w'.cell? ⟨w.heap.size + 1, 0, none⟩ = some (.int .i64 p0) ∧ w'.cell? ⟨w.heap.size + 1, 1, none⟩ = some (.int .i64 p1) ∧ w'.cell? ⟨w.heap.size + 1, 2, none⟩ = some (.int .i64 p2) ∧ w'.cell? ⟨w.heap.size + 1, 3, none⟩ = some (.int .i64 p3) ∧ w'.cell? ⟨w.heap.size + 1, 4, none⟩ = some (.int .i64 p4) ∧ w'.cell? ⟨w.heap.size + 1, 5, none⟩ = some (.int .i64 p5)) (exact HSX.out _ (by repeat (first | (with_reducible exact b0 _) | (with_reducible refine ba ?_ _) | (with_reducible refine bd ?_ _) | (with_reducible refine Below.drew ?_) | (with_reducible refine bsB ?_ (by first | exact Nat.le_refl _ | exact Nat.le_add_right _ _ | omega)) | (with_reducible refine bt ?_ (by assumption)))))
      (first
        | (go_at_call 31; refine (toFair_any qu li ⟨A, n, cap, B, m, capd⟩ nx op (F.map fl) D _ (HRW_a.out _ (by repeat (first | (with_reducible exact b0 _) | (with_reducible refine ba ?_ _) | (with_reducible refine bd ?_ _) | (with_reducible refine Below.drew ?_) | (with_reducible refine bsB ?_ (by first | exact Nat.le_refl _ | exact Nat.le_add_right _ _ | omega)) | (with_reducible refine bt ?_ (by assumption))))) HG2.out hn2 hm2).mono ?_; rintro e v0 ⟨M_s, rfl, ho_s, hbr0⟩; have zz0 := hbr0.size; (try simp at zz0); (try (have rx0_0 := fun o => bkeep hbr0 (w1.heap.size) o (by first | omega | (simp; done) | (simp; omega)); have rf0_0 := fun o => bfree hbr0 (w1.heap.size) o (by first | omega | (simp; done) | (simp; omega)))))
        | (go_at_call 15; refine (toPacket_any _ _ _ _ _ _ _).mono ?_; rintro e v1 ⟨rfl, hbr1⟩; have zz1 := hbr1.size; (try simp at zz1); (try (have rx1_0 := fun o => bkeep hbr1 (w1.heap.size) o (by first | omega | (simp; done) | (simp; omega)); have rf1_0 := fun o => bfree hbr1 (w1.heap.size) o (by first | omega | (simp; done) | (simp; omega)))); (try (have rx1_1 := fun o => bkeep hbr1 (v0.heap.size) o (by first | omega | (simp; done) | (simp; omega)); have rf1_1 := fun o => bfree hbr1 (v0.heap.size) o (by first | omega | (simp; done) | (simp; omega)))))
        | (go_at_call 46; refine (HSP.out M_s _ (ho_s.row.below (by repeat (first | (with_reducible exact b0 _) | (with_reducible refine ba ?_ _) | (with_reducible refine bd ?_ _) | (with_reducible refine Below.drew ?_) | (with_reducible refine bsB ?_ (by first | exact Nat.le_refl _ | exact Nat.le_add_right _ _ | omega)) | (with_reducible refine bt ?_ (by assumption))))) (by have := ho_s.len; have := HLN.out; omega) (by have := ho_s.len; have := HLN.out; omega)).mono ?_; rintro e v2 ⟨M_v, rfl, ho_v, hbr2⟩; have zz2 := hbr2.size; (try simp at zz2); (try (have rx2_0 := fun o => bkeep hbr2 (w1.heap.size) o (by first | omega | (simp; done) | (simp; omega)); have rf2_0 := fun o => bfree hbr2 (w1.heap.size) o (by first | omega | (simp; done) | (simp; omega)))); (try (have rx2_1 := fun o => bkeep hbr2 (v0.heap.size) o (by first | omega | (simp; done) | (simp; omega)); have rf2_1 := fun o => bfree hbr2 (v0.heap.size) o (by first | omega | (simp; done) | (simp; omega)))); (try (have rx2_2 := fun o => bkeep hbr2 (v1.heap.size) o (by first | omega | (simp; done) | (simp; omega)); have rf2_2 := fun o => bfree hbr2 (v1.heap.size) o (by first | omega | (simp; done) | (simp; omega)))); obtain ⟨lo_v, hi_v, tl_v, th_v, ho_v⟩ := ownF_ex ho_v hbr2.size; (try simp at tl_v); (try simp at th_v)))
    all_goals (go_wp2_with fail; go_meet; clear HSX; first | ((with_reducible refine ⟨v2.heap.size, M_v, lo_v, hi_v, rfl, rfl, rfl, ?_⟩); (with_reducible refine FinF.close1 (FinF.new ?_) ho_v ?_ ?_ ?_); all_goals first | omega | exact (by repeat (first | (with_reducible exact b0 _) | (with_reducible refine ba ?_ _) | (with_reducible refine bd ?_ _) | (with_reducible refine Below.drew ?_) | (with_reducible refine bsB ?_ (by first | exact Nat.le_refl _ | exact Nat.le_add_right _ _ | omega)) | (with_reducible refine bt ?_ (by assumption))))) | ((with_reducible refine ⟨v1.heap.size, M_v, lo_v, hi_v, rfl, rfl, rfl, ?_⟩); (with_reducible refine FinF.close1 (FinF.old6 ?_ (show Bk v2 (v1.heap.size) 56 _ from ((Bk.new_ rfl).old hbr2)) ?_) ho_v ?_ ?_ ?_); all_goals first | omega | exact (by repeat (first | (with_reducible exact b0 _) | (with_reducible refine ba ?_ _) | (with_reducible refine bd ?_ _) | (with_reducible refine Below.drew ?_) | (with_reducible refine bsB ?_ (by first | exact Nat.le_refl _ | exact Nat.le_add_right _ _ | omega)) | (with_reducible refine bt ?_ (by assumption))))) | ((with_reducible refine ⟨v0.heap.size, M_v, lo_v, hi_v, rfl, rfl, rfl, ?_⟩); (with_reducible refine FinF.close1 (FinF.old6 ?_ (show Bk v2 (v0.heap.size) 56 _ from (((Bk.new_ rfl).old hbr1).old hbr2)) ?_) ho_v ?_ ?_ ?_); all_goals first | omega | exact (by repeat (first | (with_reducible exact b0 _) | (with_reducible refine ba ?_ _) | (with_reducible refine bd ?_ _) | (with_reducible refine Below.drew ?_) | (with_reducible refine bsB ?_ (by first | exact Nat.le_refl _ | exact Nat.le_add_right _ _ | omega)) | (with_reducible refine bt ?_ (by assumption))))) | ((with_reducible refine ⟨w1.heap.size, M_v, lo_v, hi_v, rfl, rfl, rfl, ?_⟩); (with_reducible refine FinF.close1 (FinF.old6 ?_ (show Bk v2 (w1.heap.size) 56 _ from ((((Bk.new_ rfl).old hbr0).old hbr1).old hbr2)) ?_) ho_v ?_ ?_ ?_); all_goals first | omega | exact (by repeat (first | (with_reducible exact b0 _) | (with_reducible refine ba ?_ _) | (with_reducible refine bd ?_ _) | (with_reducible refine Below.drew ?_) | (with_reducible refine bsB ?_ (by first | exact Nat.le_refl _ | exact Nat.le_add_right _ _ | omega)) | (with_reducible refine bt ?_ (by assumption))))) | ((with_reducible refine ⟨w1.heap.size, M_v, lo_v, hi_v, rfl, rfl, rfl, ?_⟩); (with_reducible refine FinF.close1 (FinF.old6 ?_ (show Bk v2 (w1.heap.size) 56 _ from ((((Bk.new_ rfl).drew.old hbr0).old hbr1).old hbr2)) ?_) ho_v ?_ ?_ ?_); all_goals first | omega | exact (by repeat (first | (with_reducible exact b0 _) | (with_reducible refine ba ?_ _) | (with_reducible refine bd ?_ _) | (with_reducible refine Below.drew ?_) | (with_reducible refine bsB ?_ (by first | exact Nat.le_refl _ | exact Nat.le_add_right _ _ | omega)) | (with_reducible refine bt ?_ (by assumption))))))
  obtain ⟨w2, hwc⟩ : ∃ x, x = wc := ⟨_, rfl⟩
  subst hwc
  obtain ⟨B_v0, M_v, lo_v, hi_v, rfl, rfl, rfl, ⟨lb_v0, hk_v0⟩, ho_v, ⟨tl_v, th_v, ts_v⟩, hb2⟩ := hcut
  clear HRW_a
  clear HSX
  have HN_v := Lib.hid ho_v.len
  have HO_v_2 := Lib.hid ho_v
  clear ho_v
  have z2 := hb2.size
  (try simp at z2)
  have HK_q_2 : Hid (Bk w2 (w.heap.size) 51 #[.int .i64 qu, .int .i64 li, .slice A n cap, .slice B m capd, .int .i64 nx, .bool op]) := Lib.hid (HK_q_1.out.old hb2)
  clear HK_q_1
  clear cb_q_0 cb_q_1 cb_q_2 cb_q_3 cb_q_4 cb_q_5 zb_q
  have zb_q : w.heap.size < w2.heap.size := HK_q_2.out.lt
  have cb_q_0 : w2.cell? ⟨w.heap.size, 0, none⟩ = some (.int .i64 qu) := HK_q_2.out.cell 0
  have cb_q_1 : w2.cell? ⟨w.heap.size, 1, none⟩ = some (.int .i64 li) := HK_q_2.out.cell 1
  have cb_q_2 : w2.cell? ⟨w.heap.size, 2, none⟩ = some (.slice A n cap) := HK_q_2.out.cell 2
  have cb_q_3 : w2.cell? ⟨w.heap.size, 3, none⟩ = some (.slice B m capd) := HK_q_2.out.cell 3
  have cb_q_4 : w2.cell? ⟨w.heap.size, 4, none⟩ = some (.int .i64 nx) := HK_q_2.out.cell 4
  have cb_q_5 : w2.cell? ⟨w.heap.size, 5, none⟩ = some (.bool op) := HK_q_2.out.cell 5
  have HK_p_2 : Hid (Bk w2 (w.heap.size + 1) 26 #[.int .i64 p0, .int .i64 p1, .int .i64 p2, .int .i64 p3, .int .i64 p4, .int .i64 p5]) := Lib.hid (HK_p_1.out.old hb2)
  clear HK_p_1
  clear cb_p_0 cb_p_1 cb_p_2 cb_p_3 cb_p_4 cb_p_5 zb_p
  have zb_p : w.heap.size + 1 < w2.heap.size := HK_p_2.out.lt
  have cb_p_0 : w2.cell? ⟨w.heap.size + 1, 0, none⟩ = some (.int .i64 p0) := HK_p_2.out.cell 0
  have cb_p_1 : w2.cell? ⟨w.heap.size + 1, 1, none⟩ = some (.int .i64 p1) := HK_p_2.out.cell 1
  have cb_p_2 : w2.cell? ⟨w.heap.size + 1, 2, none⟩ = some (.int .i64 p2) := HK_p_2.out.cell 2
  have cb_p_3 : w2.cell? ⟨w.heap.size + 1, 3, none⟩ = some (.int .i64 p3) := HK_p_2.out.cell 3
  have cb_p_4 : w2.cell? ⟨w.heap.size + 1, 4, none⟩ = some (.int .i64 p4) := HK_p_2.out.cell 4
  have cb_p_5 : w2.cell? ⟨w.heap.size + 1, 5, none⟩ = some (.int .i64 p5) := HK_p_2.out.cell 5
  have HB_2 := Lib.hid (bt HB_1.out hb2)
  clear hb2
  have HK_v0_2 := Lib.hid hk_v0
  clear hk_v0
  have zb_v0 : B_v0 < w2.heap.size := HK_v0_2.out.lt
  have zy_v0 := zb_v0
  have cb_v0_0 : w2.cell? ⟨B_v0, 0, none⟩ = some (.int .i64 xq) := HK_v0_2.out.cell 0
  have cb_v0_1 : w2.cell? ⟨B_v0, 1, none⟩ = some (.int .i64 xl) := HK_v0_2.out.cell 1
  have cb_v0_2 : w2.cell? ⟨B_v0, 2, none⟩ = some (.slice M_v.A M_v.n M_v.cap) := HK_v0_2.out.cell 2
  have cb_v0_3 : w2.cell? ⟨B_v0, 3, none⟩ = some (.slice M_v.B M_v.m M_v.capd) := HK_v0_2.out.cell 3
  have cb_v0_4 : w2.cell? ⟨B_v0, 4, none⟩ = some (.int .i64 xn) := HK_v0_2.out.cell 4
  have cb_v0_5 : w2.cell? ⟨B_v0, 5, none⟩ = some (.bool xo) := HK_v0_2.out.cell 5
  go_wp2_with fail
  refine (toFair_any qu li ⟨A, n, cap, B, m, capd⟩ nx op (F.map fl) D _ (HR_a.out.below HB_2.out) HG2.out hn2 hm2).mono ?_
  rintro e w3 ⟨M_x, rfl, ho_x, hb3⟩
  have HN_x := Lib.hid ho_x.len
  have HO_x_3 := Lib.hid ho_x
  clear ho_x
  have z3 := hb3.size
  (try simp at z3)
  have HK_q_3 : Hid (Bk w3 (w.heap.size) 51 #[.int .i64 qu, .int .i64 li, .slice A n cap, .slice B m capd, .int .i64 nx, .bool op]) := Lib.hid (HK_q_2.out.old hb3)
  clear HK_q_2
  clear cb_q_0 cb_q_1 cb_q_2 cb_q_3 cb_q_4 cb_q_5 zb_q
  have zb_q : w.heap.size < w3.heap.size := HK_q_3.out.lt
  have cb_q_0 : w3.cell? ⟨w.heap.size, 0, none⟩ = some (.int .i64 qu) := HK_q_3.out.cell 0
  have cb_q_1 : w3.cell? ⟨w.heap.size, 1, none⟩ = some (.int .i64 li) := HK_q_3.out.cell 1
  have cb_q_2 : w3.cell? ⟨w.heap.size, 2, none⟩ = some (.slice A n cap) := HK_q_3.out.cell 2
  have cb_q_3 : w3.cell? ⟨w.heap.size, 3, none⟩ = some (.slice B m capd) := HK_q_3.out.cell 3
  have cb_q_4 : w3.cell? ⟨w.heap.size, 4, none⟩ = some (.int .i64 nx) := HK_q_3.out.cell 4
  have cb_q_5 : w3.cell? ⟨w.heap.size, 5, none⟩ = some (.bool op) := HK_q_3.out.cell 5
  have HK_p_3 : Hid (Bk w3 (w.heap.size + 1) 26 #[.int .i64 p0, .int .i64 p1, .int .i64 p2, .int .i64 p3, .int .i64 p4, .int .i64 p5]) := Lib.hid (HK_p_2.out.old hb3)
  clear HK_p_2
  clear cb_p_0 cb_p_1 cb_p_2 cb_p_3 cb_p_4 cb_p_5 zb_p
  have zb_p : w.heap.size + 1 < w3.heap.size := HK_p_3.out.lt
  have cb_p_0 : w3.cell? ⟨w.heap.size + 1, 0, none⟩ = some (.int .i64 p0) := HK_p_3.out.cell 0
  have cb_p_1 : w3.cell? ⟨w.heap.size + 1, 1, none⟩ = some (.int .i64 p1) := HK_p_3.out.cell 1
  have cb_p_2 : w3.cell? ⟨w.heap.size + 1, 2, none⟩ = some (.int .i64 p2) := HK_p_3.out.cell 2
  have cb_p_3 : w3.cell? ⟨w.heap.size + 1, 3, none⟩ = some (.int .i64 p3) := HK_p_3.out.cell 3
  have cb_p_4 : w3.cell? ⟨w.heap.size + 1, 4, none⟩ = some (.int .i64 p4) := HK_p_3.out.cell 4
  have cb_p_5 : w3.cell? ⟨w.heap.size + 1, 5, none⟩ = some (.int .i64 p5) := HK_p_3.out.cell 5
  have HK_v0_3 : Hid (Bk w3 (B_v0) 56 #[.int .i64 xq, .int .i64 xl, .slice M_v.A M_v.n M_v.cap, .slice M_v.B M_v.m M_v.capd, .int .i64 xn, .bool xo]) := Lib.hid (HK_v0_2.out.old hb3)
  clear HK_v0_2
  clear cb_v0_0 cb_v0_1 cb_v0_2 cb_v0_3 cb_v0_4 cb_v0_5 zb_v0
  have zb_v0 : B_v0 < w3.heap.size := HK_v0_3.out.lt
  have cb_v0_0 : w3.cell? ⟨B_v0, 0, none⟩ = some (.int .i64 xq) := HK_v0_3.out.cell 0
  have cb_v0_1 : w3.cell? ⟨B_v0, 1, none⟩ = some (.int .i64 xl) := HK_v0_3.out.cell 1
  have cb_v0_2 : w3.cell? ⟨B_v0, 2, none⟩ = some (.slice M_v.A M_v.n M_v.cap) := HK_v0_3.out.cell 2
  have cb_v0_3 : w3.cell? ⟨B_v0, 3, none⟩ = some (.slice M_v.B M_v.m M_v.capd) := HK_v0_3.out.cell 3
  have cb_v0_4 : w3.cell? ⟨B_v0, 4, none⟩ = some (.int .i64 xn) := HK_v0_3.out.cell 4
  have cb_v0_5 : w3.cell? ⟨B_v0, 5, none⟩ = some (.bool xo) := HK_v0_3.out.cell 5
  have HO_v_3 := Lib.hid (HO_v_2.out.old hb3)
  clear HO_v_2
  have HB_3 := Lib.hid (bt HB_2.out hb3)
  clear hb3
  go_wp2_with fail
  generalize hW4 : World.alloc w3 (.cells #[.int .i64 qu, .int .i64 li, .slice M_x.A M_x.n M_x.cap, .slice M_x.B M_x.m M_x.capd, .int .i64 nx, .bool op] 56) = w4
  have hb4 : Below w3.heap.size w3 w4 := hW4 ▸ ba (b0 _) _
  have hk0 : Bk w4 (w3.heap.size) 56 #[.int .i64 qu, .int .i64 li, .slice M_x.A M_x.n M_x.cap, .slice M_x.B M_x.m M_x.capd, .int .i64 nx, .bool op] := hW4 ▸ Bk.new_ rfl
  clear hW4
  have z4 := hb4.size
  (try simp at z4)
  have HK_q_4 : Hid (Bk w4 (w.heap.size) 51 #[.int .i64 qu, .int .i64 li, .slice A n cap, .slice B m capd, .int .i64 nx, .bool op]) := Lib.hid (HK_q_3.out.old hb4)
  clear HK_q_3
  clear cb_q_0 cb_q_1 cb_q_2 cb_q_3 cb_q_4 cb_q_5 zb_q
  have zb_q : w.heap.size < w4.heap.size := HK_q_4.out.lt
  have cb_q_0 : w4.cell? ⟨w.heap.size, 0, none⟩ = some (.int .i64 qu) := HK_q_4.out.cell 0
  have cb_q_1 : w4.cell? ⟨w.heap.size, 1, none⟩ = some (.int .i64 li) := HK_q_4.out.cell 1
  have cb_q_2 : w4.cell? ⟨w.heap.size, 2, none⟩ = some (.slice A n cap) := HK_q_4.out.cell 2
  have cb_q_3 : w4.cell? ⟨w.heap.size, 3, none⟩ = some (.slice B m capd) := HK_q_4.out.cell 3
  have cb_q_4 : w4.cell? ⟨w.heap.size, 4, none⟩ = some (.int .i64 nx) := HK_q_4.out.cell 4
  have cb_q_5 : w4.cell? ⟨w.heap.size, 5, none⟩ = some (.bool op) := HK_q_4.out.cell 5
  have HK_p_4 : Hid (Bk w4 (w.heap.size + 1) 26 #[.int .i64 p0, .int .i64 p1, .int .i64 p2, .int .i64 p3, .int .i64 p4, .int .i64 p5]) := Lib.hid (HK_p_3.out.old hb4)
  clear HK_p_3
  clear cb_p_0 cb_p_1 cb_p_2 cb_p_3 cb_p_4 cb_p_5 zb_p
  have zb_p : w.heap.size + 1 < w4.heap.size := HK_p_4.out.lt
  have cb_p_0 : w4.cell? ⟨w.heap.size + 1, 0, none⟩ = some (.int .i64 p0) := HK_p_4.out.cell 0
  have cb_p_1 : w4.cell? ⟨w.heap.size + 1, 1, none⟩ = some (.int .i64 p1) := HK_p_4.out.cell 1
  have cb_p_2 : w4.cell? ⟨w.heap.size + 1, 2, none⟩ = some (.int .i64 p2) := HK_p_4.out.cell 2
  have cb_p_3 : w4.cell? ⟨w.heap.size + 1, 3, none⟩ = some (.int .i64 p3) := HK_p_4.out.cell 3
  have cb_p_4 : w4.cell? ⟨w.heap.size + 1, 4, none⟩ = some (.int .i64 p4) := HK_p_4.out.cell 4
  have cb_p_5 : w4.cell? ⟨w.heap.size + 1, 5, none⟩ = some (.int .i64 p5) := HK_p_4.out.cell 5
  have HK_v0_4 : Hid (Bk w4 (B_v0) 56 #[.int .i64 xq, .int .i64 xl, .slice M_v.A M_v.n M_v.cap, .slice M_v.B M_v.m M_v.capd, .int .i64 xn, .bool xo]) := Lib.hid (HK_v0_3.out.old hb4)
  clear HK_v0_3
  clear cb_v0_0 cb_v0_1 cb_v0_2 cb_v0_3 cb_v0_4 cb_v0_5 zb_v0
  have zb_v0 : B_v0 < w4.heap.size := HK_v0_4.out.lt
  have cb_v0_0 : w4.cell? ⟨B_v0, 0, none⟩ = some (.int .i64 xq) := HK_v0_4.out.cell 0
  have cb_v0_1 : w4.cell? ⟨B_v0, 1, none⟩ = some (.int .i64 xl) := HK_v0_4.out.cell 1
  have cb_v0_2 : w4.cell? ⟨B_v0, 2, none⟩ = some (.slice M_v.A M_v.n M_v.cap) := HK_v0_4.out.cell 2
  have cb_v0_3 : w4.cell? ⟨B_v0, 3, none⟩ = some (.slice M_v.B M_v.m M_v.capd) := HK_v0_4.out.cell 3
  have cb_v0_4 : w4.cell? ⟨B_v0, 4, none⟩ = some (.int .i64 xn) := HK_v0_4.out.cell 4
  have cb_v0_5 : w4.cell? ⟨B_v0, 5, none⟩ = some (.bool xo) := HK_v0_4.out.cell 5
  have HO_v_4 := Lib.hid (HO_v_3.out.old hb4)
  clear HO_v_3
  have HO_x_4 := Lib.hid (HO_x_3.out.old hb4)
  clear HO_x_3
  have HB_4 := Lib.hid (bt HB_3.out hb4)
  clear hb4
  have HK_x0_4 := Lib.hid hk0
  clear hk0
  have zb_x0 : w3.heap.size < w4.heap.size := HK_x0_4.out.lt
  have zy_x0 := zb_x0
  have cb_x0_0 : w4.cell? ⟨w3.heap.size, 0, none⟩ = some (.int .i64 qu) := HK_x0_4.out.cell 0
  have cb_x0_1 : w4.cell? ⟨w3.heap.size, 1, none⟩ = some (.int .i64 li) := HK_x0_4.out.cell 1
  have cb_x0_2 : w4.cell? ⟨w3.heap.size, 2, none⟩ = some (.slice M_x.A M_x.n M_x.cap) := HK_x0_4.out.cell 2
  have cb_x0_3 : w4.cell? ⟨w3.heap.size, 3, none⟩ = some (.slice M_x.B M_x.m M_x.capd) := HK_x0_4.out.cell 3
  have cb_x0_4 : w4.cell? ⟨w3.heap.size, 4, none⟩ = some (.int .i64 nx) := HK_x0_4.out.cell 4
  have cb_x0_5 : w4.cell? ⟨w3.heap.size, 5, none⟩ = some (.bool op) := HK_x0_4.out.cell 5
  have HSX := Lib.hid (show ∀ w' : World, Below w4.heap.size w4 w' → (fun w' => w'.cell? ⟨w.heap.size, 0, none⟩ = some (.int .i64 qu) ∧ w'.cell? ⟨w.heap.size, 1, none⟩ = some (.int .i64 li) ∧ w'.cell? ⟨w.heap.size, 2, none⟩ = some (.slice A n cap) ∧ w'.cell? ⟨w.heap.size, 3, none⟩ = some (.slice B m capd) ∧ w'.cell? ⟨w.heap.size, 4, none⟩ = some (.int .i64 nx) ∧ w'.cell? ⟨w.heap.size, 5, none⟩ = some (.bool op) ∧ w'.cell? ⟨w.heap.size + 1, 0, none⟩ = some (.int .i64 p0) ∧ w'.cell? ⟨w.heap.size + 1, 1, none⟩ = some (.int .i64 p1) ∧ w'.cell? ⟨w.heap.size + 1, 2, none⟩ = some (.int .i64 p2) ∧ w'.cell? ⟨w.heap.size + 1, 3, none⟩ = some (.int .i64 p3) ∧ w'.cell? ⟨w.heap.size + 1, 4, none⟩ = some (.int .i64 p4) ∧ w'.cell? ⟨w.heap.size + 1, 5, none⟩ = some (.int .i64 p5) ∧ w'.cell? ⟨B_v0, 0, none⟩ = some (.int .i64 xq) ∧ w'.cell? ⟨B_v0, 1, none⟩ = some (.int .i64 xl) ∧ w'.cell? ⟨B_v0, 2, none⟩ = some (.slice M_v.A M_v.n M_v.cap) ∧ w'.cell? ⟨B_v0, 3, none⟩ = some (.slice M_v.B M_v.m M_v.capd) ∧ w'.cell? ⟨B_v0, 4, none⟩ = some (.int .i64 xn) ∧ w'.cell? ⟨B_v0, 5, none⟩ = some (.bool xo) ∧ w'.cell? ⟨w3.heap.size, 0, none⟩ = some (.int .i64 qu) ∧ w'.cell? ⟨w3.heap.size, 1, none⟩ = some (.int .i64 li) ∧ w'.cell? ⟨w3.heap.size, 2, none⟩ = some (.slice M_x.A M_x.n M_x.cap) ∧ w'.cell? ⟨w3.heap.size, 3, none⟩ = some (.slice M_x.B M_x.m M_x.capd) ∧ w'.cell? ⟨w3.heap.size, 4, none⟩ = some (.int .i64 nx) ∧ w'.cell? ⟨w3.heap.size, 5, none⟩ = some (.bool op)) w' from fun w' hb => ⟨(bkeep hb _ _ zb_q).trans cb_q_0, (bkeep hb _ _ zb_q).trans cb_q_1, (bkeep hb _ _ zb_q).trans cb_q_2, (bkeep hb _ _ zb_q).trans cb_q_3, (bkeep hb _ _ zb_q).trans cb_q_4, (bkeep hb _ _ zb_q).trans cb_q_5, (bkeep hb _ _ zb_p).trans cb_p_0, (bkeep hb _ _ zb_p).trans cb_p_1, (bkeep hb _ _ zb_p).trans cb_p_2, (bkeep hb _ _ zb_p).trans cb_p_3, (bkeep hb _ _ zb_p).trans cb_p_4, (bkeep hb _ _ zb_p).trans cb_p_5, (bkeep hb _ _ zb_v0).trans cb_v0_0, (bkeep hb _ _ zb_v0).trans cb_v0_1, (bkeep hb _ _ zb_v0).trans cb_v0_2, (bkeep hb _ _ zb_v0).trans cb_v0_3, (bkeep hb _ _ zb_v0).trans cb_v0_4, (bkeep hb _ _ zb_v0).trans cb_v0_5, (bkeep hb _ _ zb_x0).trans cb_x0_0, (bkeep hb _ _ zb_x0).trans cb_x0_1, (bkeep hb _ _ zb_x0).trans cb_x0_2, (bkeep hb _ _ zb_x0).trans cb_x0_3, (bkeep hb _ _ zb_x0).trans cb_x0_4, (bkeep hb _ _ zb_x0).trans cb_x0_5⟩)
  have HRW_a := Lib.hid (fun (W : World) (hb : Below w4.heap.size w4 W) => (HR_a.out.below HB_4.out).below hb)
  have HRW_x := Lib.hid (fun (W : World) (hb : Below w4.heap.size w4 W) => HO_x_4.out.row.below hb)
  go_cut [10, 11, 12] (fun a10 a11 a12 wx => ∃ (B_g0 : Nat) (M_g : Fm) (lo_g : Nat) (hi_g : Nat), a10 = .pointer (some ⟨B_g0, 0, none⟩) ∧ a11 = .bool xi2 ∧ a12 = .bool ok ∧ (w4.heap.size ≤ B_g0 ∧ Bk wx B_g0 56 #[.int .i64 xq, .int .i64 xl, .slice M_g.A M_g.n M_g.cap, .slice M_g.B M_g.m M_g.capd, .int .i64 xn, .bool xo]) ∧ FOwn wx lo_g hi_g M_g E T ∧ (w4.heap.size ≤ lo_g ∧ hi_g ≤ wx.heap.size ∧ ((B_g0 < lo_g ∨ hi_g ≤ B_g0) ∧ lo_g ≤ hi_g)) ∧ Below w4.heap.size w4 wx)
  case first =>
    go_region_held3 (fun w' => w'.cell? ⟨w.heap.size, 0, none⟩ = some (.int .i64 qu) ∧ w'.cell? ⟨w.heap.size, 1, none⟩ = some (.int .i64 li) ∧ w'.cell? ⟨w.heap.size, 2, none⟩ = some (.slice A n cap) ∧ w'.cell? ⟨w.heap.size, 3, none⟩ = some (.slice B m capd) ∧ w'.cell? ⟨w.heap.size, 4, none⟩ = some (.int .i64 nx) ∧ w'.cell? ⟨w.heap.size, 5, none⟩ = some (.bool op) ∧ w'.cell? ⟨w.heap.size + 1, 0, none⟩ = some (.int .i64 p0) ∧ w'.cell? ⟨w.heap.size + 1, 1, none⟩ = some (.int .i64 p1) ∧ w'.cell? ⟨w.heap.size + 1, 2, none⟩ = some (.int .i64 p2) ∧ w'.cell? ⟨w.heap.size + 1, 3, none⟩ = some (.int .i64 p3) ∧ w'.cell? ⟨w.heap.size + 1, 4, none⟩ = some (.int .i64 p4) ∧ w'.cell? ⟨w.heap.size + 1, 5, none⟩ = some (.int .i64 p5) ∧ w'.cell? ⟨B_v0, 0, none⟩ = some (.int .i64 xq) ∧ w'.cell? ⟨B_v0, 1, none⟩ = some (.int .i64 xl) ∧ w'.cell? ⟨B_v0, 2, none⟩ = some (.slice M_v.A M_v.n M_v.cap) ∧ w'.cell? ⟨B_v0, 3, none⟩ = some (.slice M_v.B M_v.m M_v.capd) ∧ w'.cell? ⟨B_v0, 4, none⟩ = some (.int .i64 xn) ∧ w'.cell? ⟨B_v0, 5, none⟩ = some (.bool xo) ∧ w'.cell? ⟨w3.heap.size, 0, none⟩ = some (.int .i64 qu) ∧ w'.cell? ⟨w3.heap.size, 1, none⟩ = some (.int .i64 li) ∧ w'.cell? ⟨w3.heap.size, 2, none⟩ = some (.slice M_x.A M_x.n M_x.cap) ∧ w'.cell? ⟨w3.heap.size, 3, none⟩ = some (.slice M_x.B M_x.m M_x.capd) ∧ w'.cell? ⟨w3.heap.size, 4, none⟩ = some (.int .i64 nx) ∧ w'.cell? ⟨w3.heap.size, 5, none⟩ = some (.bool op)) (exact HSX.out _ (by repeat (first | (with_reducible exact b0 _) | (with_reducible refine ba ?_ _) | (with_reducible refine bd ?_ _) | (with_reducible refine Below.drew ?_) | (with_reducible refine bsB ?_ (by first | exact Nat.le_refl _ | exact Nat.le_add_right _ _ | omega)) | (with_reducible refine bt ?_ (by assumption)))))
      (first
        | (go_at_call 15; refine (toPacket_any _ _ _ _ _ _ _).mono ?_; rintro e v0 ⟨rfl, hbr0⟩; have zz0 := hbr0.size; (try simp at zz0); (try (have rx0_0 := fun o => bkeep hbr0 (w4.heap.size) o (by first | omega | (simp; done) | (simp; omega)); have rf0_0 := fun o => bfree hbr0 (w4.heap.size) o (by first | omega | (simp; done) | (simp; omega)))))
        | (go_at_call 47; refine (HIM.out M_x _ (HRW_x.out _ (by repeat (first | (with_reducible exact b0 _) | (with_reducible refine ba ?_ _) | (with_reducible refine bd ?_ _) | (with_reducible refine Below.drew ?_) | (with_reducible refine bsB ?_ (by first | exact Nat.le_refl _ | exact Nat.le_add_right _ _ | omega)) | (with_reducible refine bt ?_ (by assumption))))) (by have := HN_x.out; have := HLN.out; omega) (by have := HN_x.out; have := HLN.out; omega)).mono ?_; rintro e v1 ⟨M_g, rfl, ho_g, hbr1⟩; have zz1 := hbr1.size; (try simp at zz1); (try (have rx1_0 := fun o => bkeep hbr1 (w4.heap.size) o (by first | omega | (simp; done) | (simp; omega)); have rf1_0 := fun o => bfree hbr1 (w4.heap.size) o (by first | omega | (simp; done) | (simp; omega)))); (try (have rx1_1 := fun o => bkeep hbr1 (v0.heap.size) o (by first | omega | (simp; done) | (simp; omega)); have rf1_1 := fun o => bfree hbr1 (v0.heap.size) o (by first | omega | (simp; done) | (simp; omega)))); obtain ⟨lo_g, hi_g, tl_g, th_g, ho_g⟩ := ownF_ex ho_g hbr1.size; (try simp at tl_g); (try simp at th_g)))
    all_goals (go_wp2_with fail; go_meet; clear HSX; first | ((with_reducible refine ⟨v1.heap.size, M_g, lo_g, hi_g, rfl, rfl, rfl, ?_⟩); (with_reducible refine FinF.close1 (FinF.new ?_) ho_g ?_ ?_ ?_); all_goals first | omega | exact (by repeat (first | (with_reducible exact b0 _) | (with_reducible refine ba ?_ _) | (with_reducible refine bd ?_ _) | (with_reducible refine Below.drew ?_) | (with_reducible refine bsB ?_ (by first | exact Nat.le_refl _ | exact Nat.le_add_right _ _ | omega)) | (with_reducible refine bt ?_ (by assumption))))) | ((with_reducible refine ⟨v0.heap.size, M_g, lo_g, hi_g, rfl, rfl, rfl, ?_⟩); (with_reducible refine FinF.close1 (FinF.old6 ?_ (show Bk v1 (v0.heap.size) 56 _ from ((Bk.new_ rfl).old hbr1)) ?_) ho_g ?_ ?_ ?_); all_goals first | omega | exact (by repeat (first | (with_reducible exact b0 _) | (with_reducible refine ba ?_ _) | (with_reducible refine bd ?_ _) | (with_reducible refine Below.drew ?_) | (with_reducible refine bsB ?_ (by first | exact Nat.le_refl _ | exact Nat.le_add_right _ _ | omega)) | (with_reducible refine bt ?_ (by assumption))))) | ((with_reducible refine ⟨w4.heap.size, M_g, lo_g, hi_g, rfl, rfl, rfl, ?_⟩); (with_reducible refine FinF.close1 (FinF.old6 ?_ (show Bk v1 (w4.heap.size) 56 _ from (((Bk.new_ rfl).old hbr0).old hbr1)) ?_) ho_g ?_ ?_ ?_); all_goals first | omega | exact (by repeat (first | (with_reducible exact b0 _) | (with_reducible refine ba ?_ _) | (with_reducible refine bd ?_ _) | (with_reducible refine Below.drew ?_) | (with_reducible refine bsB ?_ (by first | exact Nat.le_refl _ | exact Nat.le_add_right _ _ | omega)) | (with_reducible refine bt ?_ (by assumption))))) | ((with_reducible refine ⟨w4.heap.size, M_g, lo_g, hi_g, rfl, rfl, rfl, ?_⟩); (with_reducible refine FinF.close1 (FinF.old6 ?_ (show Bk v1 (w4.heap.size) 56 _ from (((Bk.new_ rfl).drew.old hbr0).old hbr1)) ?_) ho_g ?_ ?_ ?_); all_goals first | omega | exact (by repeat (first | (with_reducible exact b0 _) | (with_reducible refine ba ?_ _) | (with_reducible refine bd ?_ _) | (with_reducible refine Below.drew ?_) | (with_reducible refine bsB ?_ (by first | exact Nat.le_refl _ | exact Nat.le_add_right _ _ | omega)) | (with_reducible refine bt ?_ (by assumption))))))
  obtain ⟨w5, hwc⟩ : ∃ x, x = wc := ⟨_, rfl⟩
  subst hwc
  obtain ⟨B_g0, M_g, lo_g, hi_g, rfl, rfl, rfl, ⟨lb_g0, hk_g0⟩, ho_g, ⟨tl_g, th_g, ts_g⟩, hb5⟩ := hcut
  clear HRW_a
  clear HRW_x
  clear HSX
  have HN_g := Lib.hid ho_g.len
  have HO_g_5 := Lib.hid ho_g
  clear ho_g
  have z5 := hb5.size
  (try simp at z5)
  have HK_q_5 : Hid (Bk w5 (w.heap.size) 51 #[.int .i64 qu, .int .i64 li, .slice A n cap, .slice B m capd, .int .i64 nx, .bool op]) := Lib.hid (HK_q_4.out.old hb5)
  clear HK_q_4
  clear cb_q_0 cb_q_1 cb_q_2 cb_q_3 cb_q_4 cb_q_5 zb_q
  have zb_q : w.heap.size < w5.heap.size := HK_q_5.out.lt
  have cb_q_0 : w5.cell? ⟨w.heap.size, 0, none⟩ = some (.int .i64 qu) := HK_q_5.out.cell 0
  have cb_q_1 : w5.cell? ⟨w.heap.size, 1, none⟩ = some (.int .i64 li) := HK_q_5.out.cell 1
  have cb_q_2 : w5.cell? ⟨w.heap.size, 2, none⟩ = some (.slice A n cap) := HK_q_5.out.cell 2
  have cb_q_3 : w5.cell? ⟨w.heap.size, 3, none⟩ = some (.slice B m capd) := HK_q_5.out.cell 3
  have cb_q_4 : w5.cell? ⟨w.heap.size, 4, none⟩ = some (.int .i64 nx) := HK_q_5.out.cell 4
  have cb_q_5 : w5.cell? ⟨w.heap.size, 5, none⟩ = some (.bool op) := HK_q_5.out.cell 5
  have HK_p_5 : Hid (Bk w5 (w.heap.size + 1) 26 #[.int .i64 p0, .int .i64 p1, .int .i64 p2, .int .i64 p3, .int .i64 p4, .int .i64 p5]) := Lib.hid (HK_p_4.out.old hb5)
  clear HK_p_4
  clear cb_p_0 cb_p_1 cb_p_2 cb_p_3 cb_p_4 cb_p_5 zb_p
  have zb_p : w.heap.size + 1 < w5.heap.size := HK_p_5.out.lt
  have cb_p_0 : w5.cell? ⟨w.heap.size + 1, 0, none⟩ = some (.int .i64 p0) := HK_p_5.out.cell 0
  have cb_p_1 : w5.cell? ⟨w.heap.size + 1, 1, none⟩ = some (.int .i64 p1) := HK_p_5.out.cell 1
  have cb_p_2 : w5.cell? ⟨w.heap.size + 1, 2, none⟩ = some (.int .i64 p2) := HK_p_5.out.cell 2
  have cb_p_3 : w5.cell? ⟨w.heap.size + 1, 3, none⟩ = some (.int .i64 p3) := HK_p_5.out.cell 3
  have cb_p_4 : w5.cell? ⟨w.heap.size + 1, 4, none⟩ = some (.int .i64 p4) := HK_p_5.out.cell 4
  have cb_p_5 : w5.cell? ⟨w.heap.size + 1, 5, none⟩ = some (.int .i64 p5) := HK_p_5.out.cell 5
  have HK_v0_5 : Hid (Bk w5 (B_v0) 56 #[.int .i64 xq, .int .i64 xl, .slice M_v.A M_v.n M_v.cap, .slice M_v.B M_v.m M_v.capd, .int .i64 xn, .bool xo]) := Lib.hid (HK_v0_4.out.old hb5)
  clear HK_v0_4
  clear cb_v0_0 cb_v0_1 cb_v0_2 cb_v0_3 cb_v0_4 cb_v0_5 zb_v0
  have zb_v0 : B_v0 < w5.heap.size := HK_v0_5.out.lt
  have cb_v0_0 : w5.cell? ⟨B_v0, 0, none⟩ = some (.int .i64 xq) := HK_v0_5.out.cell 0
  have cb_v0_1 : w5.cell? ⟨B_v0, 1, none⟩ = some (.int .i64 xl) := HK_v0_5.out.cell 1
  have cb_v0_2 : w5.cell? ⟨B_v0, 2, none⟩ = some (.slice M_v.A M_v.n M_v.cap) := HK_v0_5.out.cell 2
  have cb_v0_3 : w5.cell? ⟨B_v0, 3, none⟩ = some (.slice M_v.B M_v.m M_v.capd) := HK_v0_5.out.cell 3
  have cb_v0_4 : w5.cell? ⟨B_v0, 4, none⟩ = some (.int .i64 xn) := HK_v0_5.out.cell 4
  have cb_v0_5 : w5.cell? ⟨B_v0, 5, none⟩ = some (.bool xo) := HK_v0_5.out.cell 5
  have HK_x0_5 : Hid (Bk w5 (w3.heap.size) 56 #[.int .i64 qu, .int .i64 li, .slice M_x.A M_x.n M_x.cap, .slice M_x.B M_x.m M_x.capd, .int .i64 nx, .bool op]) := Lib.hid (HK_x0_4.out.old hb5)
  clear HK_x0_4
  clear cb_x0_0 cb_x0_1 cb_x0_2 cb_x0_3 cb_x0_4 cb_x0_5 zb_x0
  have zb_x0 : w3.heap.size < w5.heap.size := HK_x0_5.out.lt
  have cb_x0_0 : w5.cell? ⟨w3.heap.size, 0, none⟩ = some (.int .i64 qu) := HK_x0_5.out.cell 0
  have cb_x0_1 : w5.cell? ⟨w3.heap.size, 1, none⟩ = some (.int .i64 li) := HK_x0_5.out.cell 1
  have cb_x0_2 : w5.cell? ⟨w3.heap.size, 2, none⟩ = some (.slice M_x.A M_x.n M_x.cap) := HK_x0_5.out.cell 2
  have cb_x0_3 : w5.cell? ⟨w3.heap.size, 3, none⟩ = some (.slice M_x.B M_x.m M_x.capd) := HK_x0_5.out.cell 3
  have cb_x0_4 : w5.cell? ⟨w3.heap.size, 4, none⟩ = some (.int .i64 nx) := HK_x0_5.out.cell 4
  have cb_x0_5 : w5.cell? ⟨w3.heap.size, 5, none⟩ = some (.bool op) := HK_x0_5.out.cell 5
  have HO_v_5 := Lib.hid (HO_v_4.out.old hb5)
  clear HO_v_4
  have HO_x_5 := Lib.hid (HO_x_4.out.old hb5)
  clear HO_x_4
  have HB_5 := Lib.hid (bt HB_4.out hb5)
  clear hb5
  have HK_g0_5 := Lib.hid hk_g0
  clear hk_g0
  have zb_g0 : B_g0 < w5.heap.size := HK_g0_5.out.lt
  have zy_g0 := zb_g0
  have cb_g0_0 : w5.cell? ⟨B_g0, 0, none⟩ = some (.int .i64 xq) := HK_g0_5.out.cell 0
  have cb_g0_1 : w5.cell? ⟨B_g0, 1, none⟩ = some (.int .i64 xl) := HK_g0_5.out.cell 1
  have cb_g0_2 : w5.cell? ⟨B_g0, 2, none⟩ = some (.slice M_g.A M_g.n M_g.cap) := HK_g0_5.out.cell 2
  have cb_g0_3 : w5.cell? ⟨B_g0, 3, none⟩ = some (.slice M_g.B M_g.m M_g.capd) := HK_g0_5.out.cell 3
  have cb_g0_4 : w5.cell? ⟨B_g0, 4, none⟩ = some (.int .i64 xn) := HK_g0_5.out.cell 4
  have cb_g0_5 : w5.cell? ⟨B_g0, 5, none⟩ = some (.bool xo) := HK_g0_5.out.cell 5
  go_wp2_with fail
  refine (eqFair_any _ _ M_g _ _ E T M_v _ HO_g_5.out.row HO_v_5.out.row HGE.out (by have := HN_g.out; have := HSN.out; have := HLN.out; omega) (by have := HN_g.out; have := HSN.out; have := HLN.out; omega)).mono ?_
  rintro e w6 ⟨rfl, hb6⟩
  have z6 := hb6.size
  (try simp at z6)
  have HK_q_6 : Hid (Bk w6 (w.heap.size) 51 #[.int .i64 qu, .int .i64 li, .slice A n cap, .slice B m capd, .int .i64 nx, .bool op]) := Lib.hid (HK_q_5.out.old hb6)
  clear HK_q_5
  clear cb_q_0 cb_q_1 cb_q_2 cb_q_3 cb_q_4 cb_q_5 zb_q
  have zb_q : w.heap.size < w6.heap.size := HK_q_6.out.lt
  have cb_q_0 : w6.cell? ⟨w.heap.size, 0, none⟩ = some (.int .i64 qu) := HK_q_6.out.cell 0
  have cb_q_1 : w6.cell? ⟨w.heap.size, 1, none⟩ = some (.int .i64 li) := HK_q_6.out.cell 1
  have cb_q_2 : w6.cell? ⟨w.heap.size, 2, none⟩ = some (.slice A n cap) := HK_q_6.out.cell 2
  have cb_q_3 : w6.cell? ⟨w.heap.size, 3, none⟩ = some (.slice B m capd) := HK_q_6.out.cell 3
  have cb_q_4 : w6.cell? ⟨w.heap.size, 4, none⟩ = some (.int .i64 nx) := HK_q_6.out.cell 4
  have cb_q_5 : w6.cell? ⟨w.heap.size, 5, none⟩ = some (.bool op) := HK_q_6.out.cell 5
  have HK_p_6 : Hid (Bk w6 (w.heap.size + 1) 26 #[.int .i64 p0, .int .i64 p1, .int .i64 p2, .int .i64 p3, .int .i64 p4, .int .i64 p5]) := Lib.hid (HK_p_5.out.old hb6)
  clear HK_p_5
  clear cb_p_0 cb_p_1 cb_p_2 cb_p_3 cb_p_4 cb_p_5 zb_p
  have zb_p : w.heap.size + 1 < w6.heap.size := HK_p_6.out.lt
  have cb_p_0 : w6.cell? ⟨w.heap.size + 1, 0, none⟩ = some (.int .i64 p0) := HK_p_6.out.cell 0
  have cb_p_1 : w6.cell? ⟨w.heap.size + 1, 1, none⟩ = some (.int .i64 p1) := HK_p_6.out.cell 1
  have cb_p_2 : w6.cell? ⟨w.heap.size + 1, 2, none⟩ = some (.int .i64 p2) := HK_p_6.out.cell 2
  have cb_p_3 : w6.cell? ⟨w.heap.size + 1, 3, none⟩ = some (.int .i64 p3) := HK_p_6.out.cell 3
  have cb_p_4 : w6.cell? ⟨w.heap.size + 1, 4, none⟩ = some (.int .i64 p4) := HK_p_6.out.cell 4
  have cb_p_5 : w6.cell? ⟨w.heap.size + 1, 5, none⟩ = some (.int .i64 p5) := HK_p_6.out.cell 5
  have HK_v0_6 : Hid (Bk w6 (B_v0) 56 #[.int .i64 xq, .int .i64 xl, .slice M_v.A M_v.n M_v.cap, .slice M_v.B M_v.m M_v.capd, .int .i64 xn, .bool xo]) := Lib.hid (HK_v0_5.out.old hb6)
  clear HK_v0_5
  clear cb_v0_0 cb_v0_1 cb_v0_2 cb_v0_3 cb_v0_4 cb_v0_5 zb_v0
  have zb_v0 : B_v0 < w6.heap.size := HK_v0_6.out.lt
  have cb_v0_0 : w6.cell? ⟨B_v0, 0, none⟩ = some (.int .i64 xq) := HK_v0_6.out.cell 0
  have cb_v0_1 : w6.cell? ⟨B_v0, 1, none⟩ = some (.int .i64 xl) := HK_v0_6.out.cell 1
  have cb_v0_2 : w6.cell? ⟨B_v0, 2, none⟩ = some (.slice M_v.A M_v.n M_v.cap) := HK_v0_6.out.cell 2
  have cb_v0_3 : w6.cell? ⟨B_v0, 3, none⟩ = some (.slice M_v.B M_v.m M_v.capd) := HK_v0_6.out.cell 3
  have cb_v0_4 : w6.cell? ⟨B_v0, 4, none⟩ = some (.int .i64 xn) := HK_v0_6.out.cell 4
  have cb_v0_5 : w6.cell? ⟨B_v0, 5, none⟩ = some (.bool xo) := HK_v0_6.out.cell 5
  have HK_x0_6 : Hid (Bk w6 (w3.heap.size) 56 #[.int .i64 qu, .int .i64 li, .slice M_x.A M_x.n M_x.cap, .slice M_x.B M_x.m M_x.capd, .int .i64 nx, .bool op]) := Lib.hid (HK_x0_5.out.old hb6)
  clear HK_x0_5
  clear cb_x0_0 cb_x0_1 cb_x0_2 cb_x0_3 cb_x0_4 cb_x0_5 zb_x0
  have zb_x0 : w3.heap.size < w6.heap.size := HK_x0_6.out.lt
  have cb_x0_0 : w6.cell? ⟨w3.heap.size, 0, none⟩ = some (.int .i64 qu) := HK_x0_6.out.cell 0
  have cb_x0_1 : w6.cell? ⟨w3.heap.size, 1, none⟩ = some (.int .i64 li) := HK_x0_6.out.cell 1
  have cb_x0_2 : w6.cell? ⟨w3.heap.size, 2, none⟩ = some (.slice M_x.A M_x.n M_x.cap) := HK_x0_6.out.cell 2
  have cb_x0_3 : w6.cell? ⟨w3.heap.size, 3, none⟩ = some (.slice M_x.B M_x.m M_x.capd) := HK_x0_6.out.cell 3
  have cb_x0_4 : w6.cell? ⟨w3.heap.size, 4, none⟩ = some (.int .i64 nx) := HK_x0_6.out.cell 4
  have cb_x0_5 : w6.cell? ⟨w3.heap.size, 5, none⟩ = some (.bool op) := HK_x0_6.out.cell 5
  have HK_g0_6 : Hid (Bk w6 (B_g0) 56 #[.int .i64 xq, .int .i64 xl, .slice M_g.A M_g.n M_g.cap, .slice M_g.B M_g.m M_g.capd, .int .i64 xn, .bool xo]) := Lib.hid (HK_g0_5.out.old hb6)
  clear HK_g0_5
  clear cb_g0_0 cb_g0_1 cb_g0_2 cb_g0_3 cb_g0_4 cb_g0_5 zb_g0
  have zb_g0 : B_g0 < w6.heap.size := HK_g0_6.out.lt
  have cb_g0_0 : w6.cell? ⟨B_g0, 0, none⟩ = some (.int .i64 xq) := HK_g0_6.out.cell 0
  have cb_g0_1 : w6.cell? ⟨B_g0, 1, none⟩ = some (.int .i64 xl) := HK_g0_6.out.cell 1
  have cb_g0_2 : w6.cell? ⟨B_g0, 2, none⟩ = some (.slice M_g.A M_g.n M_g.cap) := HK_g0_6.out.cell 2
  have cb_g0_3 : w6.cell? ⟨B_g0, 3, none⟩ = some (.slice M_g.B M_g.m M_g.capd) := HK_g0_6.out.cell 3
  have cb_g0_4 : w6.cell? ⟨B_g0, 4, none⟩ = some (.int .i64 xn) := HK_g0_6.out.cell 4
  have cb_g0_5 : w6.cell? ⟨B_g0, 5, none⟩ = some (.bool xo) := HK_g0_6.out.cell 5
  have HO_v_6 := Lib.hid (HO_v_5.out.old hb6)
  clear HO_v_5
  have HO_x_6 := Lib.hid (HO_x_5.out.old hb6)
  clear HO_x_5
  have HO_g_6 := Lib.hid (HO_g_5.out.old hb6)
  clear HO_g_5
  have HB_6 := Lib.hid (bt HB_5.out hb6)
  clear hb6
  go_wp2_with fail
  go_region_held3 (fun w' => w'.cell? ⟨w.heap.size, 0, none⟩ = some (.int .i64 qu) ∧ w'.cell? ⟨w.heap.size, 1, none⟩ = some (.int .i64 li) ∧ w'.cell? ⟨w.heap.size, 2, none⟩ = some (.slice A n cap) ∧ w'.cell? ⟨w.heap.size, 3, none⟩ = some (.slice B m capd) ∧ w'.cell? ⟨w.heap.size, 4, none⟩ = some (.int .i64 nx) ∧ w'.cell? ⟨w.heap.size, 5, none⟩ = some (.bool op) ∧ w'.cell? ⟨w.heap.size + 1, 0, none⟩ = some (.int .i64 p0) ∧ w'.cell? ⟨w.heap.size + 1, 1, none⟩ = some (.int .i64 p1) ∧ w'.cell? ⟨w.heap.size + 1, 2, none⟩ = some (.int .i64 p2) ∧ w'.cell? ⟨w.heap.size + 1, 3, none⟩ = some (.int .i64 p3) ∧ w'.cell? ⟨w.heap.size + 1, 4, none⟩ = some (.int .i64 p4) ∧ w'.cell? ⟨w.heap.size + 1, 5, none⟩ = some (.int .i64 p5) ∧ w'.cell? ⟨B_v0, 0, none⟩ = some (.int .i64 xq) ∧ w'.cell? ⟨B_v0, 1, none⟩ = some (.int .i64 xl) ∧ w'.cell? ⟨B_v0, 2, none⟩ = some (.slice M_v.A M_v.n M_v.cap) ∧ w'.cell? ⟨B_v0, 3, none⟩ = some (.slice M_v.B M_v.m M_v.capd) ∧ w'.cell? ⟨B_v0, 4, none⟩ = some (.int .i64 xn) ∧ w'.cell? ⟨B_v0, 5, none⟩ = some (.bool xo) ∧ w'.cell? ⟨w3.heap.size, 0, none⟩ = some (.int .i64 qu) ∧ w'.cell? ⟨w3.heap.size, 1, none⟩ = some (.int .i64 li) ∧ w'.cell? ⟨w3.heap.size, 2, none⟩ = some (.slice M_x.A M_x.n M_x.cap) ∧ w'.cell? ⟨w3.heap.size, 3, none⟩ = some (.slice M_x.B M_x.m M_x.capd) ∧ w'.cell? ⟨w3.heap.size, 4, none⟩ = some (.int .i64 nx) ∧ w'.cell? ⟨w3.heap.size, 5, none⟩ = some (.bool op) ∧ w'.cell? ⟨B_g0, 0, none⟩ = some (.int .i64 xq) ∧ w'.cell? ⟨B_g0, 1, none⟩ = some (.int .i64 xl) ∧ w'.cell? ⟨B_g0, 2, none⟩ = some (.slice M_g.A M_g.n M_g.cap) ∧ w'.cell? ⟨B_g0, 3, none⟩ = some (.slice M_g.B M_g.m M_g.capd) ∧ w'.cell? ⟨B_g0, 4, none⟩ = some (.int .i64 xn) ∧ w'.cell? ⟨B_g0, 5, none⟩ = some (.bool xo)) (go_keep)
    (first
      | (go_at_call 31; refine (toFair_any qu li ⟨A, n, cap, B, m, capd⟩ nx op (F.map fl) D _ (HR_a.out.below HB_6.out.drew) HG2.out hn2 hm2).mono ?_; rintro e w7 ⟨M_y, rfl, ho_y, hb7⟩; have zz7 := hb7.size; (try simp at zz7); have rkhb7_q := fun o => bkeep hb7 (w.heap.size) o (by first | omega | (simp; done) | (simp; omega)); have rkhb7_p := fun o => bkeep hb7 (w.heap.size + 1) o (by first | omega | (simp; done) | (simp; omega)); have rkhb7_v0 := fun o => bkeep hb7 (B_v0) o (by first | omega | (simp; done) | (simp; omega)); have rkhb7_x0 := fun o => bkeep hb7 (w3.heap.size) o (by first | omega | (simp; done) | (simp; omega)); have rkhb7_g0 := fun o => bkeep hb7 (B_g0) o (by first | omega | (simp; done) | (simp; omega)))
      | (go_at_call 33; refine (eqFair_any _ _ M_x _ _ (F.map fl) D M_y _ ((HO_x_6.out.drew).old hb7).row ho_y.row HG3.out (by have := HN_x.out; have := HLN.out; omega) (by have := HN_x.out; have := HLN.out; omega)).mono ?_; rintro e w8 ⟨rfl, hb8⟩; have zz8 := hb8.size; have rkhb8_q := fun o => bkeep hb8 (w.heap.size) o (by first | omega | (simp; done) | (simp; omega)); have rkhb8_p := fun o => bkeep hb8 (w.heap.size + 1) o (by first | omega | (simp; done) | (simp; omega)); have rkhb8_v0 := fun o => bkeep hb8 (B_v0) o (by first | omega | (simp; done) | (simp; omega)); have rkhb8_x0 := fun o => bkeep hb8 (w3.heap.size) o (by first | omega | (simp; done) | (simp; omega)); have rkhb8_g0 := fun o => bkeep hb8 (B_g0) o (by first | omega | (simp; done) | (simp; omega))))
  clear rkhb7_q rkhb7_p rkhb7_v0 rkhb7_x0 rkhb7_g0 rkhb8_q rkhb8_p rkhb8_v0 rkhb8_x0 rkhb8_g0 zz7 zz8
  have HN_y := Lib.hid ho_y.len
  have HO_y_7 := Lib.hid ho_y
  clear ho_y
  have z7 := hb7.size
  (try simp at z7)
  have HK_q_7 : Hid (Bk w7 (w.heap.size) 51 #[.int .i64 qu, .int .i64 li, .slice A n cap, .slice B m capd, .int .i64 nx, .bool op]) := Lib.hid ((HK_q_6.out.drew).old hb7)
  clear HK_q_6
  clear cb_q_0 cb_q_1 cb_q_2 cb_q_3 cb_q_4 cb_q_5 zb_q
  have zb_q : w.heap.size < w7.heap.size := HK_q_7.out.lt
  have cb_q_0 : w7.cell? ⟨w.heap.size, 0, none⟩ = some (.int .i64 qu) := HK_q_7.out.cell 0
  have cb_q_1 : w7.cell? ⟨w.heap.size, 1, none⟩ = some (.int .i64 li) := HK_q_7.out.cell 1
  have cb_q_2 : w7.cell? ⟨w.heap.size, 2, none⟩ = some (.slice A n cap) := HK_q_7.out.cell 2
  have cb_q_3 : w7.cell? ⟨w.heap.size, 3, none⟩ = some (.slice B m capd) := HK_q_7.out.cell 3
  have cb_q_4 : w7.cell? ⟨w.heap.size, 4, none⟩ = some (.int .i64 nx) := HK_q_7.out.cell 4
  have cb_q_5 : w7.cell? ⟨w.heap.size, 5, none⟩ = some (.bool op) := HK_q_7.out.cell 5
  have HK_p_7 : Hid (Bk w7 (w.heap.size + 1) 26 #[.int .i64 p0, .int .i64 p1, .int .i64 p2, .int .i64 p3, .int .i64 p4, .int .i64 p5]) := Lib.hid ((HK_p_6.out.drew).old hb7)
  clear HK_p_6
  clear cb_p_0 cb_p_1 cb_p_2 cb_p_3 cb_p_4 cb_p_5 zb_p
  have zb_p : w.heap.size + 1 < w7.heap.size := HK_p_7.out.lt
  have cb_p_0 : w7.cell? ⟨w.heap.size + 1, 0, none⟩ = some (.int .i64 p0) := HK_p_7.out.cell 0
  have cb_p_1 : w7.cell? ⟨w.heap.size + 1, 1, none⟩ = some (.int .i64 p1) := HK_p_7.out.cell 1
  have cb_p_2 : w7.cell? ⟨w.heap.size + 1, 2, none⟩ = some (.int .i64 p2) := HK_p_7.out.cell 2
  have cb_p_3 : w7.cell? ⟨w.heap.size + 1, 3, none⟩ = some (.int .i64 p3) := HK_p_7.out.cell 3
  have cb_p_4 : w7.cell? ⟨w.heap.size + 1, 4, none⟩ = some (.int .i64 p4) := HK_p_7.out.cell 4
  have cb_p_5 : w7.cell? ⟨w.heap.size + 1, 5, none⟩ = some (.int .i64 p5) := HK_p_7.out.cell 5
  have HK_v0_7 : Hid (Bk w7 (B_v0) 56 #[.int .i64 xq, .int .i64 xl, .slice M_v.A M_v.n M_v.cap, .slice M_v.B M_v.m M_v.capd, .int .i64 xn, .bool xo]) := Lib.hid ((HK_v0_6.out.drew).old hb7)
  clear HK_v0_6
  clear cb_v0_0 cb_v0_1 cb_v0_2 cb_v0_3 cb_v0_4 cb_v0_5 zb_v0
  have zb_v0 : B_v0 < w7.heap.size := HK_v0_7.out.lt
  have cb_v0_0 : w7.cell? ⟨B_v0, 0, none⟩ = some (.int .i64 xq) := HK_v0_7.out.cell 0
  have cb_v0_1 : w7.cell? ⟨B_v0, 1, none⟩ = some (.int .i64 xl) := HK_v0_7.out.cell 1
  have cb_v0_2 : w7.cell? ⟨B_v0, 2, none⟩ = some (.slice M_v.A M_v.n M_v.cap) := HK_v0_7.out.cell 2
  have cb_v0_3 : w7.cell? ⟨B_v0, 3, none⟩ = some (.slice M_v.B M_v.m M_v.capd) := HK_v0_7.out.cell 3
  have cb_v0_4 : w7.cell? ⟨B_v0, 4, none⟩ = some (.int .i64 xn) := HK_v0_7.out.cell 4
  have cb_v0_5 : w7.cell? ⟨B_v0, 5, none⟩ = some (.bool xo) := HK_v0_7.out.cell 5
  have HK_x0_7 : Hid (Bk w7 (w3.heap.size) 56 #[.int .i64 qu, .int .i64 li, .slice M_x.A M_x.n M_x.cap, .slice M_x.B M_x.m M_x.capd, .int .i64 nx, .bool op]) := Lib.hid ((HK_x0_6.out.drew).old hb7)
  clear HK_x0_6
  clear cb_x0_0 cb_x0_1 cb_x0_2 cb_x0_3 cb_x0_4 cb_x0_5 zb_x0
  have zb_x0 : w3.heap.size < w7.heap.size := HK_x0_7.out.lt
  have cb_x0_0 : w7.cell? ⟨w3.heap.size, 0, none⟩ = some (.int .i64 qu) := HK_x0_7.out.cell 0
  have cb_x0_1 : w7.cell? ⟨w3.heap.size, 1, none⟩ = some (.int .i64 li) := HK_x0_7.out.cell 1
  have cb_x0_2 : w7.cell? ⟨w3.heap.size, 2, none⟩ = some (.slice M_x.A M_x.n M_x.cap) := HK_x0_7.out.cell 2
  have cb_x0_3 : w7.cell? ⟨w3.heap.size, 3, none⟩ = some (.slice M_x.B M_x.m M_x.capd) := HK_x0_7.out.cell 3
  have cb_x0_4 : w7.cell? ⟨w3.heap.size, 4, none⟩ = some (.int .i64 nx) := HK_x0_7.out.cell 4
  have cb_x0_5 : w7.cell? ⟨w3.heap.size, 5, none⟩ = some (.bool op) := HK_x0_7.out.cell 5
  have HK_g0_7 : Hid (Bk w7 (B_g0) 56 #[.int .i64 xq, .int .i64 xl, .slice M_g.A M_g.n M_g.cap, .slice M_g.B M_g.m M_g.capd, .int .i64 xn, .bool xo]) := Lib.hid ((HK_g0_6.out.drew).old hb7)
  clear HK_g0_6
  clear cb_g0_0 cb_g0_1 cb_g0_2 cb_g0_3 cb_g0_4 cb_g0_5 zb_g0
  have zb_g0 : B_g0 < w7.heap.size := HK_g0_7.out.lt
  have cb_g0_0 : w7.cell? ⟨B_g0, 0, none⟩ = some (.int .i64 xq) := HK_g0_7.out.cell 0
  have cb_g0_1 : w7.cell? ⟨B_g0, 1, none⟩ = some (.int .i64 xl) := HK_g0_7.out.cell 1
  have cb_g0_2 : w7.cell? ⟨B_g0, 2, none⟩ = some (.slice M_g.A M_g.n M_g.cap) := HK_g0_7.out.cell 2
  have cb_g0_3 : w7.cell? ⟨B_g0, 3, none⟩ = some (.slice M_g.B M_g.m M_g.capd) := HK_g0_7.out.cell 3
  have cb_g0_4 : w7.cell? ⟨B_g0, 4, none⟩ = some (.int .i64 xn) := HK_g0_7.out.cell 4
  have cb_g0_5 : w7.cell? ⟨B_g0, 5, none⟩ = some (.bool xo) := HK_g0_7.out.cell 5
  have HO_v_7 := Lib.hid ((HO_v_6.out.drew).old hb7)
  clear HO_v_6
  have HO_x_7 := Lib.hid ((HO_x_6.out.drew).old hb7)
  clear HO_x_6
  have HO_g_7 := Lib.hid ((HO_g_6.out.drew).old hb7)
  clear HO_g_6
  have HB_7 := Lib.hid (bt HB_6.out.drew hb7)
  clear hb7
  have z8 := hb8.size
  (try simp at z8)
  have HK_q_8 : Hid (Bk w8 (w.heap.size) 51 #[.int .i64 qu, .int .i64 li, .slice A n cap, .slice B m capd, .int .i64 nx, .bool op]) := Lib.hid (HK_q_7.out.old hb8)
  clear HK_q_7
  clear cb_q_0 cb_q_1 cb_q_2 cb_q_3 cb_q_4 cb_q_5 zb_q
  have zb_q : w.heap.size < w8.heap.size := HK_q_8.out.lt
  have cb_q_0 : w8.cell? ⟨w.heap.size, 0, none⟩ = some (.int .i64 qu) := HK_q_8.out.cell 0
  have cb_q_1 : w8.cell? ⟨w.heap.size, 1, none⟩ = some (.int .i64 li) := HK_q_8.out.cell 1
  have cb_q_2 : w8.cell? ⟨w.heap.size, 2, none⟩ = some (.slice A n cap) := HK_q_8.out.cell 2
  have cb_q_3 : w8.cell? ⟨w.heap.size, 3, none⟩ = some (.slice B m capd) := HK_q_8.out.cell 3
  have cb_q_4 : w8.cell? ⟨w.heap.size, 4, none⟩ = some (.int .i64 nx) := HK_q_8.out.cell 4
  have cb_q_5 : w8.cell? ⟨w.heap.size, 5, none⟩ = some (.bool op) := HK_q_8.out.cell 5
  have HK_p_8 : Hid (Bk w8 (w.heap.size + 1) 26 #[.int .i64 p0, .int .i64 p1, .int .i64 p2, .int .i64 p3, .int .i64 p4, .int .i64 p5]) := Lib.hid (HK_p_7.out.old hb8)
  clear HK_p_7
  clear cb_p_0 cb_p_1 cb_p_2 cb_p_3 cb_p_4 cb_p_5 zb_p
  have zb_p : w.heap.size + 1 < w8.heap.size := HK_p_8.out.lt
  have cb_p_0 : w8.cell? ⟨w.heap.size + 1, 0, none⟩ = some (.int .i64 p0) := HK_p_8.out.cell 0
  have cb_p_1 : w8.cell? ⟨w.heap.size + 1, 1, none⟩ = some (.int .i64 p1) := HK_p_8.out.cell 1
  have cb_p_2 : w8.cell? ⟨w.heap.size + 1, 2, none⟩ = some (.int .i64 p2) := HK_p_8.out.cell 2
  have cb_p_3 : w8.cell? ⟨w.heap.size + 1, 3, none⟩ = some (.int .i64 p3) := HK_p_8.out.cell 3
  have cb_p_4 : w8.cell? ⟨w.heap.size + 1, 4, none⟩ = some (.int .i64 p4) := HK_p_8.out.cell 4
  have cb_p_5 : w8.cell? ⟨w.heap.size + 1, 5, none⟩ = some (.int .i64 p5) := HK_p_8.out.cell 5
  have HK_v0_8 : Hid (Bk w8 (B_v0) 56 #[.int .i64 xq, .int .i64 xl, .slice M_v.A M_v.n M_v.cap, .slice M_v.B M_v.m M_v.capd, .int .i64 xn, .bool xo]) := Lib.hid (HK_v0_7.out.old hb8)
  clear HK_v0_7
  clear cb_v0_0 cb_v0_1 cb_v0_2 cb_v0_3 cb_v0_4 cb_v0_5 zb_v0
  have zb_v0 : B_v0 < w8.heap.size := HK_v0_8.out.lt
  have cb_v0_0 : w8.cell? ⟨B_v0, 0, none⟩ = some (.int .i64 xq) := HK_v0_8.out.cell 0
  have cb_v0_1 : w8.cell? ⟨B_v0, 1, none⟩ = some (.int .i64 xl) := HK_v0_8.out.cell 1
  have cb_v0_2 : w8.cell? ⟨B_v0, 2, none⟩ = some (.slice M_v.A M_v.n M_v.cap) := HK_v0_8.out.cell 2
  have cb_v0_3 : w8.cell? ⟨B_v0, 3, none⟩ = some (.slice M_v.B M_v.m M_v.capd) := HK_v0_8.out.cell 3
  have cb_v0_4 : w8.cell? ⟨B_v0, 4, none⟩ = some (.int .i64 xn) := HK_v0_8.out.cell 4
  have cb_v0_5 : w8.cell? ⟨B_v0, 5, none⟩ = some (.bool xo) := HK_v0_8.out.cell 5
  have HK_x0_8 : Hid (Bk w8 (w3.heap.size) 56 #[.int .i64 qu, .int .i64 li, .slice M_x.A M_x.n M_x.cap, .slice M_x.B M_x.m M_x.capd, .int .i64 nx, .bool op]) := Lib.hid (HK_x0_7.out.old hb8)
  clear HK_x0_7
  clear cb_x0_0 cb_x0_1 cb_x0_2 cb_x0_3 cb_x0_4 cb_x0_5 zb_x0
  have zb_x0 : w3.heap.size < w8.heap.size := HK_x0_8.out.lt
  have cb_x0_0 : w8.cell? ⟨w3.heap.size, 0, none⟩ = some (.int .i64 qu) := HK_x0_8.out.cell 0
  have cb_x0_1 : w8.cell? ⟨w3.heap.size, 1, none⟩ = some (.int .i64 li) := HK_x0_8.out.cell 1
  have cb_x0_2 : w8.cell? ⟨w3.heap.size, 2, none⟩ = some (.slice M_x.A M_x.n M_x.cap) := HK_x0_8.out.cell 2
  have cb_x0_3 : w8.cell? ⟨w3.heap.size, 3, none⟩ = some (.slice M_x.B M_x.m M_x.capd) := HK_x0_8.out.cell 3
  have cb_x0_4 : w8.cell? ⟨w3.heap.size, 4, none⟩ = some (.int .i64 nx) := HK_x0_8.out.cell 4
  have cb_x0_5 : w8.cell? ⟨w3.heap.size, 5, none⟩ = some (.bool op) := HK_x0_8.out.cell 5
  have HK_g0_8 : Hid (Bk w8 (B_g0) 56 #[.int .i64 xq, .int .i64 xl, .slice M_g.A M_g.n M_g.cap, .slice M_g.B M_g.m M_g.capd, .int .i64 xn, .bool xo]) := Lib.hid (HK_g0_7.out.old hb8)
  clear HK_g0_7
  clear cb_g0_0 cb_g0_1 cb_g0_2 cb_g0_3 cb_g0_4 cb_g0_5 zb_g0
  have zb_g0 : B_g0 < w8.heap.size := HK_g0_8.out.lt
  have cb_g0_0 : w8.cell? ⟨B_g0, 0, none⟩ = some (.int .i64 xq) := HK_g0_8.out.cell 0
  have cb_g0_1 : w8.cell? ⟨B_g0, 1, none⟩ = some (.int .i64 xl) := HK_g0_8.out.cell 1
  have cb_g0_2 : w8.cell? ⟨B_g0, 2, none⟩ = some (.slice M_g.A M_g.n M_g.cap) := HK_g0_8.out.cell 2
  have cb_g0_3 : w8.cell? ⟨B_g0, 3, none⟩ = some (.slice M_g.B M_g.m M_g.capd) := HK_g0_8.out.cell 3
  have cb_g0_4 : w8.cell? ⟨B_g0, 4, none⟩ = some (.int .i64 xn) := HK_g0_8.out.cell 4
  have cb_g0_5 : w8.cell? ⟨B_g0, 5, none⟩ = some (.bool xo) := HK_g0_8.out.cell 5
  have HO_v_8 := Lib.hid (HO_v_7.out.old hb8)
  clear HO_v_7
  have HO_x_8 := Lib.hid (HO_x_7.out.old hb8)
  clear HO_x_7
  have HO_g_8 := Lib.hid (HO_g_7.out.old hb8)
  clear HO_g_7
  have HO_y_8 := Lib.hid (HO_y_7.out.old hb8)
  clear HO_y_7
  have HB_8 := Lib.hid (bt HB_7.out hb8)
  clear hb8
  go_wp2_with fail
  refine (markFair_any _ _ M_x _ _ (F.map fl) D 1 _ _ _ HO_x_8.out (by have := HN_x.out; have := HLN.out; omega) (by have := HN_x.out; have := HLN.out; omega) (by omega) (by omega) (by first | omega | (simp; done) | (simp; omega)) (by first | omega | (simp; done) | (simp; omega))).mono ?_
  rintro e w9 ⟨rfl, ho9, hb9⟩
  have HO_x_9 := Lib.hid ho9
  clear ho9
  have z9 := hb9.size
  (try simp at z9)
  have HK_q_9 : Hid (Bk w9 (w.heap.size) 51 #[.int .i64 qu, .int .i64 li, .slice A n cap, .slice B m capd, .int .i64 nx, .bool op]) := Lib.hid (HK_q_8.out.chg hb9 (by first | omega | (simp; done) | (simp; omega)))
  clear HK_q_8
  clear cb_q_0 cb_q_1 cb_q_2 cb_q_3 cb_q_4 cb_q_5 zb_q
  have zb_q : w.heap.size < w9.heap.size := HK_q_9.out.lt
  have cb_q_0 : w9.cell? ⟨w.heap.size, 0, none⟩ = some (.int .i64 qu) := HK_q_9.out.cell 0
  have cb_q_1 : w9.cell? ⟨w.heap.size, 1, none⟩ = some (.int .i64 li) := HK_q_9.out.cell 1
  have cb_q_2 : w9.cell? ⟨w.heap.size, 2, none⟩ = some (.slice A n cap) := HK_q_9.out.cell 2
  have cb_q_3 : w9.cell? ⟨w.heap.size, 3, none⟩ = some (.slice B m capd) := HK_q_9.out.cell 3
  have cb_q_4 : w9.cell? ⟨w.heap.size, 4, none⟩ = some (.int .i64 nx) := HK_q_9.out.cell 4
  have cb_q_5 : w9.cell? ⟨w.heap.size, 5, none⟩ = some (.bool op) := HK_q_9.out.cell 5
  have HK_p_9 : Hid (Bk w9 (w.heap.size + 1) 26 #[.int .i64 p0, .int .i64 p1, .int .i64 p2, .int .i64 p3, .int .i64 p4, .int .i64 p5]) := Lib.hid (HK_p_8.out.chg hb9 (by first | omega | (simp; done) | (simp; omega)))
  clear HK_p_8
  clear cb_p_0 cb_p_1 cb_p_2 cb_p_3 cb_p_4 cb_p_5 zb_p
  have zb_p : w.heap.size + 1 < w9.heap.size := HK_p_9.out.lt
  have cb_p_0 : w9.cell? ⟨w.heap.size + 1, 0, none⟩ = some (.int .i64 p0) := HK_p_9.out.cell 0
  have cb_p_1 : w9.cell? ⟨w.heap.size + 1, 1, none⟩ = some (.int .i64 p1) := HK_p_9.out.cell 1
  have cb_p_2 : w9.cell? ⟨w.heap.size + 1, 2, none⟩ = some (.int .i64 p2) := HK_p_9.out.cell 2
  have cb_p_3 : w9.cell? ⟨w.heap.size + 1, 3, none⟩ = some (.int .i64 p3) := HK_p_9.out.cell 3
  have cb_p_4 : w9.cell? ⟨w.heap.size + 1, 4, none⟩ = some (.int .i64 p4) := HK_p_9.out.cell 4
  have cb_p_5 : w9.cell? ⟨w.heap.size + 1, 5, none⟩ = some (.int .i64 p5) := HK_p_9.out.cell 5
  have HK_v0_9 : Hid (Bk w9 (B_v0) 56 #[.int .i64 xq, .int .i64 xl, .slice M_v.A M_v.n M_v.cap, .slice M_v.B M_v.m M_v.capd, .int .i64 xn, .bool xo]) := Lib.hid (HK_v0_8.out.chg hb9 (by first | omega | (simp; done) | (simp; omega)))
  clear HK_v0_8
  clear cb_v0_0 cb_v0_1 cb_v0_2 cb_v0_3 cb_v0_4 cb_v0_5 zb_v0
  have zb_v0 : B_v0 < w9.heap.size := HK_v0_9.out.lt
  have cb_v0_0 : w9.cell? ⟨B_v0, 0, none⟩ = some (.int .i64 xq) := HK_v0_9.out.cell 0
  have cb_v0_1 : w9.cell? ⟨B_v0, 1, none⟩ = some (.int .i64 xl) := HK_v0_9.out.cell 1
  have cb_v0_2 : w9.cell? ⟨B_v0, 2, none⟩ = some (.slice M_v.A M_v.n M_v.cap) := HK_v0_9.out.cell 2
  have cb_v0_3 : w9.cell? ⟨B_v0, 3, none⟩ = some (.slice M_v.B M_v.m M_v.capd) := HK_v0_9.out.cell 3
  have cb_v0_4 : w9.cell? ⟨B_v0, 4, none⟩ = some (.int .i64 xn) := HK_v0_9.out.cell 4
  have cb_v0_5 : w9.cell? ⟨B_v0, 5, none⟩ = some (.bool xo) := HK_v0_9.out.cell 5
  have HK_x0_9 : Hid (Bk w9 (w3.heap.size) 56 #[.int .i64 qu, .int .i64 li, .slice M_x.A M_x.n M_x.cap, .slice M_x.B M_x.m M_x.capd, .int .i64 nx, .bool op]) := Lib.hid (HK_x0_8.out.chg hb9 (by first | omega | (simp; done) | (simp; omega)))
  clear HK_x0_8
  clear cb_x0_0 cb_x0_1 cb_x0_2 cb_x0_3 cb_x0_4 cb_x0_5 zb_x0
  have zb_x0 : w3.heap.size < w9.heap.size := HK_x0_9.out.lt
  have cb_x0_0 : w9.cell? ⟨w3.heap.size, 0, none⟩ = some (.int .i64 qu) := HK_x0_9.out.cell 0
  have cb_x0_1 : w9.cell? ⟨w3.heap.size, 1, none⟩ = some (.int .i64 li) := HK_x0_9.out.cell 1
  have cb_x0_2 : w9.cell? ⟨w3.heap.size, 2, none⟩ = some (.slice M_x.A M_x.n M_x.cap) := HK_x0_9.out.cell 2
  have cb_x0_3 : w9.cell? ⟨w3.heap.size, 3, none⟩ = some (.slice M_x.B M_x.m M_x.capd) := HK_x0_9.out.cell 3
  have cb_x0_4 : w9.cell? ⟨w3.heap.size, 4, none⟩ = some (.int .i64 nx) := HK_x0_9.out.cell 4
  have cb_x0_5 : w9.cell? ⟨w3.heap.size, 5, none⟩ = some (.bool op) := HK_x0_9.out.cell 5
  have HK_g0_9 : Hid (Bk w9 (B_g0) 56 #[.int .i64 xq, .int .i64 xl, .slice M_g.A M_g.n M_g.cap, .slice M_g.B M_g.m M_g.capd, .int .i64 xn, .bool xo]) := Lib.hid (HK_g0_8.out.chg hb9 (by first | omega | (simp; done) | (simp; omega)))
  clear HK_g0_8
  clear cb_g0_0 cb_g0_1 cb_g0_2 cb_g0_3 cb_g0_4 cb_g0_5 zb_g0
  have zb_g0 : B_g0 < w9.heap.size := HK_g0_9.out.lt
  have cb_g0_0 : w9.cell? ⟨B_g0, 0, none⟩ = some (.int .i64 xq) := HK_g0_9.out.cell 0
  have cb_g0_1 : w9.cell? ⟨B_g0, 1, none⟩ = some (.int .i64 xl) := HK_g0_9.out.cell 1
  have cb_g0_2 : w9.cell? ⟨B_g0, 2, none⟩ = some (.slice M_g.A M_g.n M_g.cap) := HK_g0_9.out.cell 2
  have cb_g0_3 : w9.cell? ⟨B_g0, 3, none⟩ = some (.slice M_g.B M_g.m M_g.capd) := HK_g0_9.out.cell 3
  have cb_g0_4 : w9.cell? ⟨B_g0, 4, none⟩ = some (.int .i64 xn) := HK_g0_9.out.cell 4
  have cb_g0_5 : w9.cell? ⟨B_g0, 5, none⟩ = some (.bool xo) := HK_g0_9.out.cell 5
  have HO_v_9 := Lib.hid (HO_v_8.out.chg hb9 (by first | omega | (simp; done) | (simp; omega)))
  clear HO_v_8
  have HO_g_9 := Lib.hid (HO_g_8.out.chg hb9 (by first | omega | (simp; done) | (simp; omega)))
  clear HO_g_8
  have HO_y_9 := Lib.hid (HO_y_8.out.chg hb9 (by first | omega | (simp; done) | (simp; omega)))
  clear HO_y_8
  have HB_9 := Lib.hid (Chg.below HB_8.out hb9 (by first | omega | (simp; done) | (simp; omega)))
  clear hb9
  clear HO_x_8
  go_wp2_with fail
  refine (eqFair_any _ _ M_g _ _ E T M_v _ HO_g_9.out.row HO_v_9.out.row HGE.out (by have := HN_g.out; have := HSN.out; have := HLN.out; omega) (by have := HN_g.out; have := HSN.out; have := HLN.out; omega)).mono ?_
  rintro e w10 ⟨rfl, hb10⟩
  have z10 := hb10.size
  (try simp at z10)
  have HK_q_10 : Hid (Bk w10 (w.heap.size) 51 #[.int .i64 qu, .int .i64 li, .slice A n cap, .slice B m capd, .int .i64 nx, .bool op]) := Lib.hid (HK_q_9.out.old hb10)
  clear HK_q_9
  clear cb_q_0 cb_q_1 cb_q_2 cb_q_3 cb_q_4 cb_q_5 zb_q
  have zb_q : w.heap.size < w10.heap.size := HK_q_10.out.lt
  have cb_q_0 : w10.cell? ⟨w.heap.size, 0, none⟩ = some (.int .i64 qu) := HK_q_10.out.cell 0
  have cb_q_1 : w10.cell? ⟨w.heap.size, 1, none⟩ = some (.int .i64 li) := HK_q_10.out.cell 1
  have cb_q_2 : w10.cell? ⟨w.heap.size, 2, none⟩ = some (.slice A n cap) := HK_q_10.out.cell 2
  have cb_q_3 : w10.cell? ⟨w.heap.size, 3, none⟩ = some (.slice B m capd) := HK_q_10.out.cell 3
  have cb_q_4 : w10.cell? ⟨w.heap.size, 4, none⟩ = some (.int .i64 nx) := HK_q_10.out.cell 4
  have cb_q_5 : w10.cell? ⟨w.heap.size, 5, none⟩ = some (.bool op) := HK_q_10.out.cell 5
  have HK_p_10 : Hid (Bk w10 (w.heap.size + 1) 26 #[.int .i64 p0, .int .i64 p1, .int .i64 p2, .int .i64 p3, .int .i64 p4, .int .i64 p5]) := Lib.hid (HK_p_9.out.old hb10)
  clear HK_p_9
  clear cb_p_0 cb_p_1 cb_p_2 cb_p_3 cb_p_4 cb_p_5 zb_p
  have zb_p : w.heap.size + 1 < w10.heap.size := HK_p_10.out.lt
  have cb_p_0 : w10.cell? ⟨w.heap.size + 1, 0, none⟩ = some (.int .i64 p0) := HK_p_10.out.cell 0
  have cb_p_1 : w10.cell? ⟨w.heap.size + 1, 1, none⟩ = some (.int .i64 p1) := HK_p_10.out.cell 1
  have cb_p_2 : w10.cell? ⟨w.heap.size + 1, 2, none⟩ = some (.int .i64 p2) := HK_p_10.out.cell 2
  have cb_p_3 : w10.cell? ⟨w.heap.size + 1, 3, none⟩ = some (.int .i64 p3) := HK_p_10.out.cell 3
  have cb_p_4 : w10.cell? ⟨w.heap.size + 1, 4, none⟩ = some (.int .i64 p4) := HK_p_10.out.cell 4
  have cb_p_5 : w10.cell? ⟨w.heap.size + 1, 5, none⟩ = some (.int .i64 p5) := HK_p_10.out.cell 5
  have HK_v0_10 : Hid (Bk w10 (B_v0) 56 #[.int .i64 xq, .int .i64 xl, .slice M_v.A M_v.n M_v.cap, .slice M_v.B M_v.m M_v.capd, .int .i64 xn, .bool xo]) := Lib.hid (HK_v0_9.out.old hb10)
  clear HK_v0_9
  clear cb_v0_0 cb_v0_1 cb_v0_2 cb_v0_3 cb_v0_4 cb_v0_5 zb_v0
  have zb_v0 : B_v0 < w10.heap.size := HK_v0_10.out.lt
  have cb_v0_0 : w10.cell? ⟨B_v0, 0, none⟩ = some (.int .i64 xq) := HK_v0_10.out.cell 0
  have cb_v0_1 : w10.cell? ⟨B_v0, 1, none⟩ = some (.int .i64 xl) := HK_v0_10.out.cell 1
  have cb_v0_2 : w10.cell? ⟨B_v0, 2, none⟩ = some (.slice M_v.A M_v.n M_v.cap) := HK_v0_10.out.cell 2
  have cb_v0_3 : w10.cell? ⟨B_v0, 3, none⟩ = some (.slice M_v.B M_v.m M_v.capd) := HK_v0_10.out.cell 3
  have cb_v0_4 : w10.cell? ⟨B_v0, 4, none⟩ = some (.int .i64 xn) := HK_v0_10.out.cell 4
  have cb_v0_5 : w10.cell? ⟨B_v0, 5, none⟩ = some (.bool xo) := HK_v0_10.out.cell 5
  have HK_x0_10 : Hid (Bk w10 (w3.heap.size) 56 #[.int .i64 qu, .int .i64 li, .slice M_x.A M_x.n M_x.cap, .slice M_x.B M_x.m M_x.capd, .int .i64 nx, .bool op]) := Lib.hid (HK_x0_9.out.old hb10)
  clear HK_x0_9
  clear cb_x0_0 cb_x0_1 cb_x0_2 cb_x0_3 cb_x0_4 cb_x0_5 zb_x0
  have zb_x0 : w3.heap.size < w10.heap.size := HK_x0_10.out.lt
  have cb_x0_0 : w10.cell? ⟨w3.heap.size, 0, none⟩ = some (.int .i64 qu) := HK_x0_10.out.cell 0
  have cb_x0_1 : w10.cell? ⟨w3.heap.size, 1, none⟩ = some (.int .i64 li) := HK_x0_10.out.cell 1
  have cb_x0_2 : w10.cell? ⟨w3.heap.size, 2, none⟩ = some (.slice M_x.A M_x.n M_x.cap) := HK_x0_10.out.cell 2
  have cb_x0_3 : w10.cell? ⟨w3.heap.size, 3, none⟩ = some (.slice M_x.B M_x.m M_x.capd) := HK_x0_10.out.cell 3
  have cb_x0_4 : w10.cell? ⟨w3.heap.size, 4, none⟩ = some (.int .i64 nx) := HK_x0_10.out.cell 4
  have cb_x0_5 : w10.cell? ⟨w3.heap.size, 5, none⟩ = some (.bool op) := HK_x0_10.out.cell 5
  have HK_g0_10 : Hid (Bk w10 (B_g0) 56 #[.int .i64 xq, .int .i64 xl, .slice M_g.A M_g.n M_g.cap, .slice M_g.B M_g.m M_g.capd, .int .i64 xn, .bool xo]) := Lib.hid (HK_g0_9.out.old hb10)
  clear HK_g0_9
  clear cb_g0_0 cb_g0_1 cb_g0_2 cb_g0_3 cb_g0_4 cb_g0_5 zb_g0
  have zb_g0 : B_g0 < w10.heap.size := HK_g0_10.out.lt
  have cb_g0_0 : w10.cell? ⟨B_g0, 0, none⟩ = some (.int .i64 xq) := HK_g0_10.out.cell 0
  have cb_g0_1 : w10.cell? ⟨B_g0, 1, none⟩ = some (.int .i64 xl) := HK_g0_10.out.cell 1
  have cb_g0_2 : w10.cell? ⟨B_g0, 2, none⟩ = some (.slice M_g.A M_g.n M_g.cap) := HK_g0_10.out.cell 2
  have cb_g0_3 : w10.cell? ⟨B_g0, 3, none⟩ = some (.slice M_g.B M_g.m M_g.capd) := HK_g0_10.out.cell 3
  have cb_g0_4 : w10.cell? ⟨B_g0, 4, none⟩ = some (.int .i64 xn) := HK_g0_10.out.cell 4
  have cb_g0_5 : w10.cell? ⟨B_g0, 5, none⟩ = some (.bool xo) := HK_g0_10.out.cell 5
  have HO_v_10 := Lib.hid (HO_v_9.out.old hb10)
  clear HO_v_9
  have HO_x_10 := Lib.hid (HO_x_9.out.old hb10)
  clear HO_x_9
  have HO_g_10 := Lib.hid (HO_g_9.out.old hb10)
  clear HO_g_9
  have HO_y_10 := Lib.hid (HO_y_9.out.old hb10)
  clear HO_y_9
  have HB_10 := Lib.hid (bt HB_9.out hb10)
  clear hb10
  go_wp2_with fail
  refine (markFair_any _ _ M_g _ _ E T 1 _ _ _ HO_g_10.out (by have := HN_g.out; have := HSN.out; have := HLN.out; omega) (by have := HN_g.out; have := HSN.out; have := HLN.out; omega) (by omega) (by omega) (by first | omega | (simp; done) | (simp; omega)) (by first | omega | (simp; done) | (simp; omega))).mono ?_
  rintro e w11 ⟨rfl, ho11, hb11⟩
  have HO_g_11 := Lib.hid ho11
  clear ho11
  have z11 := hb11.size
  (try simp at z11)
  have HK_q_11 : Hid (Bk w11 (w.heap.size) 51 #[.int .i64 qu, .int .i64 li, .slice A n cap, .slice B m capd, .int .i64 nx, .bool op]) := Lib.hid (HK_q_10.out.chg hb11 (by first | omega | (simp; done) | (simp; omega)))
  clear HK_q_10
  clear cb_q_0 cb_q_1 cb_q_2 cb_q_3 cb_q_4 cb_q_5 zb_q
  have zb_q : w.heap.size < w11.heap.size := HK_q_11.out.lt
  have cb_q_0 : w11.cell? ⟨w.heap.size, 0, none⟩ = some (.int .i64 qu) := HK_q_11.out.cell 0
  have cb_q_1 : w11.cell? ⟨w.heap.size, 1, none⟩ = some (.int .i64 li) := HK_q_11.out.cell 1
  have cb_q_2 : w11.cell? ⟨w.heap.size, 2, none⟩ = some (.slice A n cap) := HK_q_11.out.cell 2
  have cb_q_3 : w11.cell? ⟨w.heap.size, 3, none⟩ = some (.slice B m capd) := HK_q_11.out.cell 3
  have cb_q_4 : w11.cell? ⟨w.heap.size, 4, none⟩ = some (.int .i64 nx) := HK_q_11.out.cell 4
  have cb_q_5 : w11.cell? ⟨w.heap.size, 5, none⟩ = some (.bool op) := HK_q_11.out.cell 5
  have HK_p_11 : Hid (Bk w11 (w.heap.size + 1) 26 #[.int .i64 p0, .int .i64 p1, .int .i64 p2, .int .i64 p3, .int .i64 p4, .int .i64 p5]) := Lib.hid (HK_p_10.out.chg hb11 (by first | omega | (simp; done) | (simp; omega)))
  clear HK_p_10
  clear cb_p_0 cb_p_1 cb_p_2 cb_p_3 cb_p_4 cb_p_5 zb_p
  have zb_p : w.heap.size + 1 < w11.heap.size := HK_p_11.out.lt
  have cb_p_0 : w11.cell? ⟨w.heap.size + 1, 0, none⟩ = some (.int .i64 p0) := HK_p_11.out.cell 0
  have cb_p_1 : w11.cell? ⟨w.heap.size + 1, 1, none⟩ = some (.int .i64 p1) := HK_p_11.out.cell 1
  have cb_p_2 : w11.cell? ⟨w.heap.size + 1, 2, none⟩ = some (.int .i64 p2) := HK_p_11.out.cell 2
  have cb_p_3 : w11.cell? ⟨w.heap.size + 1, 3, none⟩ = some (.int .i64 p3) := HK_p_11.out.cell 3
  have cb_p_4 : w11.cell? ⟨w.heap.size + 1, 4, none⟩ = some (.int .i64 p4) := HK_p_11.out.cell 4
  have cb_p_5 : w11.cell? ⟨w.heap.size + 1, 5, none⟩ = some (.int .i64 p5) := HK_p_11.out.cell 5
  have HK_v0_11 : Hid (Bk w11 (B_v0) 56 #[.int .i64 xq, .int .i64 xl, .slice M_v.A M_v.n M_v.cap, .slice M_v.B M_v.m M_v.capd, .int .i64 xn, .bool xo]) := Lib.hid (HK_v0_10.out.chg hb11 (by first | omega | (simp; done) | (simp; omega)))
  clear HK_v0_10
  clear cb_v0_0 cb_v0_1 cb_v0_2 cb_v0_3 cb_v0_4 cb_v0_5 zb_v0
  have zb_v0 : B_v0 < w11.heap.size := HK_v0_11.out.lt
  have cb_v0_0 : w11.cell? ⟨B_v0, 0, none⟩ = some (.int .i64 xq) := HK_v0_11.out.cell 0
  have cb_v0_1 : w11.cell? ⟨B_v0, 1, none⟩ = some (.int .i64 xl) := HK_v0_11.out.cell 1
  have cb_v0_2 : w11.cell? ⟨B_v0, 2, none⟩ = some (.slice M_v.A M_v.n M_v.cap) := HK_v0_11.out.cell 2
  have cb_v0_3 : w11.cell? ⟨B_v0, 3, none⟩ = some (.slice M_v.B M_v.m M_v.capd) := HK_v0_11.out.cell 3
  have cb_v0_4 : w11.cell? ⟨B_v0, 4, none⟩ = some (.int .i64 xn) := HK_v0_11.out.cell 4
  have cb_v0_5 : w11.cell? ⟨B_v0, 5, none⟩ = some (.bool xo) := HK_v0_11.out.cell 5
  have HK_x0_11 : Hid (Bk w11 (w3.heap.size) 56 #[.int .i64 qu, .int .i64 li, .slice M_x.A M_x.n M_x.cap, .slice M_x.B M_x.m M_x.capd, .int .i64 nx, .bool op]) := Lib.hid (HK_x0_10.out.chg hb11 (by first | omega | (simp; done) | (simp; omega)))
  clear HK_x0_10
  clear cb_x0_0 cb_x0_1 cb_x0_2 cb_x0_3 cb_x0_4 cb_x0_5 zb_x0
  have zb_x0 : w3.heap.size < w11.heap.size := HK_x0_11.out.lt
  have cb_x0_0 : w11.cell? ⟨w3.heap.size, 0, none⟩ = some (.int .i64 qu) := HK_x0_11.out.cell 0
  have cb_x0_1 : w11.cell? ⟨w3.heap.size, 1, none⟩ = some (.int .i64 li) := HK_x0_11.out.cell 1
  have cb_x0_2 : w11.cell? ⟨w3.heap.size, 2, none⟩ = some (.slice M_x.A M_x.n M_x.cap) := HK_x0_11.out.cell 2
  have cb_x0_3 : w11.cell? ⟨w3.heap.size, 3, none⟩ = some (.slice M_x.B M_x.m M_x.capd) := HK_x0_11.out.cell 3
  have cb_x0_4 : w11.cell? ⟨w3.heap.size, 4, none⟩ = some (.int .i64 nx) := HK_x0_11.out.cell 4
  have cb_x0_5 : w11.cell? ⟨w3.heap.size, 5, none⟩ = some (.bool op) := HK_x0_11.out.cell 5
  have HK_g0_11 : Hid (Bk w11 (B_g0) 56 #[.int .i64 xq, .int .i64 xl, .slice M_g.A M_g.n M_g.cap, .slice M_g.B M_g.m M_g.capd, .int .i64 xn, .bool xo]) := Lib.hid (HK_g0_10.out.chg hb11 (by first | omega | (simp; done) | (simp; omega)))
  clear HK_g0_10
  clear cb_g0_0 cb_g0_1 cb_g0_2 cb_g0_3 cb_g0_4 cb_g0_5 zb_g0
  have zb_g0 : B_g0 < w11.heap.size := HK_g0_11.out.lt
  have cb_g0_0 : w11.cell? ⟨B_g0, 0, none⟩ = some (.int .i64 xq) := HK_g0_11.out.cell 0
  have cb_g0_1 : w11.cell? ⟨B_g0, 1, none⟩ = some (.int .i64 xl) := HK_g0_11.out.cell 1
  have cb_g0_2 : w11.cell? ⟨B_g0, 2, none⟩ = some (.slice M_g.A M_g.n M_g.cap) := HK_g0_11.out.cell 2
  have cb_g0_3 : w11.cell? ⟨B_g0, 3, none⟩ = some (.slice M_g.B M_g.m M_g.capd) := HK_g0_11.out.cell 3
  have cb_g0_4 : w11.cell? ⟨B_g0, 4, none⟩ = some (.int .i64 xn) := HK_g0_11.out.cell 4
  have cb_g0_5 : w11.cell? ⟨B_g0, 5, none⟩ = some (.bool xo) := HK_g0_11.out.cell 5
  have HO_v_11 := Lib.hid (HO_v_10.out.chg hb11 (by first | omega | (simp; done) | (simp; omega)))
  clear HO_v_10
  have HO_x_11 := Lib.hid (HO_x_10.out.chg hb11 (by first | omega | (simp; done) | (simp; omega)))
  clear HO_x_10
  have HO_y_11 := Lib.hid (HO_y_10.out.chg hb11 (by first | omega | (simp; done) | (simp; omega)))
  clear HO_y_10
  have HB_11 := Lib.hid (Chg.below HB_10.out hb11 (by first | omega | (simp; done) | (simp; omega)))
  clear hb11
  clear HO_g_10
  go_wp2_with fail
  refine (heldFair_any _ _ M_g _ _ E T 1 _ HN_g.out.1 HO_g_11.out.row (by have := HN_g.out; have := HSN.out; have := HLN.out; omega) (by have := HN_g.out; have := HSN.out; have := HLN.out; omega) (by omega) (by omega)).mono ?_
  rintro e w12 ⟨rfl, hb12⟩
  have z12 := hb12.size
  (try simp at z12)
  have HK_q_12 : Hid (Bk w12 (w.heap.size) 51 #[.int .i64 qu, .int .i64 li, .slice A n cap, .slice B m capd, .int .i64 nx, .bool op]) := Lib.hid (HK_q_11.out.old hb12)
  clear HK_q_11
  clear cb_q_0 cb_q_1 cb_q_2 cb_q_3 cb_q_4 cb_q_5 zb_q
  have zb_q : w.heap.size < w12.heap.size := HK_q_12.out.lt
  have cb_q_0 : w12.cell? ⟨w.heap.size, 0, none⟩ = some (.int .i64 qu) := HK_q_12.out.cell 0
  have cb_q_1 : w12.cell? ⟨w.heap.size, 1, none⟩ = some (.int .i64 li) := HK_q_12.out.cell 1
  have cb_q_2 : w12.cell? ⟨w.heap.size, 2, none⟩ = some (.slice A n cap) := HK_q_12.out.cell 2
  have cb_q_3 : w12.cell? ⟨w.heap.size, 3, none⟩ = some (.slice B m capd) := HK_q_12.out.cell 3
  have cb_q_4 : w12.cell? ⟨w.heap.size, 4, none⟩ = some (.int .i64 nx) := HK_q_12.out.cell 4
  have cb_q_5 : w12.cell? ⟨w.heap.size, 5, none⟩ = some (.bool op) := HK_q_12.out.cell 5
  have HK_p_12 : Hid (Bk w12 (w.heap.size + 1) 26 #[.int .i64 p0, .int .i64 p1, .int .i64 p2, .int .i64 p3, .int .i64 p4, .int .i64 p5]) := Lib.hid (HK_p_11.out.old hb12)
  clear HK_p_11
  clear cb_p_0 cb_p_1 cb_p_2 cb_p_3 cb_p_4 cb_p_5 zb_p
  have zb_p : w.heap.size + 1 < w12.heap.size := HK_p_12.out.lt
  have cb_p_0 : w12.cell? ⟨w.heap.size + 1, 0, none⟩ = some (.int .i64 p0) := HK_p_12.out.cell 0
  have cb_p_1 : w12.cell? ⟨w.heap.size + 1, 1, none⟩ = some (.int .i64 p1) := HK_p_12.out.cell 1
  have cb_p_2 : w12.cell? ⟨w.heap.size + 1, 2, none⟩ = some (.int .i64 p2) := HK_p_12.out.cell 2
  have cb_p_3 : w12.cell? ⟨w.heap.size + 1, 3, none⟩ = some (.int .i64 p3) := HK_p_12.out.cell 3
  have cb_p_4 : w12.cell? ⟨w.heap.size + 1, 4, none⟩ = some (.int .i64 p4) := HK_p_12.out.cell 4
  have cb_p_5 : w12.cell? ⟨w.heap.size + 1, 5, none⟩ = some (.int .i64 p5) := HK_p_12.out.cell 5
  have HK_v0_12 : Hid (Bk w12 (B_v0) 56 #[.int .i64 xq, .int .i64 xl, .slice M_v.A M_v.n M_v.cap, .slice M_v.B M_v.m M_v.capd, .int .i64 xn, .bool xo]) := Lib.hid (HK_v0_11.out.old hb12)
  clear HK_v0_11
  clear cb_v0_0 cb_v0_1 cb_v0_2 cb_v0_3 cb_v0_4 cb_v0_5 zb_v0
  have zb_v0 : B_v0 < w12.heap.size := HK_v0_12.out.lt
  have cb_v0_0 : w12.cell? ⟨B_v0, 0, none⟩ = some (.int .i64 xq) := HK_v0_12.out.cell 0
  have cb_v0_1 : w12.cell? ⟨B_v0, 1, none⟩ = some (.int .i64 xl) := HK_v0_12.out.cell 1
  have cb_v0_2 : w12.cell? ⟨B_v0, 2, none⟩ = some (.slice M_v.A M_v.n M_v.cap) := HK_v0_12.out.cell 2
  have cb_v0_3 : w12.cell? ⟨B_v0, 3, none⟩ = some (.slice M_v.B M_v.m M_v.capd) := HK_v0_12.out.cell 3
  have cb_v0_4 : w12.cell? ⟨B_v0, 4, none⟩ = some (.int .i64 xn) := HK_v0_12.out.cell 4
  have cb_v0_5 : w12.cell? ⟨B_v0, 5, none⟩ = some (.bool xo) := HK_v0_12.out.cell 5
  have HK_x0_12 : Hid (Bk w12 (w3.heap.size) 56 #[.int .i64 qu, .int .i64 li, .slice M_x.A M_x.n M_x.cap, .slice M_x.B M_x.m M_x.capd, .int .i64 nx, .bool op]) := Lib.hid (HK_x0_11.out.old hb12)
  clear HK_x0_11
  clear cb_x0_0 cb_x0_1 cb_x0_2 cb_x0_3 cb_x0_4 cb_x0_5 zb_x0
  have zb_x0 : w3.heap.size < w12.heap.size := HK_x0_12.out.lt
  have cb_x0_0 : w12.cell? ⟨w3.heap.size, 0, none⟩ = some (.int .i64 qu) := HK_x0_12.out.cell 0
  have cb_x0_1 : w12.cell? ⟨w3.heap.size, 1, none⟩ = some (.int .i64 li) := HK_x0_12.out.cell 1
  have cb_x0_2 : w12.cell? ⟨w3.heap.size, 2, none⟩ = some (.slice M_x.A M_x.n M_x.cap) := HK_x0_12.out.cell 2
  have cb_x0_3 : w12.cell? ⟨w3.heap.size, 3, none⟩ = some (.slice M_x.B M_x.m M_x.capd) := HK_x0_12.out.cell 3
  have cb_x0_4 : w12.cell? ⟨w3.heap.size, 4, none⟩ = some (.int .i64 nx) := HK_x0_12.out.cell 4
  have cb_x0_5 : w12.cell? ⟨w3.heap.size, 5, none⟩ = some (.bool op) := HK_x0_12.out.cell 5
  have HK_g0_12 : Hid (Bk w12 (B_g0) 56 #[.int .i64 xq, .int .i64 xl, .slice M_g.A M_g.n M_g.cap, .slice M_g.B M_g.m M_g.capd, .int .i64 xn, .bool xo]) := Lib.hid (HK_g0_11.out.old hb12)
  clear HK_g0_11
  clear cb_g0_0 cb_g0_1 cb_g0_2 cb_g0_3 cb_g0_4 cb_g0_5 zb_g0
  have zb_g0 : B_g0 < w12.heap.size := HK_g0_12.out.lt
  have cb_g0_0 : w12.cell? ⟨B_g0, 0, none⟩ = some (.int .i64 xq) := HK_g0_12.out.cell 0
  have cb_g0_1 : w12.cell? ⟨B_g0, 1, none⟩ = some (.int .i64 xl) := HK_g0_12.out.cell 1
  have cb_g0_2 : w12.cell? ⟨B_g0, 2, none⟩ = some (.slice M_g.A M_g.n M_g.cap) := HK_g0_12.out.cell 2
  have cb_g0_3 : w12.cell? ⟨B_g0, 3, none⟩ = some (.slice M_g.B M_g.m M_g.capd) := HK_g0_12.out.cell 3
  have cb_g0_4 : w12.cell? ⟨B_g0, 4, none⟩ = some (.int .i64 xn) := HK_g0_12.out.cell 4
  have cb_g0_5 : w12.cell? ⟨B_g0, 5, none⟩ = some (.bool xo) := HK_g0_12.out.cell 5
  have HO_v_12 := Lib.hid (HO_v_11.out.old hb12)
  clear HO_v_11
  have HO_x_12 := Lib.hid (HO_x_11.out.old hb12)
  clear HO_x_11
  have HO_g_12 := Lib.hid (HO_g_11.out.old hb12)
  clear HO_g_11
  have HO_y_12 := Lib.hid (HO_y_11.out.old hb12)
  clear HO_y_11
  have HB_12 := Lib.hid (bt HB_11.out hb12)
  clear hb12
  go_wp2_with fail
  have HSX := Lib.hid (show ∀ w' : World, Below w12.heap.size w12 w' → (fun w' => w'.cell? ⟨w.heap.size, 0, none⟩ = some (.int .i64 qu) ∧ w'.cell? ⟨w.heap.size, 1, none⟩ = some (.int .i64 li) ∧ w'.cell? ⟨w.heap.size, 2, none⟩ = some (.slice A n cap) ∧ w'.cell? ⟨w.heap.size, 3, none⟩ = some (.slice B m capd) ∧ w'.cell? ⟨w.heap.size, 4, none⟩ = some (.int .i64 nx) ∧ w'.cell? ⟨w.heap.size, 5, none⟩ = some (.bool op) ∧ w'.cell? ⟨w.heap.size + 1, 0, none⟩ = some (.int .i64 p0) ∧ w'.cell? ⟨w.heap.size + 1, 1, none⟩ = some (.int .i64 p1) ∧ w'.cell? ⟨w.heap.size + 1, 2, none⟩ = some (.int .i64 p2) ∧ w'.cell? ⟨w.heap.size + 1, 3, none⟩ = some (.int .i64 p3) ∧ w'.cell? ⟨w.heap.size + 1, 4, none⟩ = some (.int .i64 p4) ∧ w'.cell? ⟨w.heap.size + 1, 5, none⟩ = some (.int .i64 p5) ∧ w'.cell? ⟨B_v0, 0, none⟩ = some (.int .i64 xq) ∧ w'.cell? ⟨B_v0, 1, none⟩ = some (.int .i64 xl) ∧ w'.cell? ⟨B_v0, 2, none⟩ = some (.slice M_v.A M_v.n M_v.cap) ∧ w'.cell? ⟨B_v0, 3, none⟩ = some (.slice M_v.B M_v.m M_v.capd) ∧ w'.cell? ⟨B_v0, 4, none⟩ = some (.int .i64 xn) ∧ w'.cell? ⟨B_v0, 5, none⟩ = some (.bool xo) ∧ w'.cell? ⟨w3.heap.size, 0, none⟩ = some (.int .i64 qu) ∧ w'.cell? ⟨w3.heap.size, 1, none⟩ = some (.int .i64 li) ∧ w'.cell? ⟨w3.heap.size, 2, none⟩ = some (.slice M_x.A M_x.n M_x.cap) ∧ w'.cell? ⟨w3.heap.size, 3, none⟩ = some (.slice M_x.B M_x.m M_x.capd) ∧ w'.cell? ⟨w3.heap.size, 4, none⟩ = some (.int .i64 nx) ∧ w'.cell? ⟨w3.heap.size, 5, none⟩ = some (.bool op) ∧ w'.cell? ⟨B_g0, 0, none⟩ = some (.int .i64 xq) ∧ w'.cell? ⟨B_g0, 1, none⟩ = some (.int .i64 xl) ∧ w'.cell? ⟨B_g0, 2, none⟩ = some (.slice M_g.A M_g.n M_g.cap) ∧ w'.cell? ⟨B_g0, 3, none⟩ = some (.slice M_g.B M_g.m M_g.capd) ∧ w'.cell? ⟨B_g0, 4, none⟩ = some (.int .i64 xn) ∧ w'.cell? ⟨B_g0, 5, none⟩ = some (.bool xo)) w' from fun w' hb => ⟨(bkeep hb _ _ zb_q).trans cb_q_0, (bkeep hb _ _ zb_q).trans cb_q_1, (bkeep hb _ _ zb_q).trans cb_q_2, (bkeep hb _ _ zb_q).trans cb_q_3, (bkeep hb _ _ zb_q).trans cb_q_4, (bkeep hb _ _ zb_q).trans cb_q_5, (bkeep hb _ _ zb_p).trans cb_p_0, (bkeep hb _ _ zb_p).trans cb_p_1, (bkeep hb _ _ zb_p).trans cb_p_2, (bkeep hb _ _ zb_p).trans cb_p_3, (bkeep hb _ _ zb_p).trans cb_p_4, (bkeep hb _ _ zb_p).trans cb_p_5, (bkeep hb _ _ zb_v0).trans cb_v0_0, (bkeep hb _ _ zb_v0).trans cb_v0_1, (bkeep hb _ _ zb_v0).trans cb_v0_2, (bkeep hb _ _ zb_v0).trans cb_v0_3, (bkeep hb _ _ zb_v0).trans cb_v0_4, (bkeep hb _ _ zb_v0).trans cb_v0_5, (bkeep hb _ _ zb_x0).trans cb_x0_0, (bkeep hb _ _ zb_x0).trans cb_x0_1, (bkeep hb _ _ zb_x0).trans cb_x0_2, (bkeep hb _ _ zb_x0).trans cb_x0_3, (bkeep hb _ _ zb_x0).trans cb_x0_4, (bkeep hb _ _ zb_x0).trans cb_x0_5, (bkeep hb _ _ zb_g0).trans cb_g0_0, (bkeep hb _ _ zb_g0).trans cb_g0_1, (bkeep hb _ _ zb_g0).trans cb_g0_2, (bkeep hb _ _ zb_g0).trans cb_g0_3, (bkeep hb _ _ zb_g0).trans cb_g0_4, (bkeep hb _ _ zb_g0).trans cb_g0_5⟩)
  have HRW_a := Lib.hid (fun (W : World) (hb : Below w12.heap.size w12 W) => (HR_a.out.below HB_12.out).below hb)
  go_cut [16, 17, 18] (fun a16 a17 a18 wx => ∃ (B_h0 : Nat) (M_h : Fm) (lo_h : Nat) (hi_h : Nat), a16 = .pointer (some ⟨B_h0, 0, none⟩) ∧ a17 = .bool xi2 ∧ a18 = .bool ok ∧ (w12.heap.size ≤ B_h0 ∧ Bk wx B_h0 56 #[.int .i64 xq, .int .i64 xl, .slice M_h.A M_h.n M_h.cap, .slice M_h.B M_h.m M_h.capd, .int .i64 xn, .bool xo]) ∧ FOwn wx lo_h hi_h M_h E T ∧ (w12.heap.size ≤ lo_h ∧ hi_h ≤ wx.heap.size ∧ ((B_h0 < lo_h ∨ hi_h ≤ B_h0) ∧ lo_h ≤ hi_h)) ∧ Below w12.heap.size w12 wx)
  case first =>
    go_region_held3 (fun w' => w'.cell? ⟨w.heap.size, 0, none⟩ = some (.int .i64 qu) ∧ w'.cell? ⟨w.heap.size, 1, none⟩ = some (.int .i64 li) ∧ w'.cell? ⟨w.heap.size, 2, none⟩ = some (.slice A n cap) ∧ w'.cell? ⟨w.heap.size, 3, none⟩ = some (.slice B m capd) ∧ w'.cell? ⟨w.heap.size, 4, none⟩ = some (.int .i64 nx) ∧ w'.cell? ⟨w.heap.size, 5, none⟩ = some (.bool op) ∧ w'.cell? ⟨w.heap.size + 1, 0, none⟩ = some (.int .i64 p0) ∧ w'.cell? ⟨w.heap.size + 1, 1, none⟩ = some (.int .i64 p1) ∧ w'.cell? ⟨w.heap.size + 1, 2, none⟩ = some (.int .i64 p2) ∧ w'.cell? ⟨w.heap.size + 1, 3, none⟩ = some (.int .i64 p3) ∧ w'.cell? ⟨w.heap.size + 1, 4, none⟩ = some (.int .i64 p4) ∧ w'.cell? ⟨w.heap.size + 1, 5, none⟩ = some (.int .i64 p5) ∧ w'.cell? ⟨B_v0, 0, none⟩ = some (.int .i64 xq) ∧ w'.cell? ⟨B_v0, 1, none⟩ = some (.int .i64 xl) ∧ w'.cell? ⟨B_v0, 2, none⟩ = some (.slice M_v.A M_v.n M_v.cap) ∧ w'.cell? ⟨B_v0, 3, none⟩ = some (.slice M_v.B M_v.m M_v.capd) ∧ w'.cell? ⟨B_v0, 4, none⟩ = some (.int .i64 xn) ∧ w'.cell? ⟨B_v0, 5, none⟩ = some (.bool xo) ∧ w'.cell? ⟨w3.heap.size, 0, none⟩ = some (.int .i64 qu) ∧ w'.cell? ⟨w3.heap.size, 1, none⟩ = some (.int .i64 li) ∧ w'.cell? ⟨w3.heap.size, 2, none⟩ = some (.slice M_x.A M_x.n M_x.cap) ∧ w'.cell? ⟨w3.heap.size, 3, none⟩ = some (.slice M_x.B M_x.m M_x.capd) ∧ w'.cell? ⟨w3.heap.size, 4, none⟩ = some (.int .i64 nx) ∧ w'.cell? ⟨w3.heap.size, 5, none⟩ = some (.bool op) ∧ w'.cell? ⟨B_g0, 0, none⟩ = some (.int .i64 xq) ∧ w'.cell? ⟨B_g0, 1, none⟩ = some (.int .i64 xl) ∧ w'.cell? ⟨B_g0, 2, none⟩ = some (.slice M_g.A M_g.n M_g.cap) ∧ w'.cell? ⟨B_g0, 3, none⟩ = some (.slice M_g.B M_g.m M_g.capd) ∧ w'.cell? ⟨B_g0, 4, none⟩ = some (.int .i64 xn) ∧ w'.cell? ⟨B_g0, 5, none⟩ = some (.bool xo)) (exact HSX.out _ (by repeat (first | (with_reducible exact b0 _) | (with_reducible refine ba ?_ _) | (with_reducible refine bd ?_ _) | (with_reducible refine Below.drew ?_) | (with_reducible refine bsB ?_ (by first | exact Nat.le_refl _ | exact Nat.le_add_right _ _ | omega)) | (with_reducible refine bt ?_ (by assumption)))))
      (first
        | (go_at_call 31; refine (toFair_any qu li ⟨A, n, cap, B, m, capd⟩ nx op (F.map fl) D _ (HRW_a.out _ (by repeat (first | (with_reducible exact b0 _) | (with_reducible refine ba ?_ _) | (with_reducible refine bd ?_ _) | (with_reducible refine Below.drew ?_) | (with_reducible refine bsB ?_ (by first | exact Nat.le_refl _ | exact Nat.le_add_right _ _ | omega)) | (with_reducible refine bt ?_ (by assumption))))) HG2.out hn2 hm2).mono ?_; rintro e v0 ⟨M_z, rfl, ho_z, hbr0⟩; have zz0 := hbr0.size; (try simp at zz0); (try (have rx0_0 := fun o => bkeep hbr0 (w12.heap.size) o (by first | omega | (simp; done) | (simp; omega)); have rf0_0 := fun o => bfree hbr0 (w12.heap.size) o (by first | omega | (simp; done) | (simp; omega)))))
        | (go_at_call 15; refine (toPacket_any _ _ _ _ _ _ _).mono ?_; rintro e v1 ⟨rfl, hbr1⟩; have zz1 := hbr1.size; (try simp at zz1); (try (have rx1_0 := fun o => bkeep hbr1 (w12.heap.size) o (by first | omega | (simp; done) | (simp; omega)); have rf1_0 := fun o => bfree hbr1 (w12.heap.size) o (by first | omega | (simp; done) | (simp; omega)))); (try (have rx1_1 := fun o => bkeep hbr1 (v0.heap.size) o (by first | omega | (simp; done) | (simp; omega)); have rf1_1 := fun o => bfree hbr1 (v0.heap.size) o (by first | omega | (simp; done) | (simp; omega)))))
        | (go_at_call 47; refine (HIM.out M_z _ (ho_z.row.below (by repeat (first | (with_reducible exact b0 _) | (with_reducible refine ba ?_ _) | (with_reducible refine bd ?_ _) | (with_reducible refine Below.drew ?_) | (with_reducible refine bsB ?_ (by first | exact Nat.le_refl _ | exact Nat.le_add_right _ _ | omega)) | (with_reducible refine bt ?_ (by assumption))))) (by have := ho_z.len; have := HLN.out; omega) (by have := ho_z.len; have := HLN.out; omega)).mono ?_; rintro e v2 ⟨M_h, rfl, ho_h, hbr2⟩; have zz2 := hbr2.size; (try simp at zz2); (try (have rx2_0 := fun o => bkeep hbr2 (w12.heap.size) o (by first | omega | (simp; done) | (simp; omega)); have rf2_0 := fun o => bfree hbr2 (w12.heap.size) o (by first | omega | (simp; done) | (simp; omega)))); (try (have rx2_1 := fun o => bkeep hbr2 (v0.heap.size) o (by first | omega | (simp; done) | (simp; omega)); have rf2_1 := fun o => bfree hbr2 (v0.heap.size) o (by first | omega | (simp; done) | (simp; omega)))); (try (have rx2_2 := fun o => bkeep hbr2 (v1.heap.size) o (by first | omega | (simp; done) | (simp; omega)); have rf2_2 := fun o => bfree hbr2 (v1.heap.size) o (by first | omega | (simp; done) | (simp; omega)))); obtain ⟨lo_h, hi_h, tl_h, th_h, ho_h⟩ := ownF_ex ho_h hbr2.size; (try simp at tl_h); (try simp at th_h)))
    all_goals (go_wp2_with fail; go_meet; clear HSX; first | ((with_reducible refine ⟨v2.heap.size, M_h, lo_h, hi_h, rfl, rfl, rfl, ?_⟩); (with_reducible refine FinF.close1 (FinF.new ?_) ho_h ?_ ?_ ?_); all_goals first | omega | exact (by repeat (first | (with_reducible exact b0 _) | (with_reducible refine ba ?_ _) | (with_reducible refine bd ?_ _) | (with_reducible refine Below.drew ?_) | (with_reducible refine bsB ?_ (by first | exact Nat.le_refl _ | exact Nat.le_add_right _ _ | omega)) | (with_reducible refine bt ?_ (by assumption))))) | ((with_reducible refine ⟨v1.heap.size, M_h, lo_h, hi_h, rfl, rfl, rfl, ?_⟩); (with_reducible refine FinF.close1 (FinF.old6 ?_ (show Bk v2 (v1.heap.size) 56 _ from ((Bk.new_ rfl).old hbr2)) ?_) ho_h ?_ ?_ ?_); all_goals first | omega | exact (by repeat (first | (with_reducible exact b0 _) | (with_reducible refine ba ?_ _) | (with_reducible refine bd ?_ _) | (with_reducible refine Below.drew ?_) | (with_reducible refine bsB ?_ (by first | exact Nat.le_refl _ | exact Nat.le_add_right _ _ | omega)) | (with_reducible refine bt ?_ (by assumption))))) | ((with_reducible refine ⟨v0.heap.size, M_h, lo_h, hi_h, rfl, rfl, rfl, ?_⟩); (with_reducible refine FinF.close1 (FinF.old6 ?_ (show Bk v2 (v0.heap.size) 56 _ from (((Bk.new_ rfl).old hbr1).old hbr2)) ?_) ho_h ?_ ?_ ?_); all_goals first | omega | exact (by repeat (first | (with_reducible exact b0 _) | (with_reducible refine ba ?_ _) | (with_reducible refine bd ?_ _) | (with_reducible refine Below.drew ?_) | (with_reducible refine bsB ?_ (by first | exact Nat.le_refl _ | exact Nat.le_add_right _ _ | omega)) | (with_reducible refine bt ?_ (by assumption))))) | ((with_reducible refine ⟨w12.heap.size, M_h, lo_h, hi_h, rfl, rfl, rfl, ?_⟩); (with_reducible refine FinF.close1 (FinF.old6 ?_ (show Bk v2 (w12.heap.size) 56 _ from ((((Bk.new_ rfl).old hbr0).old hbr1).old hbr2)) ?_) ho_h ?_ ?_ ?_); all_goals first | omega | exact (by repeat (first | (with_reducible exact b0 _) | (with_reducible refine ba ?_ _) | (with_reducible refine bd ?_ _) | (with_reducible refine Below.drew ?_) | (with_reducible refine bsB ?_ (by first | exact Nat.le_refl _ | exact Nat.le_add_right _ _ | omega)) | (with_reducible refine bt ?_ (by assumption))))) | ((with_reducible refine ⟨w12.heap.size, M_h, lo_h, hi_h, rfl, rfl, rfl, ?_⟩); (with_reducible refine FinF.close1 (FinF.old6 ?_ (show Bk v2 (w12.heap.size) 56 _ from ((((Bk.new_ rfl).drew.old hbr0).old hbr1).old hbr2)) ?_) ho_h ?_ ?_ ?_); all_goals first | omega | exact (by repeat (first | (with_reducible exact b0 _) | (with_reducible refine ba ?_ _) | (with_reducible refine bd ?_ _) | (with_reducible refine Below.drew ?_) | (with_reducible refine bsB ?_ (by first | exact Nat.le_refl _ | exact Nat.le_add_right _ _ | omega)) | (with_reducible refine bt ?_ (by assumption))))))
  obtain ⟨w13, hwc⟩ : ∃ x, x = wc := ⟨_, rfl⟩
  subst hwc
  obtain ⟨B_h0, M_h, lo_h, hi_h, rfl, rfl, rfl, ⟨lb_h0, hk_h0⟩, ho_h, ⟨tl_h, th_h, ts_h⟩, hb13⟩ := hcut
  clear HRW_a
  clear HSX
  have HN_h := Lib.hid ho_h.len
  have HO_h_13 := Lib.hid ho_h
  clear ho_h
  have z13 := hb13.size
  (try simp at z13)
  have HK_q_13 : Hid (Bk w13 (w.heap.size) 51 #[.int .i64 qu, .int .i64 li, .slice A n cap, .slice B m capd, .int .i64 nx, .bool op]) := Lib.hid (HK_q_12.out.old hb13)
  clear HK_q_12
  clear cb_q_0 cb_q_1 cb_q_2 cb_q_3 cb_q_4 cb_q_5 zb_q
  have zb_q : w.heap.size < w13.heap.size := HK_q_13.out.lt
  have cb_q_0 : w13.cell? ⟨w.heap.size, 0, none⟩ = some (.int .i64 qu) := HK_q_13.out.cell 0
  have cb_q_1 : w13.cell? ⟨w.heap.size, 1, none⟩ = some (.int .i64 li) := HK_q_13.out.cell 1
  have cb_q_2 : w13.cell? ⟨w.heap.size, 2, none⟩ = some (.slice A n cap) := HK_q_13.out.cell 2
  have cb_q_3 : w13.cell? ⟨w.heap.size, 3, none⟩ = some (.slice B m capd) := HK_q_13.out.cell 3
  have cb_q_4 : w13.cell? ⟨w.heap.size, 4, none⟩ = some (.int .i64 nx) := HK_q_13.out.cell 4
  have cb_q_5 : w13.cell? ⟨w.heap.size, 5, none⟩ = some (.bool op) := HK_q_13.out.cell 5
  have HK_p_13 : Hid (Bk w13 (w.heap.size + 1) 26 #[.int .i64 p0, .int .i64 p1, .int .i64 p2, .int .i64 p3, .int .i64 p4, .int .i64 p5]) := Lib.hid (HK_p_12.out.old hb13)
  clear HK_p_12
  clear cb_p_0 cb_p_1 cb_p_2 cb_p_3 cb_p_4 cb_p_5 zb_p
  have zb_p : w.heap.size + 1 < w13.heap.size := HK_p_13.out.lt
  have cb_p_0 : w13.cell? ⟨w.heap.size + 1, 0, none⟩ = some (.int .i64 p0) := HK_p_13.out.cell 0
  have cb_p_1 : w13.cell? ⟨w.heap.size + 1, 1, none⟩ = some (.int .i64 p1) := HK_p_13.out.cell 1
  have cb_p_2 : w13.cell? ⟨w.heap.size + 1, 2, none⟩ = some (.int .i64 p2) := HK_p_13.out.cell 2
  have cb_p_3 : w13.cell? ⟨w.heap.size + 1, 3, none⟩ = some (.int .i64 p3) := HK_p_13.out.cell 3
  have cb_p_4 : w13.cell? ⟨w.heap.size + 1, 4, none⟩ = some (.int .i64 p4) := HK_p_13.out.cell 4
  have cb_p_5 : w13.cell? ⟨w.heap.size + 1, 5, none⟩ = some (.int .i64 p5) := HK_p_13.out.cell 5
  have HK_v0_13 : Hid (Bk w13 (B_v0) 56 #[.int .i64 xq, .int .i64 xl, .slice M_v.A M_v.n M_v.cap, .slice M_v.B M_v.m M_v.capd, .int .i64 xn, .bool xo]) := Lib.hid (HK_v0_12.out.old hb13)
  clear HK_v0_12
  clear cb_v0_0 cb_v0_1 cb_v0_2 cb_v0_3 cb_v0_4 cb_v0_5 zb_v0
  have zb_v0 : B_v0 < w13.heap.size := HK_v0_13.out.lt
  have cb_v0_0 : w13.cell? ⟨B_v0, 0, none⟩ = some (.int .i64 xq) := HK_v0_13.out.cell 0
  have cb_v0_1 : w13.cell? ⟨B_v0, 1, none⟩ = some (.int .i64 xl) := HK_v0_13.out.cell 1
  have cb_v0_2 : w13.cell? ⟨B_v0, 2, none⟩ = some (.slice M_v.A M_v.n M_v.cap) := HK_v0_13.out.cell 2
  have cb_v0_3 : w13.cell? ⟨B_v0, 3, none⟩ = some (.slice M_v.B M_v.m M_v.capd) := HK_v0_13.out.cell 3
  have cb_v0_4 : w13.cell? ⟨B_v0, 4, none⟩ = some (.int .i64 xn) := HK_v0_13.out.cell 4
  have cb_v0_5 : w13.cell? ⟨B_v0, 5, none⟩ = some (.bool xo) := HK_v0_13.out.cell 5
  have HK_x0_13 : Hid (Bk w13 (w3.heap.size) 56 #[.int .i64 qu, .int .i64 li, .slice M_x.A M_x.n M_x.cap, .slice M_x.B M_x.m M_x.capd, .int .i64 nx, .bool op]) := Lib.hid (HK_x0_12.out.old hb13)
  clear HK_x0_12
  clear cb_x0_0 cb_x0_1 cb_x0_2 cb_x0_3 cb_x0_4 cb_x0_5 zb_x0
  have zb_x0 : w3.heap.size < w13.heap.size := HK_x0_13.out.lt
  have cb_x0_0 : w13.cell? ⟨w3.heap.size, 0, none⟩ = some (.int .i64 qu) := HK_x0_13.out.cell 0
  have cb_x0_1 : w13.cell? ⟨w3.heap.size, 1, none⟩ = some (.int .i64 li) := HK_x0_13.out.cell 1
  have cb_x0_2 : w13.cell? ⟨w3.heap.size, 2, none⟩ = some (.slice M_x.A M_x.n M_x.cap) := HK_x0_13.out.cell 2
  have cb_x0_3 : w13.cell? ⟨w3.heap.size, 3, none⟩ = some (.slice M_x.B M_x.m M_x.capd) := HK_x0_13.out.cell 3
  have cb_x0_4 : w13.cell? ⟨w3.heap.size, 4, none⟩ = some (.int .i64 nx) := HK_x0_13.out.cell 4
  have cb_x0_5 : w13.cell? ⟨w3.heap.size, 5, none⟩ = some (.bool op) := HK_x0_13.out.cell 5
  have HK_g0_13 : Hid (Bk w13 (B_g0) 56 #[.int .i64 xq, .int .i64 xl, .slice M_g.A M_g.n M_g.cap, .slice M_g.B M_g.m M_g.capd, .int .i64 xn, .bool xo]) := Lib.hid (HK_g0_12.out.old hb13)
  clear HK_g0_12
  clear cb_g0_0 cb_g0_1 cb_g0_2 cb_g0_3 cb_g0_4 cb_g0_5 zb_g0
  have zb_g0 : B_g0 < w13.heap.size := HK_g0_13.out.lt
  have cb_g0_0 : w13.cell? ⟨B_g0, 0, none⟩ = some (.int .i64 xq) := HK_g0_13.out.cell 0
  have cb_g0_1 : w13.cell? ⟨B_g0, 1, none⟩ = some (.int .i64 xl) := HK_g0_13.out.cell 1
  have cb_g0_2 : w13.cell? ⟨B_g0, 2, none⟩ = some (.slice M_g.A M_g.n M_g.cap) := HK_g0_13.out.cell 2
  have cb_g0_3 : w13.cell? ⟨B_g0, 3, none⟩ = some (.slice M_g.B M_g.m M_g.capd) := HK_g0_13.out.cell 3
  have cb_g0_4 : w13.cell? ⟨B_g0, 4, none⟩ = some (.int .i64 xn) := HK_g0_13.out.cell 4
  have cb_g0_5 : w13.cell? ⟨B_g0, 5, none⟩ = some (.bool xo) := HK_g0_13.out.cell 5
  have HO_v_13 := Lib.hid (HO_v_12.out.old hb13)
  clear HO_v_12
  have HO_x_13 := Lib.hid (HO_x_12.out.old hb13)
  clear HO_x_12
  have HO_g_13 := Lib.hid (HO_g_12.out.old hb13)
  clear HO_g_12
  have HO_y_13 := Lib.hid (HO_y_12.out.old hb13)
  clear HO_y_12
  have HB_13 := Lib.hid (bt HB_12.out hb13)
  clear hb13
  have HK_h0_13 := Lib.hid hk_h0
  clear hk_h0
  have zb_h0 : B_h0 < w13.heap.size := HK_h0_13.out.lt
  have zy_h0 := zb_h0
  have cb_h0_0 : w13.cell? ⟨B_h0, 0, none⟩ = some (.int .i64 xq) := HK_h0_13.out.cell 0
  have cb_h0_1 : w13.cell? ⟨B_h0, 1, none⟩ = some (.int .i64 xl) := HK_h0_13.out.cell 1
  have cb_h0_2 : w13.cell? ⟨B_h0, 2, none⟩ = some (.slice M_h.A M_h.n M_h.cap) := HK_h0_13.out.cell 2
  have cb_h0_3 : w13.cell? ⟨B_h0, 3, none⟩ = some (.slice M_h.B M_h.m M_h.capd) := HK_h0_13.out.cell 3
  have cb_h0_4 : w13.cell? ⟨B_h0, 4, none⟩ = some (.int .i64 xn) := HK_h0_13.out.cell 4
  have cb_h0_5 : w13.cell? ⟨B_h0, 5, none⟩ = some (.bool xo) := HK_h0_13.out.cell 5
  go_wp2_with fail
  refine (eqFair_any _ _ M_h _ _ E T M_v _ HO_h_13.out.row HO_v_13.out.row HGE.out (by have := HN_h.out; have := HSN.out; have := HLN.out; omega) (by have := HN_h.out; have := HSN.out; have := HLN.out; omega)).mono ?_
  rintro e w14 ⟨rfl, hb14⟩
  have z14 := hb14.size
  (try simp at z14)
  have HK_q_14 : Hid (Bk w14 (w.heap.size) 51 #[.int .i64 qu, .int .i64 li, .slice A n cap, .slice B m capd, .int .i64 nx, .bool op]) := Lib.hid (HK_q_13.out.old hb14)
  clear HK_q_13
  clear cb_q_0 cb_q_1 cb_q_2 cb_q_3 cb_q_4 cb_q_5 zb_q
  have zb_q : w.heap.size < w14.heap.size := HK_q_14.out.lt
  have cb_q_0 : w14.cell? ⟨w.heap.size, 0, none⟩ = some (.int .i64 qu) := HK_q_14.out.cell 0
  have cb_q_1 : w14.cell? ⟨w.heap.size, 1, none⟩ = some (.int .i64 li) := HK_q_14.out.cell 1
  have cb_q_2 : w14.cell? ⟨w.heap.size, 2, none⟩ = some (.slice A n cap) := HK_q_14.out.cell 2
  have cb_q_3 : w14.cell? ⟨w.heap.size, 3, none⟩ = some (.slice B m capd) := HK_q_14.out.cell 3
  have cb_q_4 : w14.cell? ⟨w.heap.size, 4, none⟩ = some (.int .i64 nx) := HK_q_14.out.cell 4
  have cb_q_5 : w14.cell? ⟨w.heap.size, 5, none⟩ = some (.bool op) := HK_q_14.out.cell 5
  have HK_p_14 : Hid (Bk w14 (w.heap.size + 1) 26 #[.int .i64 p0, .int .i64 p1, .int .i64 p2, .int .i64 p3, .int .i64 p4, .int .i64 p5]) := Lib.hid (HK_p_13.out.old hb14)
  clear HK_p_13
  clear cb_p_0 cb_p_1 cb_p_2 cb_p_3 cb_p_4 cb_p_5 zb_p
  have zb_p : w.heap.size + 1 < w14.heap.size := HK_p_14.out.lt
  have cb_p_0 : w14.cell? ⟨w.heap.size + 1, 0, none⟩ = some (.int .i64 p0) := HK_p_14.out.cell 0
  have cb_p_1 : w14.cell? ⟨w.heap.size + 1, 1, none⟩ = some (.int .i64 p1) := HK_p_14.out.cell 1
  have cb_p_2 : w14.cell? ⟨w.heap.size + 1, 2, none⟩ = some (.int .i64 p2) := HK_p_14.out.cell 2
  have cb_p_3 : w14.cell? ⟨w.heap.size + 1, 3, none⟩ = some (.int .i64 p3) := HK_p_14.out.cell 3
  have cb_p_4 : w14.cell? ⟨w.heap.size + 1, 4, none⟩ = some (.int .i64 p4) := HK_p_14.out.cell 4
  have cb_p_5 : w14.cell? ⟨w.heap.size + 1, 5, none⟩ = some (.int .i64 p5) := HK_p_14.out.cell 5
  have HK_v0_14 : Hid (Bk w14 (B_v0) 56 #[.int .i64 xq, .int .i64 xl, .slice M_v.A M_v.n M_v.cap, .slice M_v.B M_v.m M_v.capd, .int .i64 xn, .bool xo]) := Lib.hid (HK_v0_13.out.old hb14)
  clear HK_v0_13
  clear cb_v0_0 cb_v0_1 cb_v0_2 cb_v0_3 cb_v0_4 cb_v0_5 zb_v0
  have zb_v0 : B_v0 < w14.heap.size := HK_v0_14.out.lt
  have cb_v0_0 : w14.cell? ⟨B_v0, 0, none⟩ = some (.int .i64 xq) := HK_v0_14.out.cell 0
  have cb_v0_1 : w14.cell? ⟨B_v0, 1, none⟩ = some (.int .i64 xl) := HK_v0_14.out.cell 1
  have cb_v0_2 : w14.cell? ⟨B_v0, 2, none⟩ = some (.slice M_v.A M_v.n M_v.cap) := HK_v0_14.out.cell 2
  have cb_v0_3 : w14.cell? ⟨B_v0, 3, none⟩ = some (.slice M_v.B M_v.m M_v.capd) := HK_v0_14.out.cell 3
  have cb_v0_4 : w14.cell? ⟨B_v0, 4, none⟩ = some (.int .i64 xn) := HK_v0_14.out.cell 4
  have cb_v0_5 : w14.cell? ⟨B_v0, 5, none⟩ = some (.bool xo) := HK_v0_14.out.cell 5
  have HK_x0_14 : Hid (Bk w14 (w3.heap.size) 56 #[.int .i64 qu, .int .i64 li, .slice M_x.A M_x.n M_x.cap, .slice M_x.B M_x.m M_x.capd, .int .i64 nx, .bool op]) := Lib.hid (HK_x0_13.out.old hb14)
  clear HK_x0_13
  clear cb_x0_0 cb_x0_1 cb_x0_2 cb_x0_3 cb_x0_4 cb_x0_5 zb_x0
  have zb_x0 : w3.heap.size < w14.heap.size := HK_x0_14.out.lt
  have cb_x0_0 : w14.cell? ⟨w3.heap.size, 0, none⟩ = some (.int .i64 qu) := HK_x0_14.out.cell 0
  have cb_x0_1 : w14.cell? ⟨w3.heap.size, 1, none⟩ = some (.int .i64 li) := HK_x0_14.out.cell 1
  have cb_x0_2 : w14.cell? ⟨w3.heap.size, 2, none⟩ = some (.slice M_x.A M_x.n M_x.cap) := HK_x0_14.out.cell 2
  have cb_x0_3 : w14.cell? ⟨w3.heap.size, 3, none⟩ = some (.slice M_x.B M_x.m M_x.capd) := HK_x0_14.out.cell 3
  have cb_x0_4 : w14.cell? ⟨w3.heap.size, 4, none⟩ = some (.int .i64 nx) := HK_x0_14.out.cell 4
  have cb_x0_5 : w14.cell? ⟨w3.heap.size, 5, none⟩ = some (.bool op) := HK_x0_14.out.cell 5
  have HK_g0_14 : Hid (Bk w14 (B_g0) 56 #[.int .i64 xq, .int .i64 xl, .slice M_g.A M_g.n M_g.cap, .slice M_g.B M_g.m M_g.capd, .int .i64 xn, .bool xo]) := Lib.hid (HK_g0_13.out.old hb14)
  clear HK_g0_13
  clear cb_g0_0 cb_g0_1 cb_g0_2 cb_g0_3 cb_g0_4 cb_g0_5 zb_g0
  have zb_g0 : B_g0 < w14.heap.size := HK_g0_14.out.lt
  have cb_g0_0 : w14.cell? ⟨B_g0, 0, none⟩ = some (.int .i64 xq) := HK_g0_14.out.cell 0
  have cb_g0_1 : w14.cell? ⟨B_g0, 1, none⟩ = some (.int .i64 xl) := HK_g0_14.out.cell 1
  have cb_g0_2 : w14.cell? ⟨B_g0, 2, none⟩ = some (.slice M_g.A M_g.n M_g.cap) := HK_g0_14.out.cell 2
  have cb_g0_3 : w14.cell? ⟨B_g0, 3, none⟩ = some (.slice M_g.B M_g.m M_g.capd) := HK_g0_14.out.cell 3
  have cb_g0_4 : w14.cell? ⟨B_g0, 4, none⟩ = some (.int .i64 xn) := HK_g0_14.out.cell 4
  have cb_g0_5 : w14.cell? ⟨B_g0, 5, none⟩ = some (.bool xo) := HK_g0_14.out.cell 5
  have HK_h0_14 : Hid (Bk w14 (B_h0) 56 #[.int .i64 xq, .int .i64 xl, .slice M_h.A M_h.n M_h.cap, .slice M_h.B M_h.m M_h.capd, .int .i64 xn, .bool xo]) := Lib.hid (HK_h0_13.out.old hb14)
  clear HK_h0_13
  clear cb_h0_0 cb_h0_1 cb_h0_2 cb_h0_3 cb_h0_4 cb_h0_5 zb_h0
  have zb_h0 : B_h0 < w14.heap.size := HK_h0_14.out.lt
  have cb_h0_0 : w14.cell? ⟨B_h0, 0, none⟩ = some (.int .i64 xq) := HK_h0_14.out.cell 0
  have cb_h0_1 : w14.cell? ⟨B_h0, 1, none⟩ = some (.int .i64 xl) := HK_h0_14.out.cell 1
  have cb_h0_2 : w14.cell? ⟨B_h0, 2, none⟩ = some (.slice M_h.A M_h.n M_h.cap) := HK_h0_14.out.cell 2
  have cb_h0_3 : w14.cell? ⟨B_h0, 3, none⟩ = some (.slice M_h.B M_h.m M_h.capd) := HK_h0_14.out.cell 3
  have cb_h0_4 : w14.cell? ⟨B_h0, 4, none⟩ = some (.int .i64 xn) := HK_h0_14.out.cell 4
  have cb_h0_5 : w14.cell? ⟨B_h0, 5, none⟩ = some (.bool xo) := HK_h0_14.out.cell 5
  have HO_v_14 := Lib.hid (HO_v_13.out.old hb14)
  clear HO_v_13
  have HO_x_14 := Lib.hid (HO_x_13.out.old hb14)
  clear HO_x_13
  have HO_g_14 := Lib.hid (HO_g_13.out.old hb14)
  clear HO_g_13
  have HO_y_14 := Lib.hid (HO_y_13.out.old hb14)
  clear HO_y_13
  have HO_h_14 := Lib.hid (HO_h_13.out.old hb14)
  clear HO_h_13
  have HB_14 := Lib.hid (bt HB_13.out hb14)
  clear hb14
  go_wp2_with fail
  refine (heldFair_any _ _ M_g _ _ E T 1 _ HN_g.out.1 HO_g_14.out.row (by have := HN_g.out; have := HSN.out; have := HLN.out; omega) (by have := HN_g.out; have := HSN.out; have := HLN.out; omega) (by omega) (by omega)).mono ?_
  rintro e w15 ⟨rfl, hb15⟩
  have z15 := hb15.size
  (try simp at z15)
  have HK_q_15 : Hid (Bk w15 (w.heap.size) 51 #[.int .i64 qu, .int .i64 li, .slice A n cap, .slice B m capd, .int .i64 nx, .bool op]) := Lib.hid (HK_q_14.out.old hb15)
  clear HK_q_14
  clear cb_q_0 cb_q_1 cb_q_2 cb_q_3 cb_q_4 cb_q_5 zb_q
  have zb_q : w.heap.size < w15.heap.size := HK_q_15.out.lt
  have cb_q_0 : w15.cell? ⟨w.heap.size, 0, none⟩ = some (.int .i64 qu) := HK_q_15.out.cell 0
  have cb_q_1 : w15.cell? ⟨w.heap.size, 1, none⟩ = some (.int .i64 li) := HK_q_15.out.cell 1
  have cb_q_2 : w15.cell? ⟨w.heap.size, 2, none⟩ = some (.slice A n cap) := HK_q_15.out.cell 2
  have cb_q_3 : w15.cell? ⟨w.heap.size, 3, none⟩ = some (.slice B m capd) := HK_q_15.out.cell 3
  have cb_q_4 : w15.cell? ⟨w.heap.size, 4, none⟩ = some (.int .i64 nx) := HK_q_15.out.cell 4
  have cb_q_5 : w15.cell? ⟨w.heap.size, 5, none⟩ = some (.bool op) := HK_q_15.out.cell 5
  have HK_p_15 : Hid (Bk w15 (w.heap.size + 1) 26 #[.int .i64 p0, .int .i64 p1, .int .i64 p2, .int .i64 p3, .int .i64 p4, .int .i64 p5]) := Lib.hid (HK_p_14.out.old hb15)
  clear HK_p_14
  clear cb_p_0 cb_p_1 cb_p_2 cb_p_3 cb_p_4 cb_p_5 zb_p
  have zb_p : w.heap.size + 1 < w15.heap.size := HK_p_15.out.lt
  have cb_p_0 : w15.cell? ⟨w.heap.size + 1, 0, none⟩ = some (.int .i64 p0) := HK_p_15.out.cell 0
  have cb_p_1 : w15.cell? ⟨w.heap.size + 1, 1, none⟩ = some (.int .i64 p1) := HK_p_15.out.cell 1
  have cb_p_2 : w15.cell? ⟨w.heap.size + 1, 2, none⟩ = some (.int .i64 p2) := HK_p_15.out.cell 2
  have cb_p_3 : w15.cell? ⟨w.heap.size + 1, 3, none⟩ = some (.int .i64 p3) := HK_p_15.out.cell 3
  have cb_p_4 : w15.cell? ⟨w.heap.size + 1, 4, none⟩ = some (.int .i64 p4) := HK_p_15.out.cell 4
  have cb_p_5 : w15.cell? ⟨w.heap.size + 1, 5, none⟩ = some (.int .i64 p5) := HK_p_15.out.cell 5
  have HK_v0_15 : Hid (Bk w15 (B_v0) 56 #[.int .i64 xq, .int .i64 xl, .slice M_v.A M_v.n M_v.cap, .slice M_v.B M_v.m M_v.capd, .int .i64 xn, .bool xo]) := Lib.hid (HK_v0_14.out.old hb15)
  clear HK_v0_14
  clear cb_v0_0 cb_v0_1 cb_v0_2 cb_v0_3 cb_v0_4 cb_v0_5 zb_v0
  have zb_v0 : B_v0 < w15.heap.size := HK_v0_15.out.lt
  have cb_v0_0 : w15.cell? ⟨B_v0, 0, none⟩ = some (.int .i64 xq) := HK_v0_15.out.cell 0
  have cb_v0_1 : w15.cell? ⟨B_v0, 1, none⟩ = some (.int .i64 xl) := HK_v0_15.out.cell 1
  have cb_v0_2 : w15.cell? ⟨B_v0, 2, none⟩ = some (.slice M_v.A M_v.n M_v.cap) := HK_v0_15.out.cell 2
  have cb_v0_3 : w15.cell? ⟨B_v0, 3, none⟩ = some (.slice M_v.B M_v.m M_v.capd) := HK_v0_15.out.cell 3
  have cb_v0_4 : w15.cell? ⟨B_v0, 4, none⟩ = some (.int .i64 xn) := HK_v0_15.out.cell 4
  have cb_v0_5 : w15.cell? ⟨B_v0, 5, none⟩ = some (.bool xo) := HK_v0_15.out.cell 5
  have HK_x0_15 : Hid (Bk w15 (w3.heap.size) 56 #[.int .i64 qu, .int .i64 li, .slice M_x.A M_x.n M_x.cap, .slice M_x.B M_x.m M_x.capd, .int .i64 nx, .bool op]) := Lib.hid (HK_x0_14.out.old hb15)
  clear HK_x0_14
  clear cb_x0_0 cb_x0_1 cb_x0_2 cb_x0_3 cb_x0_4 cb_x0_5 zb_x0
  have zb_x0 : w3.heap.size < w15.heap.size := HK_x0_15.out.lt
  have cb_x0_0 : w15.cell? ⟨w3.heap.size, 0, none⟩ = some (.int .i64 qu) := HK_x0_15.out.cell 0
  have cb_x0_1 : w15.cell? ⟨w3.heap.size, 1, none⟩ = some (.int .i64 li) := HK_x0_15.out.cell 1
  have cb_x0_2 : w15.cell? ⟨w3.heap.size, 2, none⟩ = some (.slice M_x.A M_x.n M_x.cap) := HK_x0_15.out.cell 2
  have cb_x0_3 : w15.cell? ⟨w3.heap.size, 3, none⟩ = some (.slice M_x.B M_x.m M_x.capd) := HK_x0_15.out.cell 3
  have cb_x0_4 : w15.cell? ⟨w3.heap.size, 4, none⟩ = some (.int .i64 nx) := HK_x0_15.out.cell 4
  have cb_x0_5 : w15.cell? ⟨w3.heap.size, 5, none⟩ = some (.bool op) := HK_x0_15.out.cell 5
  have HK_g0_15 : Hid (Bk w15 (B_g0) 56 #[.int .i64 xq, .int .i64 xl, .slice M_g.A M_g.n M_g.cap, .slice M_g.B M_g.m M_g.capd, .int .i64 xn, .bool xo]) := Lib.hid (HK_g0_14.out.old hb15)
  clear HK_g0_14
  clear cb_g0_0 cb_g0_1 cb_g0_2 cb_g0_3 cb_g0_4 cb_g0_5 zb_g0
  have zb_g0 : B_g0 < w15.heap.size := HK_g0_15.out.lt
  have cb_g0_0 : w15.cell? ⟨B_g0, 0, none⟩ = some (.int .i64 xq) := HK_g0_15.out.cell 0
  have cb_g0_1 : w15.cell? ⟨B_g0, 1, none⟩ = some (.int .i64 xl) := HK_g0_15.out.cell 1
  have cb_g0_2 : w15.cell? ⟨B_g0, 2, none⟩ = some (.slice M_g.A M_g.n M_g.cap) := HK_g0_15.out.cell 2
  have cb_g0_3 : w15.cell? ⟨B_g0, 3, none⟩ = some (.slice M_g.B M_g.m M_g.capd) := HK_g0_15.out.cell 3
  have cb_g0_4 : w15.cell? ⟨B_g0, 4, none⟩ = some (.int .i64 xn) := HK_g0_15.out.cell 4
  have cb_g0_5 : w15.cell? ⟨B_g0, 5, none⟩ = some (.bool xo) := HK_g0_15.out.cell 5
  have HK_h0_15 : Hid (Bk w15 (B_h0) 56 #[.int .i64 xq, .int .i64 xl, .slice M_h.A M_h.n M_h.cap, .slice M_h.B M_h.m M_h.capd, .int .i64 xn, .bool xo]) := Lib.hid (HK_h0_14.out.old hb15)
  clear HK_h0_14
  clear cb_h0_0 cb_h0_1 cb_h0_2 cb_h0_3 cb_h0_4 cb_h0_5 zb_h0
  have zb_h0 : B_h0 < w15.heap.size := HK_h0_15.out.lt
  have cb_h0_0 : w15.cell? ⟨B_h0, 0, none⟩ = some (.int .i64 xq) := HK_h0_15.out.cell 0
  have cb_h0_1 : w15.cell? ⟨B_h0, 1, none⟩ = some (.int .i64 xl) := HK_h0_15.out.cell 1
  have cb_h0_2 : w15.cell? ⟨B_h0, 2, none⟩ = some (.slice M_h.A M_h.n M_h.cap) := HK_h0_15.out.cell 2
  have cb_h0_3 : w15.cell? ⟨B_h0, 3, none⟩ = some (.slice M_h.B M_h.m M_h.capd) := HK_h0_15.out.cell 3
  have cb_h0_4 : w15.cell? ⟨B_h0, 4, none⟩ = some (.int .i64 xn) := HK_h0_15.out.cell 4
  have cb_h0_5 : w15.cell? ⟨B_h0, 5, none⟩ = some (.bool xo) := HK_h0_15.out.cell 5
  have HO_v_15 := Lib.hid (HO_v_14.out.old hb15)
  clear HO_v_14
  have HO_x_15 := Lib.hid (HO_x_14.out.old hb15)
  clear HO_x_14
  have HO_g_15 := Lib.hid (HO_g_14.out.old hb15)
  clear HO_g_14
  have HO_y_15 := Lib.hid (HO_y_14.out.old hb15)
  clear HO_y_14
  have HO_h_15 := Lib.hid (HO_h_14.out.old hb15)
  clear HO_h_14
  have HB_15 := Lib.hid (bt HB_14.out hb15)
  clear hb15
  go_wp2_with fail
  go_ret
  exact ⟨rfl, HB_15.out⟩
theorem own : ownKnob Try.prog.godebug = none := by kernel_rfl
theorem laidOut : laidOutB Try.prog = true := by kernel_rfl
set_option maxRecDepth 100000 in
theorem lifted (os : Os) (started : os.Started) (H : Type) (enc : TypeId × Value → H) :
    ReturnsInHanded {} Try.checked os 11 .any (Rows.fnExactPutFairSpec.pre6 enc Try.prog Try.f11 Rows.fnExactPutFairRow.domain false) (Rows.fnExactPutFairSpec.post enc Try.prog Try.f11 false true false false) := by
  refine returnsInHanded_of_change (C := Try.checked) own started (by kernel_rfl) Try.func11
    (ChangeSpec.witness6 (enc := enc) (C := Try.checked) false ⟨#[], #[.agg #[.int .i64 0, .int .i64 0, .slice none 0 0, .slice none 0 0, .int .i64 0, .bool false], .agg #[.int .i64 0, .int .i64 0, .int .i64 0, .int .i64 0, .int .i64 0, .int .i64 0]], []⟩ 8 (by kernel_rfl) (by kernel_rfl) (by kernel_rfl) (by kernel_rfl)) ?_
  intro W base args ds gs before hval0 hW hcnd _
  have hval : ∀ (j : Nat) t v, Try.f11.params[j]? = some t → args[j]? = some v → Value.okWide Try.prog W .any base t v := hval0
  have hW' := hW
  obtain ⟨p, q, hA0, hV, rfl, hfz, hnd⟩ := hW
  have hA : DataW.TrodAll enc Try.prog W 0 (fun _ => true) true Try.f11.params.toList args.toList ds p := hA0
  rw [Try.params11] at hA hval
  obtain ⟨v0, vs0, d0, ds0, p0, q0, hargs, rfl, rfl, h0, r0⟩ := trodAll_cons hA
  obtain ⟨v1, vs1, d1, ds1, p1, q1, rfl, rfl, rfl, h1, r1⟩ := trodAll_cons r0
  obtain ⟨rfl, rfl, rfl⟩ := trodAll_nil r1
  obtain rfl : args = #[v0, v1] := by cases args; simp_all
  obtain ⟨rfl, rfl⟩ := trodVars_none hV
  have k0 := h0
  have lt0 : ∀ x ∈ p0, x.block < W.heap.size := by obtain ⟨m, hm⟩ := k0; exact DataW.trod_lt m _ _ _ hm
  have k1 := h1
  have lt1 : ∀ x ∈ p1, x.block < W.heap.size := by obtain ⟨m, hm⟩ := k1; exact DataW.trod_lt m _ _ _ hm
  obtain ⟨cs0, rfl, hsz0⟩ := okWide_struct Try.underlying51 (hval 0 51 v0 rfl rfl)
  obtain ⟨c0_0, c0_1, c0_2, c0_3, c0_4, c0_5, rfl⟩ := arr6 (hsz0.trans (by kernel_rfl))
  have hf0 := h0
  obtain ⟨fu0, hf0⟩ := hf0
  simp only [Value.cells] at hf0
  obtain ⟨a0_0, ea0_0⟩ := leaf_int Try.underlying51 hf0 0 _ rfl Try.underlying3 (by kernel_rfl) rfl
  obtain ⟨ea0_0, wa0_0⟩ := ea0_0
  subst ea0_0
  obtain ⟨a0_1, ea0_1⟩ := leaf_int Try.underlying51 hf0 1 _ rfl Try.underlying3 (by kernel_rfl) rfl
  obtain ⟨ea0_1, wa0_1⟩ := ea0_1
  subst ea0_1
  obtain ⟨ma0_2, ya0_2, ta0_2⟩ := leaf Try.underlying51 hf0 2 _ rfl (by kernel_rfl) rfl
  obtain ⟨Aa0_2, lena0_2, capa0_2, Ga0_2, ea0_2, hra0_2⟩ := nest_leaf Try.underlying49 (by kernel_rfl) Try.underlying22 (by kernel_rfl) (flatPacket enc W) ta0_2
  subst ea0_2
  obtain ⟨ma0_3, ya0_3, ta0_3⟩ := leaf Try.underlying51 hf0 3 _ rfl (by kernel_rfl) rfl
  obtain ⟨Aa0_3, lena0_3, capa0_3, Ga0_3, ea0_3, hra0_3⟩ := ints_leaf Try.underlying31 Try.underlying3 (by kernel_rfl) ta0_3
  subst ea0_3
  obtain ⟨a0_4, ea0_4⟩ := leaf_int Try.underlying51 hf0 4 _ rfl Try.underlying3 (by kernel_rfl) rfl
  obtain ⟨ea0_4, wa0_4⟩ := ea0_4
  subst ea0_4
  obtain ⟨a0_5, ea0_5⟩ := leaf_bool Try.underlying51 hf0 5 _ rfl Try.underlying4 (by kernel_rfl) rfl
  have wa0_5 := trivial
  subst ea0_5
  obtain ⟨cs1, rfl, hsz1⟩ := okWide_struct Try.underlying26 (hval 1 26 v1 rfl rfl)
  obtain ⟨c1_0, c1_1, c1_2, c1_3, c1_4, c1_5, rfl⟩ := arr6 (hsz1.trans (by kernel_rfl))
  have hf1 := h1
  obtain ⟨fu1, hf1⟩ := hf1
  simp only [Value.cells] at hf1
  obtain ⟨a1_0, ea1_0⟩ := leaf_int Try.underlying26 hf1 0 _ rfl Try.underlying3 (by kernel_rfl) rfl
  obtain ⟨ea1_0, wa1_0⟩ := ea1_0
  subst ea1_0
  obtain ⟨a1_1, ea1_1⟩ := leaf_int Try.underlying26 hf1 1 _ rfl Try.underlying3 (by kernel_rfl) rfl
  obtain ⟨ea1_1, wa1_1⟩ := ea1_1
  subst ea1_1
  obtain ⟨a1_2, ea1_2⟩ := leaf_int Try.underlying26 hf1 2 _ rfl Try.underlying3 (by kernel_rfl) rfl
  obtain ⟨ea1_2, wa1_2⟩ := ea1_2
  subst ea1_2
  obtain ⟨a1_3, ea1_3⟩ := leaf_int Try.underlying26 hf1 3 _ rfl Try.underlying3 (by kernel_rfl) rfl
  obtain ⟨ea1_3, wa1_3⟩ := ea1_3
  subst ea1_3
  obtain ⟨a1_4, ea1_4⟩ := leaf_int Try.underlying26 hf1 4 _ rfl Try.underlying3 (by kernel_rfl) rfl
  obtain ⟨ea1_4, wa1_4⟩ := ea1_4
  subst ea1_4
  obtain ⟨a1_5, ea1_5⟩ := leaf_int Try.underlying26 hf1 5 _ rfl Try.underlying3 (by kernel_rfl) rfl
  obtain ⟨ea1_5, wa1_5⟩ := ea1_5
  subst ea1_5
  clear hA0 hval0
  refine (walk W a0_0 (ibounds wa0_0) a0_1 (ibounds wa0_1) Aa0_2 lena0_2 capa0_2 Ga0_2 hra0_2 Aa0_3 lena0_3 capa0_3 Ga0_3 hra0_3 a0_4 (ibounds wa0_4) a0_5 a1_0 (ibounds wa1_0) a1_1 (ibounds wa1_1) a1_2 (ibounds wa1_2) a1_3 (ibounds wa1_3) a1_4 (ibounds wa1_4) a1_5 (ibounds wa1_5)).mono fun e W' ⟨he, bel⟩ => ?_
  subst he
  exact ⟨_, rfl, _, _, _, [], _, [], hW', trodAll_mk1 (shut_bool Try.underlying4 _), (trodAll_cons_mk (Below.trod laidOut (by kernel_rfl) (of_decide_eq_true (by kernel_rfl)) k0 bel lt0) (trodAll_cons_mk (Below.trod laidOut (by kernel_rfl) (of_decide_eq_true (by kernel_rfl)) k1 bel lt1) trodAll_mk0)), rfl, bel.frame _, fun h => by cases h⟩
theorem over : Rows.fnExactPutFairRow.holds Try.pinned (OpenSpec.ofChange Rows.fnExactPutFairSpec) :=
  OpenClaim.holds_of_wide 11 Try.f11 rfl rfl rfl rfl rfl rfl rfl ⟨rfl, rfl, rfl, rfl, rfl⟩ rfl rfl rfl rfl rfl (by kernel_rfl) Try.func11 (by kernel_rfl)
    (of_decide_eq_true (by kernel_rfl)) (by unfold Func.isWrapper; first | (rw [if_pos (by decide +kernel)]; kernel_rfl) | (rw [if_neg (by decide +kernel)]; exact ⟨rfl, rfl⟩))
    (fun os started H enc _ => lifted os started H enc)
/-- The given statement. -/
theorem proved : Rows.FnExactPutFairSaid := over
#print axioms proved
end Go.Proofs.Ytgdldmeeaejjpaa.lawPutFair
