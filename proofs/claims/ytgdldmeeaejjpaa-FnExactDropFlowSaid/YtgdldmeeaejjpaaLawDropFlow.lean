/- The statement FnExactDropFlowSaid: for every input the law FnExactDropFlow returns true, and its arguments read as before. No condition. -/
import Derived.Test.YtgdldmeeaejjpaaFairOpen
import Derived.Test.YtgdldmeeaejjpaaFairDrop
import Derived.Test.YtgdldmeeaejjpaaDbox
import Derived.Deep.RegionHeld3
import Derived.Deep.DeepCutAuto
namespace Go.Proofs.Ytgdldmeeaejjpaa.lawDropFlow
open Go.ChangeShapes Go.WideShapes Go.ChangeAt Go.RowKit
set_option linter.unusedVariables false
set_option maxRecDepth 100000 in
set_option maxHeartbeats 4000000 in
theorem walk (w : World) (qu : Int) (_ : IB qu) (li : Int) (_ : IB li) (A : Option Addr) (n cap : Nat) (G : List (List Int)) (hq : NRow w A G ∧ G.length = n ∧ n ≤ cap ∧ (A = none → cap = 0) ∧ n ≤ 9223372036854775807 ∧ ∀ (i : Nat) (l : List Int), G[i]? = some l → l.length ≤ 55340232221128654842)
    (B : Option Addr) (m capd : Nat) (D : List Int) (hd : IRow w B D ∧ D.length = m ∧ m ≤ capd ∧ (B = none → capd = 0) ∧ m ≤ 9223372036854775807) (nx : Int) (_ : IB nx) (op : Bool) (z : Int) (_ : IB z) :
    Calls Try.prog 10 #[.agg #[.int .i64 qu, .int .i64 li, .slice A n cap, .slice B m capd, .int .i64 nx, .bool op], .int .i64 z] w fun e w' => e = .returned (.bool true) ∧ Below w.heap.size w w' := by
  obtain ⟨hqr, hqn, hqc, hq0, hn, hG⟩ := hq
  obtain ⟨hdr, hdn, hdc, hd0, hm⟩ := hd
  obtain ⟨F, rfl⟩ := hqr.unf
  have HR_a := Lib.hid (show FRow w ⟨A, n, cap, B, m, capd⟩ (F.map fl) D from ⟨hqr, hqn, hqc, hq0, hdr, hdn, hdc, hd0⟩)
  have HG := Lib.hid hG
  have HLN := Lib.hid (show (F.map fl).length = n ∧ D.length = m from ⟨hqn, hdn⟩)
  clear hqr hqn hqc hq0 hG hdr hdn hdc hd0
  have HSP := Lib.hid (fun (M : Fm) (w : World) (hr : FRow w M (F.map fl) D) (hn : M.n ≤ 1048576) (hm : M.m ≤ 1048576) => specDropFlow_any z qu li M.A M.n M.cap M.B M.m M.capd nx op F D w hr hn hm)
  have HIM := Lib.hid (fun (M : Fm) (w : World) (hr : FRow w M (F.map fl) D) (hn : M.n ≤ 1048576) (hm : M.m ≤ 1048576) => implDropFlow_any z qu li M.A M.n M.cap M.B M.m M.capd nx op F D w hr hn hm)
  unfold DfP at HSP HIM
  go_enter Try.func10, Try.ntmps10
  go_wp2_with fail
  refine (szFair_any qu li ⟨A, n, cap, B, m, capd⟩ nx op (F.map fl) D _ (HR_a.out.below (ba (b0 w) _)) HG.out hn hm).mono ?_
  rintro e w1 ⟨⟨v, rfl, hv⟩, hb1⟩
  have z1 := hb1.size
  (try simp at z1)
  have HK_q_1 : Hid (Bk w1 (w.heap.size) 51 #[.int .i64 qu, .int .i64 li, .slice A n cap, .slice B m capd, .int .i64 nx, .bool op]) := Lib.hid ((Bk.new_ (by simp) : Bk _ (w.heap.size) 51 #[.int .i64 qu, .int .i64 li, .slice A n cap, .slice B m capd, .int .i64 nx, .bool op]).old hb1)
  have zb_q : w.heap.size < w1.heap.size := HK_q_1.out.lt
  have cb_q_0 : w1.cell? ⟨w.heap.size, 0, none⟩ = some (.int .i64 qu) := HK_q_1.out.cell 0
  have cb_q_1 : w1.cell? ⟨w.heap.size, 1, none⟩ = some (.int .i64 li) := HK_q_1.out.cell 1
  have cb_q_2 : w1.cell? ⟨w.heap.size, 2, none⟩ = some (.slice A n cap) := HK_q_1.out.cell 2
  have cb_q_3 : w1.cell? ⟨w.heap.size, 3, none⟩ = some (.slice B m capd) := HK_q_1.out.cell 3
  have cb_q_4 : w1.cell? ⟨w.heap.size, 4, none⟩ = some (.int .i64 nx) := HK_q_1.out.cell 4
  have cb_q_5 : w1.cell? ⟨w.heap.size, 5, none⟩ = some (.bool op) := HK_q_1.out.cell 5
  have HB_1 := Lib.hid (bt (ba (b0 w) _) hb1)
  clear hb1
  rcases hv with rfl | ⟨hv0, hsz⟩
  · go_wp2_with fail
    go_ret
    exact ⟨rfl, HB_1.out⟩
  simp only at hsz
  have hn2 : n ≤ 1048576 := by omega
  have hm2 : m ≤ 1048576 := by omega
  have hgs : gsum (F.map fl) ≤ 6291456 := by omega
  have HG2 := Lib.hid (fun (i : Nat) (l : List Int) (h : (F.map fl)[i]? = some l) => Nat.le_trans (gsum_mem h) hgs)
  have HG3 := Lib.hid (fun (i : Nat) (l : List Int) (h : (F.map fl)[i]? = some l) => show l.length ≤ 6597069766656 from Nat.le_trans (HG2.out i l h) (by omega))
  have HSN := Lib.hid (show (ifG (rdOk qu li F D nx op z) ((F.map fl).set z.toNat [])).length ≤ n ∧ (ifG (rdOk qu li F D nx op z) (D.set z.toNat 0)).length ≤ m from ⟨Nat.le_trans (ifG_len _ _) (by rw [List.length_set]; exact Nat.le_of_eq HLN.out.1), Nat.le_trans (ifG_len _ _) (by rw [List.length_set]; exact Nat.le_of_eq HLN.out.2)⟩)
  have HGS := Lib.hid (ifG_set_len (ok := rdOk qu li F D nx op z) (i := z.toNat) HG2.out)
  have hgs2 : gsum (ifG (rdOk qu li F D nx op z) ((F.map fl).set z.toNat [])) ≤ 6291456 := Nat.le_trans (ifG_set_gsum _ _ _) hgs
  generalize (ifG (rdOk qu li F D nx op z) ((F.map fl).set z.toNat [])) = E at *
  generalize (ifG (rdOk qu li F D nx op z) (D.set z.toNat 0)) = T at *
  generalize hok : rdOk qu li F D nx op z = ok at *
  clear hok
  generalize ifz ok qu = xq at *
  generalize ifz ok li = xl at *
  generalize ifz ok nx = xn at *
  generalize (ok && dfOp nx z op) = xo at *
  have HGE := Lib.hid (show ∀ (i : Nat) (l : List Int), E[i]? = some l → l.length ≤ 6597069766656 from fun i l h => Nat.le_trans (HGS.out i l h) (by omega))
  go_wp2_with fail
  refine (toFair_any qu li ⟨A, n, cap, B, m, capd⟩ nx op (F.map fl) D _ (HR_a.out.below HB_1.out) HG2.out hn2 hm2).mono ?_
  rintro e w2 ⟨M_s, rfl, ho_s, hb2⟩
  have HN_s := Lib.hid ho_s.len
  have HO_s_2 := Lib.hid ho_s
  clear ho_s
  have z2 := hb2.size
  (try simp at z2)
  have HK_q_2 : Hid (Bk w2 (w.heap.size) 51 #[.int .i64 qu, .int .i64 li, .slice A n cap, .slice B m capd, .int .i64 nx, .bool op]) := Lib.hid (HK_q_1.out.old hb2)
  clear HK_q_1
  clear cb_q_0 cb_q_1 cb_q_2 cb_q_3 cb_q_4 cb_q_5 zb_q
  have zb_q : w.heap.size < w2.heap.size := HK_q_2.out.lt
  have cb_q_0 : w2.cell? ⟨w.heap.size, 0, none⟩ = some (.int .i64 qu) := HK_q_2.out.cell 0
  have cb_q_1 : w2.cell? ⟨w.heap.size, 1, none⟩ = some (.int .i64 li) := HK_q_2.out.cell 1
  have cb_q_2 : w2.cell? ⟨w.heap.size, 2, none⟩ = some (.slice A n cap) := HK_q_2.out.cell 2
  have cb_q_3 : w2.cell? ⟨w.heap.size, 3, none⟩ = some (.slice B m capd) := HK_q_2.out.cell 3
  have cb_q_4 : w2.cell? ⟨w.heap.size, 4, none⟩ = some (.int .i64 nx) := HK_q_2.out.cell 4
  have cb_q_5 : w2.cell? ⟨w.heap.size, 5, none⟩ = some (.bool op) := HK_q_2.out.cell 5
  have HB_2 := Lib.hid (bt HB_1.out hb2)
  clear hb2
  go_wp2_with fail
  refine (HSP.out M_s _ HO_s_2.out.row (by have := HN_s.out; have := HLN.out; omega) (by have := HN_s.out; have := HLN.out; omega)).mono ?_
  rintro e w3 ⟨M_v, rfl, ho_v, hb3⟩
  have HN_v := Lib.hid ho_v.len
  have HO_v_3 := Lib.hid ho_v
  clear ho_v
  have z3 := hb3.size
  (try simp at z3)
  have HK_q_3 : Hid (Bk w3 (w.heap.size) 51 #[.int .i64 qu, .int .i64 li, .slice A n cap, .slice B m capd, .int .i64 nx, .bool op]) := Lib.hid (HK_q_2.out.old hb3)
  clear HK_q_2
  clear cb_q_0 cb_q_1 cb_q_2 cb_q_3 cb_q_4 cb_q_5 zb_q
  have zb_q : w.heap.size < w3.heap.size := HK_q_3.out.lt
  have cb_q_0 : w3.cell? ⟨w.heap.size, 0, none⟩ = some (.int .i64 qu) := HK_q_3.out.cell 0
  have cb_q_1 : w3.cell? ⟨w.heap.size, 1, none⟩ = some (.int .i64 li) := HK_q_3.out.cell 1
  have cb_q_2 : w3.cell? ⟨w.heap.size, 2, none⟩ = some (.slice A n cap) := HK_q_3.out.cell 2
  have cb_q_3 : w3.cell? ⟨w.heap.size, 3, none⟩ = some (.slice B m capd) := HK_q_3.out.cell 3
  have cb_q_4 : w3.cell? ⟨w.heap.size, 4, none⟩ = some (.int .i64 nx) := HK_q_3.out.cell 4
  have cb_q_5 : w3.cell? ⟨w.heap.size, 5, none⟩ = some (.bool op) := HK_q_3.out.cell 5
  have HO_s_3 := Lib.hid (HO_s_2.out.old hb3)
  clear HO_s_2
  have HB_3 := Lib.hid (bt HB_2.out hb3)
  clear hb3
  go_wp2_with fail
  refine (toFair_any qu li ⟨A, n, cap, B, m, capd⟩ nx op (F.map fl) D _ (HR_a.out.below (ba HB_3.out _)) HG2.out hn2 hm2).mono ?_
  rintro e w4 ⟨M_x, rfl, ho_x, hb4⟩
  have HN_x := Lib.hid ho_x.len
  have HO_x_4 := Lib.hid ho_x
  clear ho_x
  have z4 := hb4.size
  (try simp at z4)
  have HK_q_4 : Hid (Bk w4 (w.heap.size) 51 #[.int .i64 qu, .int .i64 li, .slice A n cap, .slice B m capd, .int .i64 nx, .bool op]) := Lib.hid ((HK_q_3.out.alloc _).old hb4)
  clear HK_q_3
  clear cb_q_0 cb_q_1 cb_q_2 cb_q_3 cb_q_4 cb_q_5 zb_q
  have zb_q : w.heap.size < w4.heap.size := HK_q_4.out.lt
  have cb_q_0 : w4.cell? ⟨w.heap.size, 0, none⟩ = some (.int .i64 qu) := HK_q_4.out.cell 0
  have cb_q_1 : w4.cell? ⟨w.heap.size, 1, none⟩ = some (.int .i64 li) := HK_q_4.out.cell 1
  have cb_q_2 : w4.cell? ⟨w.heap.size, 2, none⟩ = some (.slice A n cap) := HK_q_4.out.cell 2
  have cb_q_3 : w4.cell? ⟨w.heap.size, 3, none⟩ = some (.slice B m capd) := HK_q_4.out.cell 3
  have cb_q_4 : w4.cell? ⟨w.heap.size, 4, none⟩ = some (.int .i64 nx) := HK_q_4.out.cell 4
  have cb_q_5 : w4.cell? ⟨w.heap.size, 5, none⟩ = some (.bool op) := HK_q_4.out.cell 5
  have HK_w0_4 : Hid (Bk w4 (w3.heap.size) 56 #[.int .i64 xq, .int .i64 xl, .slice M_v.A M_v.n M_v.cap, .slice M_v.B M_v.m M_v.capd, .int .i64 xn, .bool xo]) := Lib.hid ((Bk.new_ (by simp) : Bk _ (w3.heap.size) 56 #[.int .i64 xq, .int .i64 xl, .slice M_v.A M_v.n M_v.cap, .slice M_v.B M_v.m M_v.capd, .int .i64 xn, .bool xo]).old hb4)
  have zb_w0 : w3.heap.size < w4.heap.size := HK_w0_4.out.lt
  have cb_w0_0 : w4.cell? ⟨w3.heap.size, 0, none⟩ = some (.int .i64 xq) := HK_w0_4.out.cell 0
  have cb_w0_1 : w4.cell? ⟨w3.heap.size, 1, none⟩ = some (.int .i64 xl) := HK_w0_4.out.cell 1
  have cb_w0_2 : w4.cell? ⟨w3.heap.size, 2, none⟩ = some (.slice M_v.A M_v.n M_v.cap) := HK_w0_4.out.cell 2
  have cb_w0_3 : w4.cell? ⟨w3.heap.size, 3, none⟩ = some (.slice M_v.B M_v.m M_v.capd) := HK_w0_4.out.cell 3
  have cb_w0_4 : w4.cell? ⟨w3.heap.size, 4, none⟩ = some (.int .i64 xn) := HK_w0_4.out.cell 4
  have cb_w0_5 : w4.cell? ⟨w3.heap.size, 5, none⟩ = some (.bool xo) := HK_w0_4.out.cell 5
  have HO_s_4 := Lib.hid ((HO_s_3.out.alloc _).old hb4)
  clear HO_s_3
  have HO_v_4 := Lib.hid ((HO_v_3.out.alloc _).old hb4)
  clear HO_v_3
  have HB_4 := Lib.hid (bt (ba HB_3.out _) hb4)
  clear hb4
  go_wp2_with fail
  refine (HIM.out M_x _ (HO_x_4.out.alloc _).row (by have := HN_x.out; have := HLN.out; omega) (by have := HN_x.out; have := HLN.out; omega)).mono ?_
  rintro e w5 ⟨M_g, rfl, ho_g, hb5⟩
  have HN_g := Lib.hid ho_g.len
  have HO_g_5 := Lib.hid ho_g
  clear ho_g
  have z5 := hb5.size
  (try simp at z5)
  have HK_q_5 : Hid (Bk w5 (w.heap.size) 51 #[.int .i64 qu, .int .i64 li, .slice A n cap, .slice B m capd, .int .i64 nx, .bool op]) := Lib.hid ((HK_q_4.out.alloc _).old hb5)
  clear HK_q_4
  clear cb_q_0 cb_q_1 cb_q_2 cb_q_3 cb_q_4 cb_q_5 zb_q
  have zb_q : w.heap.size < w5.heap.size := HK_q_5.out.lt
  have cb_q_0 : w5.cell? ⟨w.heap.size, 0, none⟩ = some (.int .i64 qu) := HK_q_5.out.cell 0
  have cb_q_1 : w5.cell? ⟨w.heap.size, 1, none⟩ = some (.int .i64 li) := HK_q_5.out.cell 1
  have cb_q_2 : w5.cell? ⟨w.heap.size, 2, none⟩ = some (.slice A n cap) := HK_q_5.out.cell 2
  have cb_q_3 : w5.cell? ⟨w.heap.size, 3, none⟩ = some (.slice B m capd) := HK_q_5.out.cell 3
  have cb_q_4 : w5.cell? ⟨w.heap.size, 4, none⟩ = some (.int .i64 nx) := HK_q_5.out.cell 4
  have cb_q_5 : w5.cell? ⟨w.heap.size, 5, none⟩ = some (.bool op) := HK_q_5.out.cell 5
  have HK_w0_5 : Hid (Bk w5 (w3.heap.size) 56 #[.int .i64 xq, .int .i64 xl, .slice M_v.A M_v.n M_v.cap, .slice M_v.B M_v.m M_v.capd, .int .i64 xn, .bool xo]) := Lib.hid ((HK_w0_4.out.alloc _).old hb5)
  clear HK_w0_4
  clear cb_w0_0 cb_w0_1 cb_w0_2 cb_w0_3 cb_w0_4 cb_w0_5 zb_w0
  have zb_w0 : w3.heap.size < w5.heap.size := HK_w0_5.out.lt
  have cb_w0_0 : w5.cell? ⟨w3.heap.size, 0, none⟩ = some (.int .i64 xq) := HK_w0_5.out.cell 0
  have cb_w0_1 : w5.cell? ⟨w3.heap.size, 1, none⟩ = some (.int .i64 xl) := HK_w0_5.out.cell 1
  have cb_w0_2 : w5.cell? ⟨w3.heap.size, 2, none⟩ = some (.slice M_v.A M_v.n M_v.cap) := HK_w0_5.out.cell 2
  have cb_w0_3 : w5.cell? ⟨w3.heap.size, 3, none⟩ = some (.slice M_v.B M_v.m M_v.capd) := HK_w0_5.out.cell 3
  have cb_w0_4 : w5.cell? ⟨w3.heap.size, 4, none⟩ = some (.int .i64 xn) := HK_w0_5.out.cell 4
  have cb_w0_5 : w5.cell? ⟨w3.heap.size, 5, none⟩ = some (.bool xo) := HK_w0_5.out.cell 5
  have HK_x0_5 : Hid (Bk w5 (w4.heap.size) 56 #[.int .i64 qu, .int .i64 li, .slice M_x.A M_x.n M_x.cap, .slice M_x.B M_x.m M_x.capd, .int .i64 nx, .bool op]) := Lib.hid ((Bk.new_ (by simp) : Bk _ (w4.heap.size) 56 #[.int .i64 qu, .int .i64 li, .slice M_x.A M_x.n M_x.cap, .slice M_x.B M_x.m M_x.capd, .int .i64 nx, .bool op]).old hb5)
  have zb_x0 : w4.heap.size < w5.heap.size := HK_x0_5.out.lt
  have cb_x0_0 : w5.cell? ⟨w4.heap.size, 0, none⟩ = some (.int .i64 qu) := HK_x0_5.out.cell 0
  have cb_x0_1 : w5.cell? ⟨w4.heap.size, 1, none⟩ = some (.int .i64 li) := HK_x0_5.out.cell 1
  have cb_x0_2 : w5.cell? ⟨w4.heap.size, 2, none⟩ = some (.slice M_x.A M_x.n M_x.cap) := HK_x0_5.out.cell 2
  have cb_x0_3 : w5.cell? ⟨w4.heap.size, 3, none⟩ = some (.slice M_x.B M_x.m M_x.capd) := HK_x0_5.out.cell 3
  have cb_x0_4 : w5.cell? ⟨w4.heap.size, 4, none⟩ = some (.int .i64 nx) := HK_x0_5.out.cell 4
  have cb_x0_5 : w5.cell? ⟨w4.heap.size, 5, none⟩ = some (.bool op) := HK_x0_5.out.cell 5
  have HO_s_5 := Lib.hid ((HO_s_4.out.alloc _).old hb5)
  clear HO_s_4
  have HO_v_5 := Lib.hid ((HO_v_4.out.alloc _).old hb5)
  clear HO_v_4
  have HO_x_5 := Lib.hid ((HO_x_4.out.alloc _).old hb5)
  clear HO_x_4
  have HB_5 := Lib.hid (bt (ba HB_4.out _) hb5)
  clear hb5
  go_wp2_with fail
  refine (eqFair_any _ _ M_g _ _ E T M_v _ (HO_g_5.out.alloc _).row (HO_v_5.out.alloc _).row HGE.out (by have := HN_g.out; have := HSN.out; have := HLN.out; omega) (by have := HN_g.out; have := HSN.out; have := HLN.out; omega)).mono ?_
  rintro e w6 ⟨rfl, hb6⟩
  have z6 := hb6.size
  (try simp at z6)
  have HK_q_6 : Hid (Bk w6 (w.heap.size) 51 #[.int .i64 qu, .int .i64 li, .slice A n cap, .slice B m capd, .int .i64 nx, .bool op]) := Lib.hid ((HK_q_5.out.alloc _).old hb6)
  clear HK_q_5
  clear cb_q_0 cb_q_1 cb_q_2 cb_q_3 cb_q_4 cb_q_5 zb_q
  have zb_q : w.heap.size < w6.heap.size := HK_q_6.out.lt
  have cb_q_0 : w6.cell? ⟨w.heap.size, 0, none⟩ = some (.int .i64 qu) := HK_q_6.out.cell 0
  have cb_q_1 : w6.cell? ⟨w.heap.size, 1, none⟩ = some (.int .i64 li) := HK_q_6.out.cell 1
  have cb_q_2 : w6.cell? ⟨w.heap.size, 2, none⟩ = some (.slice A n cap) := HK_q_6.out.cell 2
  have cb_q_3 : w6.cell? ⟨w.heap.size, 3, none⟩ = some (.slice B m capd) := HK_q_6.out.cell 3
  have cb_q_4 : w6.cell? ⟨w.heap.size, 4, none⟩ = some (.int .i64 nx) := HK_q_6.out.cell 4
  have cb_q_5 : w6.cell? ⟨w.heap.size, 5, none⟩ = some (.bool op) := HK_q_6.out.cell 5
  have HK_w0_6 : Hid (Bk w6 (w3.heap.size) 56 #[.int .i64 xq, .int .i64 xl, .slice M_v.A M_v.n M_v.cap, .slice M_v.B M_v.m M_v.capd, .int .i64 xn, .bool xo]) := Lib.hid ((HK_w0_5.out.alloc _).old hb6)
  clear HK_w0_5
  clear cb_w0_0 cb_w0_1 cb_w0_2 cb_w0_3 cb_w0_4 cb_w0_5 zb_w0
  have zb_w0 : w3.heap.size < w6.heap.size := HK_w0_6.out.lt
  have cb_w0_0 : w6.cell? ⟨w3.heap.size, 0, none⟩ = some (.int .i64 xq) := HK_w0_6.out.cell 0
  have cb_w0_1 : w6.cell? ⟨w3.heap.size, 1, none⟩ = some (.int .i64 xl) := HK_w0_6.out.cell 1
  have cb_w0_2 : w6.cell? ⟨w3.heap.size, 2, none⟩ = some (.slice M_v.A M_v.n M_v.cap) := HK_w0_6.out.cell 2
  have cb_w0_3 : w6.cell? ⟨w3.heap.size, 3, none⟩ = some (.slice M_v.B M_v.m M_v.capd) := HK_w0_6.out.cell 3
  have cb_w0_4 : w6.cell? ⟨w3.heap.size, 4, none⟩ = some (.int .i64 xn) := HK_w0_6.out.cell 4
  have cb_w0_5 : w6.cell? ⟨w3.heap.size, 5, none⟩ = some (.bool xo) := HK_w0_6.out.cell 5
  have HK_x0_6 : Hid (Bk w6 (w4.heap.size) 56 #[.int .i64 qu, .int .i64 li, .slice M_x.A M_x.n M_x.cap, .slice M_x.B M_x.m M_x.capd, .int .i64 nx, .bool op]) := Lib.hid ((HK_x0_5.out.alloc _).old hb6)
  clear HK_x0_5
  clear cb_x0_0 cb_x0_1 cb_x0_2 cb_x0_3 cb_x0_4 cb_x0_5 zb_x0
  have zb_x0 : w4.heap.size < w6.heap.size := HK_x0_6.out.lt
  have cb_x0_0 : w6.cell? ⟨w4.heap.size, 0, none⟩ = some (.int .i64 qu) := HK_x0_6.out.cell 0
  have cb_x0_1 : w6.cell? ⟨w4.heap.size, 1, none⟩ = some (.int .i64 li) := HK_x0_6.out.cell 1
  have cb_x0_2 : w6.cell? ⟨w4.heap.size, 2, none⟩ = some (.slice M_x.A M_x.n M_x.cap) := HK_x0_6.out.cell 2
  have cb_x0_3 : w6.cell? ⟨w4.heap.size, 3, none⟩ = some (.slice M_x.B M_x.m M_x.capd) := HK_x0_6.out.cell 3
  have cb_x0_4 : w6.cell? ⟨w4.heap.size, 4, none⟩ = some (.int .i64 nx) := HK_x0_6.out.cell 4
  have cb_x0_5 : w6.cell? ⟨w4.heap.size, 5, none⟩ = some (.bool op) := HK_x0_6.out.cell 5
  have HK_g0_6 : Hid (Bk w6 (w5.heap.size) 56 #[.int .i64 xq, .int .i64 xl, .slice M_g.A M_g.n M_g.cap, .slice M_g.B M_g.m M_g.capd, .int .i64 xn, .bool xo]) := Lib.hid ((Bk.new_ (by simp) : Bk _ (w5.heap.size) 56 #[.int .i64 xq, .int .i64 xl, .slice M_g.A M_g.n M_g.cap, .slice M_g.B M_g.m M_g.capd, .int .i64 xn, .bool xo]).old hb6)
  have zb_g0 : w5.heap.size < w6.heap.size := HK_g0_6.out.lt
  have cb_g0_0 : w6.cell? ⟨w5.heap.size, 0, none⟩ = some (.int .i64 xq) := HK_g0_6.out.cell 0
  have cb_g0_1 : w6.cell? ⟨w5.heap.size, 1, none⟩ = some (.int .i64 xl) := HK_g0_6.out.cell 1
  have cb_g0_2 : w6.cell? ⟨w5.heap.size, 2, none⟩ = some (.slice M_g.A M_g.n M_g.cap) := HK_g0_6.out.cell 2
  have cb_g0_3 : w6.cell? ⟨w5.heap.size, 3, none⟩ = some (.slice M_g.B M_g.m M_g.capd) := HK_g0_6.out.cell 3
  have cb_g0_4 : w6.cell? ⟨w5.heap.size, 4, none⟩ = some (.int .i64 xn) := HK_g0_6.out.cell 4
  have cb_g0_5 : w6.cell? ⟨w5.heap.size, 5, none⟩ = some (.bool xo) := HK_g0_6.out.cell 5
  have HO_s_6 := Lib.hid ((HO_s_5.out.alloc _).old hb6)
  clear HO_s_5
  have HO_v_6 := Lib.hid ((HO_v_5.out.alloc _).old hb6)
  clear HO_v_5
  have HO_x_6 := Lib.hid ((HO_x_5.out.alloc _).old hb6)
  clear HO_x_5
  have HO_g_6 := Lib.hid ((HO_g_5.out.alloc _).old hb6)
  clear HO_g_5
  have HB_6 := Lib.hid (bt (ba HB_5.out _) hb6)
  clear hb6
  go_wp2_with fail
  go_region_held3 (fun w' => w'.cell? ⟨w.heap.size, 0, none⟩ = some (.int .i64 qu) ∧ w'.cell? ⟨w.heap.size, 1, none⟩ = some (.int .i64 li) ∧ w'.cell? ⟨w.heap.size, 2, none⟩ = some (.slice A n cap) ∧ w'.cell? ⟨w.heap.size, 3, none⟩ = some (.slice B m capd) ∧ w'.cell? ⟨w.heap.size, 4, none⟩ = some (.int .i64 nx) ∧ w'.cell? ⟨w.heap.size, 5, none⟩ = some (.bool op) ∧ w'.cell? ⟨w3.heap.size, 0, none⟩ = some (.int .i64 xq) ∧ w'.cell? ⟨w3.heap.size, 1, none⟩ = some (.int .i64 xl) ∧ w'.cell? ⟨w3.heap.size, 2, none⟩ = some (.slice M_v.A M_v.n M_v.cap) ∧ w'.cell? ⟨w3.heap.size, 3, none⟩ = some (.slice M_v.B M_v.m M_v.capd) ∧ w'.cell? ⟨w3.heap.size, 4, none⟩ = some (.int .i64 xn) ∧ w'.cell? ⟨w3.heap.size, 5, none⟩ = some (.bool xo) ∧ w'.cell? ⟨w4.heap.size, 0, none⟩ = some (.int .i64 qu) ∧ w'.cell? ⟨w4.heap.size, 1, none⟩ = some (.int .i64 li) ∧ w'.cell? ⟨w4.heap.size, 2, none⟩ = some (.slice M_x.A M_x.n M_x.cap) ∧ w'.cell? ⟨w4.heap.size, 3, none⟩ = some (.slice M_x.B M_x.m M_x.capd) ∧ w'.cell? ⟨w4.heap.size, 4, none⟩ = some (.int .i64 nx) ∧ w'.cell? ⟨w4.heap.size, 5, none⟩ = some (.bool op) ∧ w'.cell? ⟨w5.heap.size, 0, none⟩ = some (.int .i64 xq) ∧ w'.cell? ⟨w5.heap.size, 1, none⟩ = some (.int .i64 xl) ∧ w'.cell? ⟨w5.heap.size, 2, none⟩ = some (.slice M_g.A M_g.n M_g.cap) ∧ w'.cell? ⟨w5.heap.size, 3, none⟩ = some (.slice M_g.B M_g.m M_g.capd) ∧ w'.cell? ⟨w5.heap.size, 4, none⟩ = some (.int .i64 xn) ∧ w'.cell? ⟨w5.heap.size, 5, none⟩ = some (.bool xo)) (go_keep)
    (first
      | (go_at_call 31; refine (toFair_any qu li ⟨A, n, cap, B, m, capd⟩ nx op (F.map fl) D _ (HR_a.out.below HB_6.out.drew) HG2.out hn2 hm2).mono ?_; rintro e w7 ⟨M_y, rfl, ho_y, hb7⟩; have zz7 := hb7.size; (try simp at zz7); have rkhb7_q := fun o => bkeep hb7 (w.heap.size) o (by first | omega | (simp; done) | (simp; omega)); have rkhb7_w0 := fun o => bkeep hb7 (w3.heap.size) o (by first | omega | (simp; done) | (simp; omega)); have rkhb7_x0 := fun o => bkeep hb7 (w4.heap.size) o (by first | omega | (simp; done) | (simp; omega)); have rkhb7_g0 := fun o => bkeep hb7 (w5.heap.size) o (by first | omega | (simp; done) | (simp; omega)))
      | (go_at_call 33; refine (eqFair_any _ _ M_x _ _ (F.map fl) D M_y _ ((HO_x_6.out.drew).old hb7).row ho_y.row HG3.out (by have := HN_x.out; have := HLN.out; omega) (by have := HN_x.out; have := HLN.out; omega)).mono ?_; rintro e w8 ⟨rfl, hb8⟩; have zz8 := hb8.size; have rkhb8_q := fun o => bkeep hb8 (w.heap.size) o (by first | omega | (simp; done) | (simp; omega)); have rkhb8_w0 := fun o => bkeep hb8 (w3.heap.size) o (by first | omega | (simp; done) | (simp; omega)); have rkhb8_x0 := fun o => bkeep hb8 (w4.heap.size) o (by first | omega | (simp; done) | (simp; omega)); have rkhb8_g0 := fun o => bkeep hb8 (w5.heap.size) o (by first | omega | (simp; done) | (simp; omega))))
  clear rkhb7_q rkhb7_w0 rkhb7_x0 rkhb7_g0 rkhb8_q rkhb8_w0 rkhb8_x0 rkhb8_g0 zz7 zz8
  have HN_y := Lib.hid ho_y.len
  have HO_y_7 := Lib.hid ho_y
  clear ho_y
  have z7 := hb7.size
  (try simp at z7)
  have HK_q_7 : Hid (Bk w7 (w.heap.size) 51 #[.int .i64 qu, .int .i64 li, .slice A n cap, .slice B m capd, .int .i64 nx, .bool op]) := Lib.hid ((HK_q_6.out.drew).old hb7)
  clear HK_q_6
  clear cb_q_0 cb_q_1 cb_q_2 cb_q_3 cb_q_4 cb_q_5 zb_q
  have zb_q : w.heap.size < w7.heap.size := HK_q_7.out.lt
  have cb_q_0 : w7.cell? ⟨w.heap.size, 0, none⟩ = some (.int .i64 qu) := HK_q_7.out.cell 0
  have cb_q_1 : w7.cell? ⟨w.heap.size, 1, none⟩ = some (.int .i64 li) := HK_q_7.out.cell 1
  have cb_q_2 : w7.cell? ⟨w.heap.size, 2, none⟩ = some (.slice A n cap) := HK_q_7.out.cell 2
  have cb_q_3 : w7.cell? ⟨w.heap.size, 3, none⟩ = some (.slice B m capd) := HK_q_7.out.cell 3
  have cb_q_4 : w7.cell? ⟨w.heap.size, 4, none⟩ = some (.int .i64 nx) := HK_q_7.out.cell 4
  have cb_q_5 : w7.cell? ⟨w.heap.size, 5, none⟩ = some (.bool op) := HK_q_7.out.cell 5
  have HK_w0_7 : Hid (Bk w7 (w3.heap.size) 56 #[.int .i64 xq, .int .i64 xl, .slice M_v.A M_v.n M_v.cap, .slice M_v.B M_v.m M_v.capd, .int .i64 xn, .bool xo]) := Lib.hid ((HK_w0_6.out.drew).old hb7)
  clear HK_w0_6
  clear cb_w0_0 cb_w0_1 cb_w0_2 cb_w0_3 cb_w0_4 cb_w0_5 zb_w0
  have zb_w0 : w3.heap.size < w7.heap.size := HK_w0_7.out.lt
  have cb_w0_0 : w7.cell? ⟨w3.heap.size, 0, none⟩ = some (.int .i64 xq) := HK_w0_7.out.cell 0
  have cb_w0_1 : w7.cell? ⟨w3.heap.size, 1, none⟩ = some (.int .i64 xl) := HK_w0_7.out.cell 1
  have cb_w0_2 : w7.cell? ⟨w3.heap.size, 2, none⟩ = some (.slice M_v.A M_v.n M_v.cap) := HK_w0_7.out.cell 2
  have cb_w0_3 : w7.cell? ⟨w3.heap.size, 3, none⟩ = some (.slice M_v.B M_v.m M_v.capd) := HK_w0_7.out.cell 3
  have cb_w0_4 : w7.cell? ⟨w3.heap.size, 4, none⟩ = some (.int .i64 xn) := HK_w0_7.out.cell 4
  have cb_w0_5 : w7.cell? ⟨w3.heap.size, 5, none⟩ = some (.bool xo) := HK_w0_7.out.cell 5
  have HK_x0_7 : Hid (Bk w7 (w4.heap.size) 56 #[.int .i64 qu, .int .i64 li, .slice M_x.A M_x.n M_x.cap, .slice M_x.B M_x.m M_x.capd, .int .i64 nx, .bool op]) := Lib.hid ((HK_x0_6.out.drew).old hb7)
  clear HK_x0_6
  clear cb_x0_0 cb_x0_1 cb_x0_2 cb_x0_3 cb_x0_4 cb_x0_5 zb_x0
  have zb_x0 : w4.heap.size < w7.heap.size := HK_x0_7.out.lt
  have cb_x0_0 : w7.cell? ⟨w4.heap.size, 0, none⟩ = some (.int .i64 qu) := HK_x0_7.out.cell 0
  have cb_x0_1 : w7.cell? ⟨w4.heap.size, 1, none⟩ = some (.int .i64 li) := HK_x0_7.out.cell 1
  have cb_x0_2 : w7.cell? ⟨w4.heap.size, 2, none⟩ = some (.slice M_x.A M_x.n M_x.cap) := HK_x0_7.out.cell 2
  have cb_x0_3 : w7.cell? ⟨w4.heap.size, 3, none⟩ = some (.slice M_x.B M_x.m M_x.capd) := HK_x0_7.out.cell 3
  have cb_x0_4 : w7.cell? ⟨w4.heap.size, 4, none⟩ = some (.int .i64 nx) := HK_x0_7.out.cell 4
  have cb_x0_5 : w7.cell? ⟨w4.heap.size, 5, none⟩ = some (.bool op) := HK_x0_7.out.cell 5
  have HK_g0_7 : Hid (Bk w7 (w5.heap.size) 56 #[.int .i64 xq, .int .i64 xl, .slice M_g.A M_g.n M_g.cap, .slice M_g.B M_g.m M_g.capd, .int .i64 xn, .bool xo]) := Lib.hid ((HK_g0_6.out.drew).old hb7)
  clear HK_g0_6
  clear cb_g0_0 cb_g0_1 cb_g0_2 cb_g0_3 cb_g0_4 cb_g0_5 zb_g0
  have zb_g0 : w5.heap.size < w7.heap.size := HK_g0_7.out.lt
  have cb_g0_0 : w7.cell? ⟨w5.heap.size, 0, none⟩ = some (.int .i64 xq) := HK_g0_7.out.cell 0
  have cb_g0_1 : w7.cell? ⟨w5.heap.size, 1, none⟩ = some (.int .i64 xl) := HK_g0_7.out.cell 1
  have cb_g0_2 : w7.cell? ⟨w5.heap.size, 2, none⟩ = some (.slice M_g.A M_g.n M_g.cap) := HK_g0_7.out.cell 2
  have cb_g0_3 : w7.cell? ⟨w5.heap.size, 3, none⟩ = some (.slice M_g.B M_g.m M_g.capd) := HK_g0_7.out.cell 3
  have cb_g0_4 : w7.cell? ⟨w5.heap.size, 4, none⟩ = some (.int .i64 xn) := HK_g0_7.out.cell 4
  have cb_g0_5 : w7.cell? ⟨w5.heap.size, 5, none⟩ = some (.bool xo) := HK_g0_7.out.cell 5
  have HO_s_7 := Lib.hid ((HO_s_6.out.drew).old hb7)
  clear HO_s_6
  have HO_v_7 := Lib.hid ((HO_v_6.out.drew).old hb7)
  clear HO_v_6
  have HO_x_7 := Lib.hid ((HO_x_6.out.drew).old hb7)
  clear HO_x_6
  have HO_g_7 := Lib.hid ((HO_g_6.out.drew).old hb7)
  clear HO_g_6
  have HB_7 := Lib.hid (bt HB_6.out.drew hb7)
  clear hb7
  have z8 := hb8.size
  (try simp at z8)
  have HK_q_8 : Hid (Bk w8 (w.heap.size) 51 #[.int .i64 qu, .int .i64 li, .slice A n cap, .slice B m capd, .int .i64 nx, .bool op]) := Lib.hid (HK_q_7.out.old hb8)
  clear HK_q_7
  clear cb_q_0 cb_q_1 cb_q_2 cb_q_3 cb_q_4 cb_q_5 zb_q
  have zb_q : w.heap.size < w8.heap.size := HK_q_8.out.lt
  have cb_q_0 : w8.cell? ⟨w.heap.size, 0, none⟩ = some (.int .i64 qu) := HK_q_8.out.cell 0
  have cb_q_1 : w8.cell? ⟨w.heap.size, 1, none⟩ = some (.int .i64 li) := HK_q_8.out.cell 1
  have cb_q_2 : w8.cell? ⟨w.heap.size, 2, none⟩ = some (.slice A n cap) := HK_q_8.out.cell 2
  have cb_q_3 : w8.cell? ⟨w.heap.size, 3, none⟩ = some (.slice B m capd) := HK_q_8.out.cell 3
  have cb_q_4 : w8.cell? ⟨w.heap.size, 4, none⟩ = some (.int .i64 nx) := HK_q_8.out.cell 4
  have cb_q_5 : w8.cell? ⟨w.heap.size, 5, none⟩ = some (.bool op) := HK_q_8.out.cell 5
  have HK_w0_8 : Hid (Bk w8 (w3.heap.size) 56 #[.int .i64 xq, .int .i64 xl, .slice M_v.A M_v.n M_v.cap, .slice M_v.B M_v.m M_v.capd, .int .i64 xn, .bool xo]) := Lib.hid (HK_w0_7.out.old hb8)
  clear HK_w0_7
  clear cb_w0_0 cb_w0_1 cb_w0_2 cb_w0_3 cb_w0_4 cb_w0_5 zb_w0
  have zb_w0 : w3.heap.size < w8.heap.size := HK_w0_8.out.lt
  have cb_w0_0 : w8.cell? ⟨w3.heap.size, 0, none⟩ = some (.int .i64 xq) := HK_w0_8.out.cell 0
  have cb_w0_1 : w8.cell? ⟨w3.heap.size, 1, none⟩ = some (.int .i64 xl) := HK_w0_8.out.cell 1
  have cb_w0_2 : w8.cell? ⟨w3.heap.size, 2, none⟩ = some (.slice M_v.A M_v.n M_v.cap) := HK_w0_8.out.cell 2
  have cb_w0_3 : w8.cell? ⟨w3.heap.size, 3, none⟩ = some (.slice M_v.B M_v.m M_v.capd) := HK_w0_8.out.cell 3
  have cb_w0_4 : w8.cell? ⟨w3.heap.size, 4, none⟩ = some (.int .i64 xn) := HK_w0_8.out.cell 4
  have cb_w0_5 : w8.cell? ⟨w3.heap.size, 5, none⟩ = some (.bool xo) := HK_w0_8.out.cell 5
  have HK_x0_8 : Hid (Bk w8 (w4.heap.size) 56 #[.int .i64 qu, .int .i64 li, .slice M_x.A M_x.n M_x.cap, .slice M_x.B M_x.m M_x.capd, .int .i64 nx, .bool op]) := Lib.hid (HK_x0_7.out.old hb8)
  clear HK_x0_7
  clear cb_x0_0 cb_x0_1 cb_x0_2 cb_x0_3 cb_x0_4 cb_x0_5 zb_x0
  have zb_x0 : w4.heap.size < w8.heap.size := HK_x0_8.out.lt
  have cb_x0_0 : w8.cell? ⟨w4.heap.size, 0, none⟩ = some (.int .i64 qu) := HK_x0_8.out.cell 0
  have cb_x0_1 : w8.cell? ⟨w4.heap.size, 1, none⟩ = some (.int .i64 li) := HK_x0_8.out.cell 1
  have cb_x0_2 : w8.cell? ⟨w4.heap.size, 2, none⟩ = some (.slice M_x.A M_x.n M_x.cap) := HK_x0_8.out.cell 2
  have cb_x0_3 : w8.cell? ⟨w4.heap.size, 3, none⟩ = some (.slice M_x.B M_x.m M_x.capd) := HK_x0_8.out.cell 3
  have cb_x0_4 : w8.cell? ⟨w4.heap.size, 4, none⟩ = some (.int .i64 nx) := HK_x0_8.out.cell 4
  have cb_x0_5 : w8.cell? ⟨w4.heap.size, 5, none⟩ = some (.bool op) := HK_x0_8.out.cell 5
  have HK_g0_8 : Hid (Bk w8 (w5.heap.size) 56 #[.int .i64 xq, .int .i64 xl, .slice M_g.A M_g.n M_g.cap, .slice M_g.B M_g.m M_g.capd, .int .i64 xn, .bool xo]) := Lib.hid (HK_g0_7.out.old hb8)
  clear HK_g0_7
  clear cb_g0_0 cb_g0_1 cb_g0_2 cb_g0_3 cb_g0_4 cb_g0_5 zb_g0
  have zb_g0 : w5.heap.size < w8.heap.size := HK_g0_8.out.lt
  have cb_g0_0 : w8.cell? ⟨w5.heap.size, 0, none⟩ = some (.int .i64 xq) := HK_g0_8.out.cell 0
  have cb_g0_1 : w8.cell? ⟨w5.heap.size, 1, none⟩ = some (.int .i64 xl) := HK_g0_8.out.cell 1
  have cb_g0_2 : w8.cell? ⟨w5.heap.size, 2, none⟩ = some (.slice M_g.A M_g.n M_g.cap) := HK_g0_8.out.cell 2
  have cb_g0_3 : w8.cell? ⟨w5.heap.size, 3, none⟩ = some (.slice M_g.B M_g.m M_g.capd) := HK_g0_8.out.cell 3
  have cb_g0_4 : w8.cell? ⟨w5.heap.size, 4, none⟩ = some (.int .i64 xn) := HK_g0_8.out.cell 4
  have cb_g0_5 : w8.cell? ⟨w5.heap.size, 5, none⟩ = some (.bool xo) := HK_g0_8.out.cell 5
  have HO_s_8 := Lib.hid (HO_s_7.out.old hb8)
  clear HO_s_7
  have HO_v_8 := Lib.hid (HO_v_7.out.old hb8)
  clear HO_v_7
  have HO_x_8 := Lib.hid (HO_x_7.out.old hb8)
  clear HO_x_7
  have HO_g_8 := Lib.hid (HO_g_7.out.old hb8)
  clear HO_g_7
  have HO_y_8 := Lib.hid (HO_y_7.out.old hb8)
  clear HO_y_7
  have HB_8 := Lib.hid (bt HB_7.out hb8)
  clear hb8
  go_wp2_with fail
  refine (markFair_any _ _ M_x _ _ (F.map fl) D 1 _ _ _ HO_x_8.out (by have := HN_x.out; have := HLN.out; omega) (by have := HN_x.out; have := HLN.out; omega) (by omega) (by omega) (by first | omega | (simp; done) | (simp; omega)) (by first | omega | (simp; done) | (simp; omega))).mono ?_
  rintro e w9 ⟨rfl, ho9, hb9⟩
  have HO_x_9 := Lib.hid ho9
  clear ho9
  have z9 := hb9.size
  (try simp at z9)
  have HK_q_9 : Hid (Bk w9 (w.heap.size) 51 #[.int .i64 qu, .int .i64 li, .slice A n cap, .slice B m capd, .int .i64 nx, .bool op]) := Lib.hid (HK_q_8.out.chg hb9 (by first | omega | (simp; done) | (simp; omega)))
  clear HK_q_8
  clear cb_q_0 cb_q_1 cb_q_2 cb_q_3 cb_q_4 cb_q_5 zb_q
  have zb_q : w.heap.size < w9.heap.size := HK_q_9.out.lt
  have cb_q_0 : w9.cell? ⟨w.heap.size, 0, none⟩ = some (.int .i64 qu) := HK_q_9.out.cell 0
  have cb_q_1 : w9.cell? ⟨w.heap.size, 1, none⟩ = some (.int .i64 li) := HK_q_9.out.cell 1
  have cb_q_2 : w9.cell? ⟨w.heap.size, 2, none⟩ = some (.slice A n cap) := HK_q_9.out.cell 2
  have cb_q_3 : w9.cell? ⟨w.heap.size, 3, none⟩ = some (.slice B m capd) := HK_q_9.out.cell 3
  have cb_q_4 : w9.cell? ⟨w.heap.size, 4, none⟩ = some (.int .i64 nx) := HK_q_9.out.cell 4
  have cb_q_5 : w9.cell? ⟨w.heap.size, 5, none⟩ = some (.bool op) := HK_q_9.out.cell 5
  have HK_w0_9 : Hid (Bk w9 (w3.heap.size) 56 #[.int .i64 xq, .int .i64 xl, .slice M_v.A M_v.n M_v.cap, .slice M_v.B M_v.m M_v.capd, .int .i64 xn, .bool xo]) := Lib.hid (HK_w0_8.out.chg hb9 (by first | omega | (simp; done) | (simp; omega)))
  clear HK_w0_8
  clear cb_w0_0 cb_w0_1 cb_w0_2 cb_w0_3 cb_w0_4 cb_w0_5 zb_w0
  have zb_w0 : w3.heap.size < w9.heap.size := HK_w0_9.out.lt
  have cb_w0_0 : w9.cell? ⟨w3.heap.size, 0, none⟩ = some (.int .i64 xq) := HK_w0_9.out.cell 0
  have cb_w0_1 : w9.cell? ⟨w3.heap.size, 1, none⟩ = some (.int .i64 xl) := HK_w0_9.out.cell 1
  have cb_w0_2 : w9.cell? ⟨w3.heap.size, 2, none⟩ = some (.slice M_v.A M_v.n M_v.cap) := HK_w0_9.out.cell 2
  have cb_w0_3 : w9.cell? ⟨w3.heap.size, 3, none⟩ = some (.slice M_v.B M_v.m M_v.capd) := HK_w0_9.out.cell 3
  have cb_w0_4 : w9.cell? ⟨w3.heap.size, 4, none⟩ = some (.int .i64 xn) := HK_w0_9.out.cell 4
  have cb_w0_5 : w9.cell? ⟨w3.heap.size, 5, none⟩ = some (.bool xo) := HK_w0_9.out.cell 5
  have HK_x0_9 : Hid (Bk w9 (w4.heap.size) 56 #[.int .i64 qu, .int .i64 li, .slice M_x.A M_x.n M_x.cap, .slice M_x.B M_x.m M_x.capd, .int .i64 nx, .bool op]) := Lib.hid (HK_x0_8.out.chg hb9 (by first | omega | (simp; done) | (simp; omega)))
  clear HK_x0_8
  clear cb_x0_0 cb_x0_1 cb_x0_2 cb_x0_3 cb_x0_4 cb_x0_5 zb_x0
  have zb_x0 : w4.heap.size < w9.heap.size := HK_x0_9.out.lt
  have cb_x0_0 : w9.cell? ⟨w4.heap.size, 0, none⟩ = some (.int .i64 qu) := HK_x0_9.out.cell 0
  have cb_x0_1 : w9.cell? ⟨w4.heap.size, 1, none⟩ = some (.int .i64 li) := HK_x0_9.out.cell 1
  have cb_x0_2 : w9.cell? ⟨w4.heap.size, 2, none⟩ = some (.slice M_x.A M_x.n M_x.cap) := HK_x0_9.out.cell 2
  have cb_x0_3 : w9.cell? ⟨w4.heap.size, 3, none⟩ = some (.slice M_x.B M_x.m M_x.capd) := HK_x0_9.out.cell 3
  have cb_x0_4 : w9.cell? ⟨w4.heap.size, 4, none⟩ = some (.int .i64 nx) := HK_x0_9.out.cell 4
  have cb_x0_5 : w9.cell? ⟨w4.heap.size, 5, none⟩ = some (.bool op) := HK_x0_9.out.cell 5
  have HK_g0_9 : Hid (Bk w9 (w5.heap.size) 56 #[.int .i64 xq, .int .i64 xl, .slice M_g.A M_g.n M_g.cap, .slice M_g.B M_g.m M_g.capd, .int .i64 xn, .bool xo]) := Lib.hid (HK_g0_8.out.chg hb9 (by first | omega | (simp; done) | (simp; omega)))
  clear HK_g0_8
  clear cb_g0_0 cb_g0_1 cb_g0_2 cb_g0_3 cb_g0_4 cb_g0_5 zb_g0
  have zb_g0 : w5.heap.size < w9.heap.size := HK_g0_9.out.lt
  have cb_g0_0 : w9.cell? ⟨w5.heap.size, 0, none⟩ = some (.int .i64 xq) := HK_g0_9.out.cell 0
  have cb_g0_1 : w9.cell? ⟨w5.heap.size, 1, none⟩ = some (.int .i64 xl) := HK_g0_9.out.cell 1
  have cb_g0_2 : w9.cell? ⟨w5.heap.size, 2, none⟩ = some (.slice M_g.A M_g.n M_g.cap) := HK_g0_9.out.cell 2
  have cb_g0_3 : w9.cell? ⟨w5.heap.size, 3, none⟩ = some (.slice M_g.B M_g.m M_g.capd) := HK_g0_9.out.cell 3
  have cb_g0_4 : w9.cell? ⟨w5.heap.size, 4, none⟩ = some (.int .i64 xn) := HK_g0_9.out.cell 4
  have cb_g0_5 : w9.cell? ⟨w5.heap.size, 5, none⟩ = some (.bool xo) := HK_g0_9.out.cell 5
  have HO_s_9 := Lib.hid (HO_s_8.out.chg hb9 (by first | omega | (simp; done) | (simp; omega)))
  clear HO_s_8
  have HO_v_9 := Lib.hid (HO_v_8.out.chg hb9 (by first | omega | (simp; done) | (simp; omega)))
  clear HO_v_8
  have HO_g_9 := Lib.hid (HO_g_8.out.chg hb9 (by first | omega | (simp; done) | (simp; omega)))
  clear HO_g_8
  have HO_y_9 := Lib.hid (HO_y_8.out.chg hb9 (by first | omega | (simp; done) | (simp; omega)))
  clear HO_y_8
  have HB_9 := Lib.hid (Chg.below HB_8.out hb9 (by first | omega | (simp; done) | (simp; omega)))
  clear hb9
  clear HO_x_8
  go_wp2_with fail
  refine (eqFair_any _ _ M_g _ _ E T M_v _ HO_g_9.out.row HO_v_9.out.row HGE.out (by have := HN_g.out; have := HSN.out; have := HLN.out; omega) (by have := HN_g.out; have := HSN.out; have := HLN.out; omega)).mono ?_
  rintro e w10 ⟨rfl, hb10⟩
  have z10 := hb10.size
  (try simp at z10)
  have HK_q_10 : Hid (Bk w10 (w.heap.size) 51 #[.int .i64 qu, .int .i64 li, .slice A n cap, .slice B m capd, .int .i64 nx, .bool op]) := Lib.hid (HK_q_9.out.old hb10)
  clear HK_q_9
  clear cb_q_0 cb_q_1 cb_q_2 cb_q_3 cb_q_4 cb_q_5 zb_q
  have zb_q : w.heap.size < w10.heap.size := HK_q_10.out.lt
  have cb_q_0 : w10.cell? ⟨w.heap.size, 0, none⟩ = some (.int .i64 qu) := HK_q_10.out.cell 0
  have cb_q_1 : w10.cell? ⟨w.heap.size, 1, none⟩ = some (.int .i64 li) := HK_q_10.out.cell 1
  have cb_q_2 : w10.cell? ⟨w.heap.size, 2, none⟩ = some (.slice A n cap) := HK_q_10.out.cell 2
  have cb_q_3 : w10.cell? ⟨w.heap.size, 3, none⟩ = some (.slice B m capd) := HK_q_10.out.cell 3
  have cb_q_4 : w10.cell? ⟨w.heap.size, 4, none⟩ = some (.int .i64 nx) := HK_q_10.out.cell 4
  have cb_q_5 : w10.cell? ⟨w.heap.size, 5, none⟩ = some (.bool op) := HK_q_10.out.cell 5
  have HK_w0_10 : Hid (Bk w10 (w3.heap.size) 56 #[.int .i64 xq, .int .i64 xl, .slice M_v.A M_v.n M_v.cap, .slice M_v.B M_v.m M_v.capd, .int .i64 xn, .bool xo]) := Lib.hid (HK_w0_9.out.old hb10)
  clear HK_w0_9
  clear cb_w0_0 cb_w0_1 cb_w0_2 cb_w0_3 cb_w0_4 cb_w0_5 zb_w0
  have zb_w0 : w3.heap.size < w10.heap.size := HK_w0_10.out.lt
  have cb_w0_0 : w10.cell? ⟨w3.heap.size, 0, none⟩ = some (.int .i64 xq) := HK_w0_10.out.cell 0
  have cb_w0_1 : w10.cell? ⟨w3.heap.size, 1, none⟩ = some (.int .i64 xl) := HK_w0_10.out.cell 1
  have cb_w0_2 : w10.cell? ⟨w3.heap.size, 2, none⟩ = some (.slice M_v.A M_v.n M_v.cap) := HK_w0_10.out.cell 2
  have cb_w0_3 : w10.cell? ⟨w3.heap.size, 3, none⟩ = some (.slice M_v.B M_v.m M_v.capd) := HK_w0_10.out.cell 3
  have cb_w0_4 : w10.cell? ⟨w3.heap.size, 4, none⟩ = some (.int .i64 xn) := HK_w0_10.out.cell 4
  have cb_w0_5 : w10.cell? ⟨w3.heap.size, 5, none⟩ = some (.bool xo) := HK_w0_10.out.cell 5
  have HK_x0_10 : Hid (Bk w10 (w4.heap.size) 56 #[.int .i64 qu, .int .i64 li, .slice M_x.A M_x.n M_x.cap, .slice M_x.B M_x.m M_x.capd, .int .i64 nx, .bool op]) := Lib.hid (HK_x0_9.out.old hb10)
  clear HK_x0_9
  clear cb_x0_0 cb_x0_1 cb_x0_2 cb_x0_3 cb_x0_4 cb_x0_5 zb_x0
  have zb_x0 : w4.heap.size < w10.heap.size := HK_x0_10.out.lt
  have cb_x0_0 : w10.cell? ⟨w4.heap.size, 0, none⟩ = some (.int .i64 qu) := HK_x0_10.out.cell 0
  have cb_x0_1 : w10.cell? ⟨w4.heap.size, 1, none⟩ = some (.int .i64 li) := HK_x0_10.out.cell 1
  have cb_x0_2 : w10.cell? ⟨w4.heap.size, 2, none⟩ = some (.slice M_x.A M_x.n M_x.cap) := HK_x0_10.out.cell 2
  have cb_x0_3 : w10.cell? ⟨w4.heap.size, 3, none⟩ = some (.slice M_x.B M_x.m M_x.capd) := HK_x0_10.out.cell 3
  have cb_x0_4 : w10.cell? ⟨w4.heap.size, 4, none⟩ = some (.int .i64 nx) := HK_x0_10.out.cell 4
  have cb_x0_5 : w10.cell? ⟨w4.heap.size, 5, none⟩ = some (.bool op) := HK_x0_10.out.cell 5
  have HK_g0_10 : Hid (Bk w10 (w5.heap.size) 56 #[.int .i64 xq, .int .i64 xl, .slice M_g.A M_g.n M_g.cap, .slice M_g.B M_g.m M_g.capd, .int .i64 xn, .bool xo]) := Lib.hid (HK_g0_9.out.old hb10)
  clear HK_g0_9
  clear cb_g0_0 cb_g0_1 cb_g0_2 cb_g0_3 cb_g0_4 cb_g0_5 zb_g0
  have zb_g0 : w5.heap.size < w10.heap.size := HK_g0_10.out.lt
  have cb_g0_0 : w10.cell? ⟨w5.heap.size, 0, none⟩ = some (.int .i64 xq) := HK_g0_10.out.cell 0
  have cb_g0_1 : w10.cell? ⟨w5.heap.size, 1, none⟩ = some (.int .i64 xl) := HK_g0_10.out.cell 1
  have cb_g0_2 : w10.cell? ⟨w5.heap.size, 2, none⟩ = some (.slice M_g.A M_g.n M_g.cap) := HK_g0_10.out.cell 2
  have cb_g0_3 : w10.cell? ⟨w5.heap.size, 3, none⟩ = some (.slice M_g.B M_g.m M_g.capd) := HK_g0_10.out.cell 3
  have cb_g0_4 : w10.cell? ⟨w5.heap.size, 4, none⟩ = some (.int .i64 xn) := HK_g0_10.out.cell 4
  have cb_g0_5 : w10.cell? ⟨w5.heap.size, 5, none⟩ = some (.bool xo) := HK_g0_10.out.cell 5
  have HO_s_10 := Lib.hid (HO_s_9.out.old hb10)
  clear HO_s_9
  have HO_v_10 := Lib.hid (HO_v_9.out.old hb10)
  clear HO_v_9
  have HO_x_10 := Lib.hid (HO_x_9.out.old hb10)
  clear HO_x_9
  have HO_g_10 := Lib.hid (HO_g_9.out.old hb10)
  clear HO_g_9
  have HO_y_10 := Lib.hid (HO_y_9.out.old hb10)
  clear HO_y_9
  have HB_10 := Lib.hid (bt HB_9.out hb10)
  clear hb10
  go_wp2_with fail
  refine (markFair_any _ _ M_g _ _ E T 1 _ _ _ HO_g_10.out (by have := HN_g.out; have := HSN.out; have := HLN.out; omega) (by have := HN_g.out; have := HSN.out; have := HLN.out; omega) (by omega) (by omega) (by first | omega | (simp; done) | (simp; omega)) (by first | omega | (simp; done) | (simp; omega))).mono ?_
  rintro e w11 ⟨rfl, ho11, hb11⟩
  have HO_g_11 := Lib.hid ho11
  clear ho11
  have z11 := hb11.size
  (try simp at z11)
  have HK_q_11 : Hid (Bk w11 (w.heap.size) 51 #[.int .i64 qu, .int .i64 li, .slice A n cap, .slice B m capd, .int .i64 nx, .bool op]) := Lib.hid (HK_q_10.out.chg hb11 (by first | omega | (simp; done) | (simp; omega)))
  clear HK_q_10
  clear cb_q_0 cb_q_1 cb_q_2 cb_q_3 cb_q_4 cb_q_5 zb_q
  have zb_q : w.heap.size < w11.heap.size := HK_q_11.out.lt
  have cb_q_0 : w11.cell? ⟨w.heap.size, 0, none⟩ = some (.int .i64 qu) := HK_q_11.out.cell 0
  have cb_q_1 : w11.cell? ⟨w.heap.size, 1, none⟩ = some (.int .i64 li) := HK_q_11.out.cell 1
  have cb_q_2 : w11.cell? ⟨w.heap.size, 2, none⟩ = some (.slice A n cap) := HK_q_11.out.cell 2
  have cb_q_3 : w11.cell? ⟨w.heap.size, 3, none⟩ = some (.slice B m capd) := HK_q_11.out.cell 3
  have cb_q_4 : w11.cell? ⟨w.heap.size, 4, none⟩ = some (.int .i64 nx) := HK_q_11.out.cell 4
  have cb_q_5 : w11.cell? ⟨w.heap.size, 5, none⟩ = some (.bool op) := HK_q_11.out.cell 5
  have HK_w0_11 : Hid (Bk w11 (w3.heap.size) 56 #[.int .i64 xq, .int .i64 xl, .slice M_v.A M_v.n M_v.cap, .slice M_v.B M_v.m M_v.capd, .int .i64 xn, .bool xo]) := Lib.hid (HK_w0_10.out.chg hb11 (by first | omega | (simp; done) | (simp; omega)))
  clear HK_w0_10
  clear cb_w0_0 cb_w0_1 cb_w0_2 cb_w0_3 cb_w0_4 cb_w0_5 zb_w0
  have zb_w0 : w3.heap.size < w11.heap.size := HK_w0_11.out.lt
  have cb_w0_0 : w11.cell? ⟨w3.heap.size, 0, none⟩ = some (.int .i64 xq) := HK_w0_11.out.cell 0
  have cb_w0_1 : w11.cell? ⟨w3.heap.size, 1, none⟩ = some (.int .i64 xl) := HK_w0_11.out.cell 1
  have cb_w0_2 : w11.cell? ⟨w3.heap.size, 2, none⟩ = some (.slice M_v.A M_v.n M_v.cap) := HK_w0_11.out.cell 2
  have cb_w0_3 : w11.cell? ⟨w3.heap.size, 3, none⟩ = some (.slice M_v.B M_v.m M_v.capd) := HK_w0_11.out.cell 3
  have cb_w0_4 : w11.cell? ⟨w3.heap.size, 4, none⟩ = some (.int .i64 xn) := HK_w0_11.out.cell 4
  have cb_w0_5 : w11.cell? ⟨w3.heap.size, 5, none⟩ = some (.bool xo) := HK_w0_11.out.cell 5
  have HK_x0_11 : Hid (Bk w11 (w4.heap.size) 56 #[.int .i64 qu, .int .i64 li, .slice M_x.A M_x.n M_x.cap, .slice M_x.B M_x.m M_x.capd, .int .i64 nx, .bool op]) := Lib.hid (HK_x0_10.out.chg hb11 (by first | omega | (simp; done) | (simp; omega)))
  clear HK_x0_10
  clear cb_x0_0 cb_x0_1 cb_x0_2 cb_x0_3 cb_x0_4 cb_x0_5 zb_x0
  have zb_x0 : w4.heap.size < w11.heap.size := HK_x0_11.out.lt
  have cb_x0_0 : w11.cell? ⟨w4.heap.size, 0, none⟩ = some (.int .i64 qu) := HK_x0_11.out.cell 0
  have cb_x0_1 : w11.cell? ⟨w4.heap.size, 1, none⟩ = some (.int .i64 li) := HK_x0_11.out.cell 1
  have cb_x0_2 : w11.cell? ⟨w4.heap.size, 2, none⟩ = some (.slice M_x.A M_x.n M_x.cap) := HK_x0_11.out.cell 2
  have cb_x0_3 : w11.cell? ⟨w4.heap.size, 3, none⟩ = some (.slice M_x.B M_x.m M_x.capd) := HK_x0_11.out.cell 3
  have cb_x0_4 : w11.cell? ⟨w4.heap.size, 4, none⟩ = some (.int .i64 nx) := HK_x0_11.out.cell 4
  have cb_x0_5 : w11.cell? ⟨w4.heap.size, 5, none⟩ = some (.bool op) := HK_x0_11.out.cell 5
  have HK_g0_11 : Hid (Bk w11 (w5.heap.size) 56 #[.int .i64 xq, .int .i64 xl, .slice M_g.A M_g.n M_g.cap, .slice M_g.B M_g.m M_g.capd, .int .i64 xn, .bool xo]) := Lib.hid (HK_g0_10.out.chg hb11 (by first | omega | (simp; done) | (simp; omega)))
  clear HK_g0_10
  clear cb_g0_0 cb_g0_1 cb_g0_2 cb_g0_3 cb_g0_4 cb_g0_5 zb_g0
  have zb_g0 : w5.heap.size < w11.heap.size := HK_g0_11.out.lt
  have cb_g0_0 : w11.cell? ⟨w5.heap.size, 0, none⟩ = some (.int .i64 xq) := HK_g0_11.out.cell 0
  have cb_g0_1 : w11.cell? ⟨w5.heap.size, 1, none⟩ = some (.int .i64 xl) := HK_g0_11.out.cell 1
  have cb_g0_2 : w11.cell? ⟨w5.heap.size, 2, none⟩ = some (.slice M_g.A M_g.n M_g.cap) := HK_g0_11.out.cell 2
  have cb_g0_3 : w11.cell? ⟨w5.heap.size, 3, none⟩ = some (.slice M_g.B M_g.m M_g.capd) := HK_g0_11.out.cell 3
  have cb_g0_4 : w11.cell? ⟨w5.heap.size, 4, none⟩ = some (.int .i64 xn) := HK_g0_11.out.cell 4
  have cb_g0_5 : w11.cell? ⟨w5.heap.size, 5, none⟩ = some (.bool xo) := HK_g0_11.out.cell 5
  have HO_s_11 := Lib.hid (HO_s_10.out.chg hb11 (by first | omega | (simp; done) | (simp; omega)))
  clear HO_s_10
  have HO_v_11 := Lib.hid (HO_v_10.out.chg hb11 (by first | omega | (simp; done) | (simp; omega)))
  clear HO_v_10
  have HO_x_11 := Lib.hid (HO_x_10.out.chg hb11 (by first | omega | (simp; done) | (simp; omega)))
  clear HO_x_10
  have HO_y_11 := Lib.hid (HO_y_10.out.chg hb11 (by first | omega | (simp; done) | (simp; omega)))
  clear HO_y_10
  have HB_11 := Lib.hid (Chg.below HB_10.out hb11 (by first | omega | (simp; done) | (simp; omega)))
  clear hb11
  clear HO_g_10
  go_wp2_with fail
  refine (heldFair_any _ _ M_g _ _ E T 1 _ HN_g.out.1 HO_g_11.out.row (by have := HN_g.out; have := HSN.out; have := HLN.out; omega) (by have := HN_g.out; have := HSN.out; have := HLN.out; omega) (by omega) (by omega)).mono ?_
  rintro e w12 ⟨rfl, hb12⟩
  have z12 := hb12.size
  (try simp at z12)
  have HK_q_12 : Hid (Bk w12 (w.heap.size) 51 #[.int .i64 qu, .int .i64 li, .slice A n cap, .slice B m capd, .int .i64 nx, .bool op]) := Lib.hid (HK_q_11.out.old hb12)
  clear HK_q_11
  clear cb_q_0 cb_q_1 cb_q_2 cb_q_3 cb_q_4 cb_q_5 zb_q
  have zb_q : w.heap.size < w12.heap.size := HK_q_12.out.lt
  have cb_q_0 : w12.cell? ⟨w.heap.size, 0, none⟩ = some (.int .i64 qu) := HK_q_12.out.cell 0
  have cb_q_1 : w12.cell? ⟨w.heap.size, 1, none⟩ = some (.int .i64 li) := HK_q_12.out.cell 1
  have cb_q_2 : w12.cell? ⟨w.heap.size, 2, none⟩ = some (.slice A n cap) := HK_q_12.out.cell 2
  have cb_q_3 : w12.cell? ⟨w.heap.size, 3, none⟩ = some (.slice B m capd) := HK_q_12.out.cell 3
  have cb_q_4 : w12.cell? ⟨w.heap.size, 4, none⟩ = some (.int .i64 nx) := HK_q_12.out.cell 4
  have cb_q_5 : w12.cell? ⟨w.heap.size, 5, none⟩ = some (.bool op) := HK_q_12.out.cell 5
  have HK_w0_12 : Hid (Bk w12 (w3.heap.size) 56 #[.int .i64 xq, .int .i64 xl, .slice M_v.A M_v.n M_v.cap, .slice M_v.B M_v.m M_v.capd, .int .i64 xn, .bool xo]) := Lib.hid (HK_w0_11.out.old hb12)
  clear HK_w0_11
  clear cb_w0_0 cb_w0_1 cb_w0_2 cb_w0_3 cb_w0_4 cb_w0_5 zb_w0
  have zb_w0 : w3.heap.size < w12.heap.size := HK_w0_12.out.lt
  have cb_w0_0 : w12.cell? ⟨w3.heap.size, 0, none⟩ = some (.int .i64 xq) := HK_w0_12.out.cell 0
  have cb_w0_1 : w12.cell? ⟨w3.heap.size, 1, none⟩ = some (.int .i64 xl) := HK_w0_12.out.cell 1
  have cb_w0_2 : w12.cell? ⟨w3.heap.size, 2, none⟩ = some (.slice M_v.A M_v.n M_v.cap) := HK_w0_12.out.cell 2
  have cb_w0_3 : w12.cell? ⟨w3.heap.size, 3, none⟩ = some (.slice M_v.B M_v.m M_v.capd) := HK_w0_12.out.cell 3
  have cb_w0_4 : w12.cell? ⟨w3.heap.size, 4, none⟩ = some (.int .i64 xn) := HK_w0_12.out.cell 4
  have cb_w0_5 : w12.cell? ⟨w3.heap.size, 5, none⟩ = some (.bool xo) := HK_w0_12.out.cell 5
  have HK_x0_12 : Hid (Bk w12 (w4.heap.size) 56 #[.int .i64 qu, .int .i64 li, .slice M_x.A M_x.n M_x.cap, .slice M_x.B M_x.m M_x.capd, .int .i64 nx, .bool op]) := Lib.hid (HK_x0_11.out.old hb12)
  clear HK_x0_11
  clear cb_x0_0 cb_x0_1 cb_x0_2 cb_x0_3 cb_x0_4 cb_x0_5 zb_x0
  have zb_x0 : w4.heap.size < w12.heap.size := HK_x0_12.out.lt
  have cb_x0_0 : w12.cell? ⟨w4.heap.size, 0, none⟩ = some (.int .i64 qu) := HK_x0_12.out.cell 0
  have cb_x0_1 : w12.cell? ⟨w4.heap.size, 1, none⟩ = some (.int .i64 li) := HK_x0_12.out.cell 1
  have cb_x0_2 : w12.cell? ⟨w4.heap.size, 2, none⟩ = some (.slice M_x.A M_x.n M_x.cap) := HK_x0_12.out.cell 2
  have cb_x0_3 : w12.cell? ⟨w4.heap.size, 3, none⟩ = some (.slice M_x.B M_x.m M_x.capd) := HK_x0_12.out.cell 3
  have cb_x0_4 : w12.cell? ⟨w4.heap.size, 4, none⟩ = some (.int .i64 nx) := HK_x0_12.out.cell 4
  have cb_x0_5 : w12.cell? ⟨w4.heap.size, 5, none⟩ = some (.bool op) := HK_x0_12.out.cell 5
  have HK_g0_12 : Hid (Bk w12 (w5.heap.size) 56 #[.int .i64 xq, .int .i64 xl, .slice M_g.A M_g.n M_g.cap, .slice M_g.B M_g.m M_g.capd, .int .i64 xn, .bool xo]) := Lib.hid (HK_g0_11.out.old hb12)
  clear HK_g0_11
  clear cb_g0_0 cb_g0_1 cb_g0_2 cb_g0_3 cb_g0_4 cb_g0_5 zb_g0
  have zb_g0 : w5.heap.size < w12.heap.size := HK_g0_12.out.lt
  have cb_g0_0 : w12.cell? ⟨w5.heap.size, 0, none⟩ = some (.int .i64 xq) := HK_g0_12.out.cell 0
  have cb_g0_1 : w12.cell? ⟨w5.heap.size, 1, none⟩ = some (.int .i64 xl) := HK_g0_12.out.cell 1
  have cb_g0_2 : w12.cell? ⟨w5.heap.size, 2, none⟩ = some (.slice M_g.A M_g.n M_g.cap) := HK_g0_12.out.cell 2
  have cb_g0_3 : w12.cell? ⟨w5.heap.size, 3, none⟩ = some (.slice M_g.B M_g.m M_g.capd) := HK_g0_12.out.cell 3
  have cb_g0_4 : w12.cell? ⟨w5.heap.size, 4, none⟩ = some (.int .i64 xn) := HK_g0_12.out.cell 4
  have cb_g0_5 : w12.cell? ⟨w5.heap.size, 5, none⟩ = some (.bool xo) := HK_g0_12.out.cell 5
  have HO_s_12 := Lib.hid (HO_s_11.out.old hb12)
  clear HO_s_11
  have HO_v_12 := Lib.hid (HO_v_11.out.old hb12)
  clear HO_v_11
  have HO_x_12 := Lib.hid (HO_x_11.out.old hb12)
  clear HO_x_11
  have HO_g_12 := Lib.hid (HO_g_11.out.old hb12)
  clear HO_g_11
  have HO_y_12 := Lib.hid (HO_y_11.out.old hb12)
  clear HO_y_11
  have HB_12 := Lib.hid (bt HB_11.out hb12)
  clear hb12
  go_wp2_with fail
  refine (toFair_any qu li ⟨A, n, cap, B, m, capd⟩ nx op (F.map fl) D _ (HR_a.out.below HB_12.out) HG2.out hn2 hm2).mono ?_
  rintro e w13 ⟨M_z, rfl, ho_z, hb13⟩
  have HN_z := Lib.hid ho_z.len
  have HO_z_13 := Lib.hid ho_z
  clear ho_z
  have z13 := hb13.size
  (try simp at z13)
  have HK_q_13 : Hid (Bk w13 (w.heap.size) 51 #[.int .i64 qu, .int .i64 li, .slice A n cap, .slice B m capd, .int .i64 nx, .bool op]) := Lib.hid (HK_q_12.out.old hb13)
  clear HK_q_12
  clear cb_q_0 cb_q_1 cb_q_2 cb_q_3 cb_q_4 cb_q_5 zb_q
  have zb_q : w.heap.size < w13.heap.size := HK_q_13.out.lt
  have cb_q_0 : w13.cell? ⟨w.heap.size, 0, none⟩ = some (.int .i64 qu) := HK_q_13.out.cell 0
  have cb_q_1 : w13.cell? ⟨w.heap.size, 1, none⟩ = some (.int .i64 li) := HK_q_13.out.cell 1
  have cb_q_2 : w13.cell? ⟨w.heap.size, 2, none⟩ = some (.slice A n cap) := HK_q_13.out.cell 2
  have cb_q_3 : w13.cell? ⟨w.heap.size, 3, none⟩ = some (.slice B m capd) := HK_q_13.out.cell 3
  have cb_q_4 : w13.cell? ⟨w.heap.size, 4, none⟩ = some (.int .i64 nx) := HK_q_13.out.cell 4
  have cb_q_5 : w13.cell? ⟨w.heap.size, 5, none⟩ = some (.bool op) := HK_q_13.out.cell 5
  have HK_w0_13 : Hid (Bk w13 (w3.heap.size) 56 #[.int .i64 xq, .int .i64 xl, .slice M_v.A M_v.n M_v.cap, .slice M_v.B M_v.m M_v.capd, .int .i64 xn, .bool xo]) := Lib.hid (HK_w0_12.out.old hb13)
  clear HK_w0_12
  clear cb_w0_0 cb_w0_1 cb_w0_2 cb_w0_3 cb_w0_4 cb_w0_5 zb_w0
  have zb_w0 : w3.heap.size < w13.heap.size := HK_w0_13.out.lt
  have cb_w0_0 : w13.cell? ⟨w3.heap.size, 0, none⟩ = some (.int .i64 xq) := HK_w0_13.out.cell 0
  have cb_w0_1 : w13.cell? ⟨w3.heap.size, 1, none⟩ = some (.int .i64 xl) := HK_w0_13.out.cell 1
  have cb_w0_2 : w13.cell? ⟨w3.heap.size, 2, none⟩ = some (.slice M_v.A M_v.n M_v.cap) := HK_w0_13.out.cell 2
  have cb_w0_3 : w13.cell? ⟨w3.heap.size, 3, none⟩ = some (.slice M_v.B M_v.m M_v.capd) := HK_w0_13.out.cell 3
  have cb_w0_4 : w13.cell? ⟨w3.heap.size, 4, none⟩ = some (.int .i64 xn) := HK_w0_13.out.cell 4
  have cb_w0_5 : w13.cell? ⟨w3.heap.size, 5, none⟩ = some (.bool xo) := HK_w0_13.out.cell 5
  have HK_x0_13 : Hid (Bk w13 (w4.heap.size) 56 #[.int .i64 qu, .int .i64 li, .slice M_x.A M_x.n M_x.cap, .slice M_x.B M_x.m M_x.capd, .int .i64 nx, .bool op]) := Lib.hid (HK_x0_12.out.old hb13)
  clear HK_x0_12
  clear cb_x0_0 cb_x0_1 cb_x0_2 cb_x0_3 cb_x0_4 cb_x0_5 zb_x0
  have zb_x0 : w4.heap.size < w13.heap.size := HK_x0_13.out.lt
  have cb_x0_0 : w13.cell? ⟨w4.heap.size, 0, none⟩ = some (.int .i64 qu) := HK_x0_13.out.cell 0
  have cb_x0_1 : w13.cell? ⟨w4.heap.size, 1, none⟩ = some (.int .i64 li) := HK_x0_13.out.cell 1
  have cb_x0_2 : w13.cell? ⟨w4.heap.size, 2, none⟩ = some (.slice M_x.A M_x.n M_x.cap) := HK_x0_13.out.cell 2
  have cb_x0_3 : w13.cell? ⟨w4.heap.size, 3, none⟩ = some (.slice M_x.B M_x.m M_x.capd) := HK_x0_13.out.cell 3
  have cb_x0_4 : w13.cell? ⟨w4.heap.size, 4, none⟩ = some (.int .i64 nx) := HK_x0_13.out.cell 4
  have cb_x0_5 : w13.cell? ⟨w4.heap.size, 5, none⟩ = some (.bool op) := HK_x0_13.out.cell 5
  have HK_g0_13 : Hid (Bk w13 (w5.heap.size) 56 #[.int .i64 xq, .int .i64 xl, .slice M_g.A M_g.n M_g.cap, .slice M_g.B M_g.m M_g.capd, .int .i64 xn, .bool xo]) := Lib.hid (HK_g0_12.out.old hb13)
  clear HK_g0_12
  clear cb_g0_0 cb_g0_1 cb_g0_2 cb_g0_3 cb_g0_4 cb_g0_5 zb_g0
  have zb_g0 : w5.heap.size < w13.heap.size := HK_g0_13.out.lt
  have cb_g0_0 : w13.cell? ⟨w5.heap.size, 0, none⟩ = some (.int .i64 xq) := HK_g0_13.out.cell 0
  have cb_g0_1 : w13.cell? ⟨w5.heap.size, 1, none⟩ = some (.int .i64 xl) := HK_g0_13.out.cell 1
  have cb_g0_2 : w13.cell? ⟨w5.heap.size, 2, none⟩ = some (.slice M_g.A M_g.n M_g.cap) := HK_g0_13.out.cell 2
  have cb_g0_3 : w13.cell? ⟨w5.heap.size, 3, none⟩ = some (.slice M_g.B M_g.m M_g.capd) := HK_g0_13.out.cell 3
  have cb_g0_4 : w13.cell? ⟨w5.heap.size, 4, none⟩ = some (.int .i64 xn) := HK_g0_13.out.cell 4
  have cb_g0_5 : w13.cell? ⟨w5.heap.size, 5, none⟩ = some (.bool xo) := HK_g0_13.out.cell 5
  have HO_s_13 := Lib.hid (HO_s_12.out.old hb13)
  clear HO_s_12
  have HO_v_13 := Lib.hid (HO_v_12.out.old hb13)
  clear HO_v_12
  have HO_x_13 := Lib.hid (HO_x_12.out.old hb13)
  clear HO_x_12
  have HO_g_13 := Lib.hid (HO_g_12.out.old hb13)
  clear HO_g_12
  have HO_y_13 := Lib.hid (HO_y_12.out.old hb13)
  clear HO_y_12
  have HB_13 := Lib.hid (bt HB_12.out hb13)
  clear hb13
  go_wp2_with fail
  refine (HIM.out M_z _ HO_z_13.out.row (by have := HN_z.out; have := HLN.out; omega) (by have := HN_z.out; have := HLN.out; omega)).mono ?_
  rintro e w14 ⟨M_h, rfl, ho_h, hb14⟩
  have HN_h := Lib.hid ho_h.len
  have HO_h_14 := Lib.hid ho_h
  clear ho_h
  have z14 := hb14.size
  (try simp at z14)
  have HK_q_14 : Hid (Bk w14 (w.heap.size) 51 #[.int .i64 qu, .int .i64 li, .slice A n cap, .slice B m capd, .int .i64 nx, .bool op]) := Lib.hid (HK_q_13.out.old hb14)
  clear HK_q_13
  clear cb_q_0 cb_q_1 cb_q_2 cb_q_3 cb_q_4 cb_q_5 zb_q
  have zb_q : w.heap.size < w14.heap.size := HK_q_14.out.lt
  have cb_q_0 : w14.cell? ⟨w.heap.size, 0, none⟩ = some (.int .i64 qu) := HK_q_14.out.cell 0
  have cb_q_1 : w14.cell? ⟨w.heap.size, 1, none⟩ = some (.int .i64 li) := HK_q_14.out.cell 1
  have cb_q_2 : w14.cell? ⟨w.heap.size, 2, none⟩ = some (.slice A n cap) := HK_q_14.out.cell 2
  have cb_q_3 : w14.cell? ⟨w.heap.size, 3, none⟩ = some (.slice B m capd) := HK_q_14.out.cell 3
  have cb_q_4 : w14.cell? ⟨w.heap.size, 4, none⟩ = some (.int .i64 nx) := HK_q_14.out.cell 4
  have cb_q_5 : w14.cell? ⟨w.heap.size, 5, none⟩ = some (.bool op) := HK_q_14.out.cell 5
  have HK_w0_14 : Hid (Bk w14 (w3.heap.size) 56 #[.int .i64 xq, .int .i64 xl, .slice M_v.A M_v.n M_v.cap, .slice M_v.B M_v.m M_v.capd, .int .i64 xn, .bool xo]) := Lib.hid (HK_w0_13.out.old hb14)
  clear HK_w0_13
  clear cb_w0_0 cb_w0_1 cb_w0_2 cb_w0_3 cb_w0_4 cb_w0_5 zb_w0
  have zb_w0 : w3.heap.size < w14.heap.size := HK_w0_14.out.lt
  have cb_w0_0 : w14.cell? ⟨w3.heap.size, 0, none⟩ = some (.int .i64 xq) := HK_w0_14.out.cell 0
  have cb_w0_1 : w14.cell? ⟨w3.heap.size, 1, none⟩ = some (.int .i64 xl) := HK_w0_14.out.cell 1
  have cb_w0_2 : w14.cell? ⟨w3.heap.size, 2, none⟩ = some (.slice M_v.A M_v.n M_v.cap) := HK_w0_14.out.cell 2
  have cb_w0_3 : w14.cell? ⟨w3.heap.size, 3, none⟩ = some (.slice M_v.B M_v.m M_v.capd) := HK_w0_14.out.cell 3
  have cb_w0_4 : w14.cell? ⟨w3.heap.size, 4, none⟩ = some (.int .i64 xn) := HK_w0_14.out.cell 4
  have cb_w0_5 : w14.cell? ⟨w3.heap.size, 5, none⟩ = some (.bool xo) := HK_w0_14.out.cell 5
  have HK_x0_14 : Hid (Bk w14 (w4.heap.size) 56 #[.int .i64 qu, .int .i64 li, .slice M_x.A M_x.n M_x.cap, .slice M_x.B M_x.m M_x.capd, .int .i64 nx, .bool op]) := Lib.hid (HK_x0_13.out.old hb14)
  clear HK_x0_13
  clear cb_x0_0 cb_x0_1 cb_x0_2 cb_x0_3 cb_x0_4 cb_x0_5 zb_x0
  have zb_x0 : w4.heap.size < w14.heap.size := HK_x0_14.out.lt
  have cb_x0_0 : w14.cell? ⟨w4.heap.size, 0, none⟩ = some (.int .i64 qu) := HK_x0_14.out.cell 0
  have cb_x0_1 : w14.cell? ⟨w4.heap.size, 1, none⟩ = some (.int .i64 li) := HK_x0_14.out.cell 1
  have cb_x0_2 : w14.cell? ⟨w4.heap.size, 2, none⟩ = some (.slice M_x.A M_x.n M_x.cap) := HK_x0_14.out.cell 2
  have cb_x0_3 : w14.cell? ⟨w4.heap.size, 3, none⟩ = some (.slice M_x.B M_x.m M_x.capd) := HK_x0_14.out.cell 3
  have cb_x0_4 : w14.cell? ⟨w4.heap.size, 4, none⟩ = some (.int .i64 nx) := HK_x0_14.out.cell 4
  have cb_x0_5 : w14.cell? ⟨w4.heap.size, 5, none⟩ = some (.bool op) := HK_x0_14.out.cell 5
  have HK_g0_14 : Hid (Bk w14 (w5.heap.size) 56 #[.int .i64 xq, .int .i64 xl, .slice M_g.A M_g.n M_g.cap, .slice M_g.B M_g.m M_g.capd, .int .i64 xn, .bool xo]) := Lib.hid (HK_g0_13.out.old hb14)
  clear HK_g0_13
  clear cb_g0_0 cb_g0_1 cb_g0_2 cb_g0_3 cb_g0_4 cb_g0_5 zb_g0
  have zb_g0 : w5.heap.size < w14.heap.size := HK_g0_14.out.lt
  have cb_g0_0 : w14.cell? ⟨w5.heap.size, 0, none⟩ = some (.int .i64 xq) := HK_g0_14.out.cell 0
  have cb_g0_1 : w14.cell? ⟨w5.heap.size, 1, none⟩ = some (.int .i64 xl) := HK_g0_14.out.cell 1
  have cb_g0_2 : w14.cell? ⟨w5.heap.size, 2, none⟩ = some (.slice M_g.A M_g.n M_g.cap) := HK_g0_14.out.cell 2
  have cb_g0_3 : w14.cell? ⟨w5.heap.size, 3, none⟩ = some (.slice M_g.B M_g.m M_g.capd) := HK_g0_14.out.cell 3
  have cb_g0_4 : w14.cell? ⟨w5.heap.size, 4, none⟩ = some (.int .i64 xn) := HK_g0_14.out.cell 4
  have cb_g0_5 : w14.cell? ⟨w5.heap.size, 5, none⟩ = some (.bool xo) := HK_g0_14.out.cell 5
  have HO_s_14 := Lib.hid (HO_s_13.out.old hb14)
  clear HO_s_13
  have HO_v_14 := Lib.hid (HO_v_13.out.old hb14)
  clear HO_v_13
  have HO_x_14 := Lib.hid (HO_x_13.out.old hb14)
  clear HO_x_13
  have HO_g_14 := Lib.hid (HO_g_13.out.old hb14)
  clear HO_g_13
  have HO_y_14 := Lib.hid (HO_y_13.out.old hb14)
  clear HO_y_13
  have HO_z_14 := Lib.hid (HO_z_13.out.old hb14)
  clear HO_z_13
  have HB_14 := Lib.hid (bt HB_13.out hb14)
  clear hb14
  go_wp2_with fail
  refine (eqFair_any _ _ M_h _ _ E T M_v _ (HO_h_14.out.alloc _).row (HO_v_14.out.alloc _).row HGE.out (by have := HN_h.out; have := HSN.out; have := HLN.out; omega) (by have := HN_h.out; have := HSN.out; have := HLN.out; omega)).mono ?_
  rintro e w15 ⟨rfl, hb15⟩
  have z15 := hb15.size
  (try simp at z15)
  have HK_q_15 : Hid (Bk w15 (w.heap.size) 51 #[.int .i64 qu, .int .i64 li, .slice A n cap, .slice B m capd, .int .i64 nx, .bool op]) := Lib.hid ((HK_q_14.out.alloc _).old hb15)
  clear HK_q_14
  clear cb_q_0 cb_q_1 cb_q_2 cb_q_3 cb_q_4 cb_q_5 zb_q
  have zb_q : w.heap.size < w15.heap.size := HK_q_15.out.lt
  have cb_q_0 : w15.cell? ⟨w.heap.size, 0, none⟩ = some (.int .i64 qu) := HK_q_15.out.cell 0
  have cb_q_1 : w15.cell? ⟨w.heap.size, 1, none⟩ = some (.int .i64 li) := HK_q_15.out.cell 1
  have cb_q_2 : w15.cell? ⟨w.heap.size, 2, none⟩ = some (.slice A n cap) := HK_q_15.out.cell 2
  have cb_q_3 : w15.cell? ⟨w.heap.size, 3, none⟩ = some (.slice B m capd) := HK_q_15.out.cell 3
  have cb_q_4 : w15.cell? ⟨w.heap.size, 4, none⟩ = some (.int .i64 nx) := HK_q_15.out.cell 4
  have cb_q_5 : w15.cell? ⟨w.heap.size, 5, none⟩ = some (.bool op) := HK_q_15.out.cell 5
  have HK_w0_15 : Hid (Bk w15 (w3.heap.size) 56 #[.int .i64 xq, .int .i64 xl, .slice M_v.A M_v.n M_v.cap, .slice M_v.B M_v.m M_v.capd, .int .i64 xn, .bool xo]) := Lib.hid ((HK_w0_14.out.alloc _).old hb15)
  clear HK_w0_14
  clear cb_w0_0 cb_w0_1 cb_w0_2 cb_w0_3 cb_w0_4 cb_w0_5 zb_w0
  have zb_w0 : w3.heap.size < w15.heap.size := HK_w0_15.out.lt
  have cb_w0_0 : w15.cell? ⟨w3.heap.size, 0, none⟩ = some (.int .i64 xq) := HK_w0_15.out.cell 0
  have cb_w0_1 : w15.cell? ⟨w3.heap.size, 1, none⟩ = some (.int .i64 xl) := HK_w0_15.out.cell 1
  have cb_w0_2 : w15.cell? ⟨w3.heap.size, 2, none⟩ = some (.slice M_v.A M_v.n M_v.cap) := HK_w0_15.out.cell 2
  have cb_w0_3 : w15.cell? ⟨w3.heap.size, 3, none⟩ = some (.slice M_v.B M_v.m M_v.capd) := HK_w0_15.out.cell 3
  have cb_w0_4 : w15.cell? ⟨w3.heap.size, 4, none⟩ = some (.int .i64 xn) := HK_w0_15.out.cell 4
  have cb_w0_5 : w15.cell? ⟨w3.heap.size, 5, none⟩ = some (.bool xo) := HK_w0_15.out.cell 5
  have HK_x0_15 : Hid (Bk w15 (w4.heap.size) 56 #[.int .i64 qu, .int .i64 li, .slice M_x.A M_x.n M_x.cap, .slice M_x.B M_x.m M_x.capd, .int .i64 nx, .bool op]) := Lib.hid ((HK_x0_14.out.alloc _).old hb15)
  clear HK_x0_14
  clear cb_x0_0 cb_x0_1 cb_x0_2 cb_x0_3 cb_x0_4 cb_x0_5 zb_x0
  have zb_x0 : w4.heap.size < w15.heap.size := HK_x0_15.out.lt
  have cb_x0_0 : w15.cell? ⟨w4.heap.size, 0, none⟩ = some (.int .i64 qu) := HK_x0_15.out.cell 0
  have cb_x0_1 : w15.cell? ⟨w4.heap.size, 1, none⟩ = some (.int .i64 li) := HK_x0_15.out.cell 1
  have cb_x0_2 : w15.cell? ⟨w4.heap.size, 2, none⟩ = some (.slice M_x.A M_x.n M_x.cap) := HK_x0_15.out.cell 2
  have cb_x0_3 : w15.cell? ⟨w4.heap.size, 3, none⟩ = some (.slice M_x.B M_x.m M_x.capd) := HK_x0_15.out.cell 3
  have cb_x0_4 : w15.cell? ⟨w4.heap.size, 4, none⟩ = some (.int .i64 nx) := HK_x0_15.out.cell 4
  have cb_x0_5 : w15.cell? ⟨w4.heap.size, 5, none⟩ = some (.bool op) := HK_x0_15.out.cell 5
  have HK_g0_15 : Hid (Bk w15 (w5.heap.size) 56 #[.int .i64 xq, .int .i64 xl, .slice M_g.A M_g.n M_g.cap, .slice M_g.B M_g.m M_g.capd, .int .i64 xn, .bool xo]) := Lib.hid ((HK_g0_14.out.alloc _).old hb15)
  clear HK_g0_14
  clear cb_g0_0 cb_g0_1 cb_g0_2 cb_g0_3 cb_g0_4 cb_g0_5 zb_g0
  have zb_g0 : w5.heap.size < w15.heap.size := HK_g0_15.out.lt
  have cb_g0_0 : w15.cell? ⟨w5.heap.size, 0, none⟩ = some (.int .i64 xq) := HK_g0_15.out.cell 0
  have cb_g0_1 : w15.cell? ⟨w5.heap.size, 1, none⟩ = some (.int .i64 xl) := HK_g0_15.out.cell 1
  have cb_g0_2 : w15.cell? ⟨w5.heap.size, 2, none⟩ = some (.slice M_g.A M_g.n M_g.cap) := HK_g0_15.out.cell 2
  have cb_g0_3 : w15.cell? ⟨w5.heap.size, 3, none⟩ = some (.slice M_g.B M_g.m M_g.capd) := HK_g0_15.out.cell 3
  have cb_g0_4 : w15.cell? ⟨w5.heap.size, 4, none⟩ = some (.int .i64 xn) := HK_g0_15.out.cell 4
  have cb_g0_5 : w15.cell? ⟨w5.heap.size, 5, none⟩ = some (.bool xo) := HK_g0_15.out.cell 5
  have HK_h0_15 : Hid (Bk w15 (w14.heap.size) 56 #[.int .i64 xq, .int .i64 xl, .slice M_h.A M_h.n M_h.cap, .slice M_h.B M_h.m M_h.capd, .int .i64 xn, .bool xo]) := Lib.hid ((Bk.new_ (by simp) : Bk _ (w14.heap.size) 56 #[.int .i64 xq, .int .i64 xl, .slice M_h.A M_h.n M_h.cap, .slice M_h.B M_h.m M_h.capd, .int .i64 xn, .bool xo]).old hb15)
  have zb_h0 : w14.heap.size < w15.heap.size := HK_h0_15.out.lt
  have cb_h0_0 : w15.cell? ⟨w14.heap.size, 0, none⟩ = some (.int .i64 xq) := HK_h0_15.out.cell 0
  have cb_h0_1 : w15.cell? ⟨w14.heap.size, 1, none⟩ = some (.int .i64 xl) := HK_h0_15.out.cell 1
  have cb_h0_2 : w15.cell? ⟨w14.heap.size, 2, none⟩ = some (.slice M_h.A M_h.n M_h.cap) := HK_h0_15.out.cell 2
  have cb_h0_3 : w15.cell? ⟨w14.heap.size, 3, none⟩ = some (.slice M_h.B M_h.m M_h.capd) := HK_h0_15.out.cell 3
  have cb_h0_4 : w15.cell? ⟨w14.heap.size, 4, none⟩ = some (.int .i64 xn) := HK_h0_15.out.cell 4
  have cb_h0_5 : w15.cell? ⟨w14.heap.size, 5, none⟩ = some (.bool xo) := HK_h0_15.out.cell 5
  have HO_s_15 := Lib.hid ((HO_s_14.out.alloc _).old hb15)
  clear HO_s_14
  have HO_v_15 := Lib.hid ((HO_v_14.out.alloc _).old hb15)
  clear HO_v_14
  have HO_x_15 := Lib.hid ((HO_x_14.out.alloc _).old hb15)
  clear HO_x_14
  have HO_g_15 := Lib.hid ((HO_g_14.out.alloc _).old hb15)
  clear HO_g_14
  have HO_y_15 := Lib.hid ((HO_y_14.out.alloc _).old hb15)
  clear HO_y_14
  have HO_z_15 := Lib.hid ((HO_z_14.out.alloc _).old hb15)
  clear HO_z_14
  have HO_h_15 := Lib.hid ((HO_h_14.out.alloc _).old hb15)
  clear HO_h_14
  have HB_15 := Lib.hid (bt (ba HB_14.out _) hb15)
  clear hb15
  go_wp2_with fail
  refine (heldFair_any _ _ M_g _ _ E T 1 _ HN_g.out.1 HO_g_15.out.row (by have := HN_g.out; have := HSN.out; have := HLN.out; omega) (by have := HN_g.out; have := HSN.out; have := HLN.out; omega) (by omega) (by omega)).mono ?_
  rintro e w16 ⟨rfl, hb16⟩
  have z16 := hb16.size
  (try simp at z16)
  have HK_q_16 : Hid (Bk w16 (w.heap.size) 51 #[.int .i64 qu, .int .i64 li, .slice A n cap, .slice B m capd, .int .i64 nx, .bool op]) := Lib.hid (HK_q_15.out.old hb16)
  clear HK_q_15
  clear cb_q_0 cb_q_1 cb_q_2 cb_q_3 cb_q_4 cb_q_5 zb_q
  have zb_q : w.heap.size < w16.heap.size := HK_q_16.out.lt
  have cb_q_0 : w16.cell? ⟨w.heap.size, 0, none⟩ = some (.int .i64 qu) := HK_q_16.out.cell 0
  have cb_q_1 : w16.cell? ⟨w.heap.size, 1, none⟩ = some (.int .i64 li) := HK_q_16.out.cell 1
  have cb_q_2 : w16.cell? ⟨w.heap.size, 2, none⟩ = some (.slice A n cap) := HK_q_16.out.cell 2
  have cb_q_3 : w16.cell? ⟨w.heap.size, 3, none⟩ = some (.slice B m capd) := HK_q_16.out.cell 3
  have cb_q_4 : w16.cell? ⟨w.heap.size, 4, none⟩ = some (.int .i64 nx) := HK_q_16.out.cell 4
  have cb_q_5 : w16.cell? ⟨w.heap.size, 5, none⟩ = some (.bool op) := HK_q_16.out.cell 5
  have HK_w0_16 : Hid (Bk w16 (w3.heap.size) 56 #[.int .i64 xq, .int .i64 xl, .slice M_v.A M_v.n M_v.cap, .slice M_v.B M_v.m M_v.capd, .int .i64 xn, .bool xo]) := Lib.hid (HK_w0_15.out.old hb16)
  clear HK_w0_15
  clear cb_w0_0 cb_w0_1 cb_w0_2 cb_w0_3 cb_w0_4 cb_w0_5 zb_w0
  have zb_w0 : w3.heap.size < w16.heap.size := HK_w0_16.out.lt
  have cb_w0_0 : w16.cell? ⟨w3.heap.size, 0, none⟩ = some (.int .i64 xq) := HK_w0_16.out.cell 0
  have cb_w0_1 : w16.cell? ⟨w3.heap.size, 1, none⟩ = some (.int .i64 xl) := HK_w0_16.out.cell 1
  have cb_w0_2 : w16.cell? ⟨w3.heap.size, 2, none⟩ = some (.slice M_v.A M_v.n M_v.cap) := HK_w0_16.out.cell 2
  have cb_w0_3 : w16.cell? ⟨w3.heap.size, 3, none⟩ = some (.slice M_v.B M_v.m M_v.capd) := HK_w0_16.out.cell 3
  have cb_w0_4 : w16.cell? ⟨w3.heap.size, 4, none⟩ = some (.int .i64 xn) := HK_w0_16.out.cell 4
  have cb_w0_5 : w16.cell? ⟨w3.heap.size, 5, none⟩ = some (.bool xo) := HK_w0_16.out.cell 5
  have HK_x0_16 : Hid (Bk w16 (w4.heap.size) 56 #[.int .i64 qu, .int .i64 li, .slice M_x.A M_x.n M_x.cap, .slice M_x.B M_x.m M_x.capd, .int .i64 nx, .bool op]) := Lib.hid (HK_x0_15.out.old hb16)
  clear HK_x0_15
  clear cb_x0_0 cb_x0_1 cb_x0_2 cb_x0_3 cb_x0_4 cb_x0_5 zb_x0
  have zb_x0 : w4.heap.size < w16.heap.size := HK_x0_16.out.lt
  have cb_x0_0 : w16.cell? ⟨w4.heap.size, 0, none⟩ = some (.int .i64 qu) := HK_x0_16.out.cell 0
  have cb_x0_1 : w16.cell? ⟨w4.heap.size, 1, none⟩ = some (.int .i64 li) := HK_x0_16.out.cell 1
  have cb_x0_2 : w16.cell? ⟨w4.heap.size, 2, none⟩ = some (.slice M_x.A M_x.n M_x.cap) := HK_x0_16.out.cell 2
  have cb_x0_3 : w16.cell? ⟨w4.heap.size, 3, none⟩ = some (.slice M_x.B M_x.m M_x.capd) := HK_x0_16.out.cell 3
  have cb_x0_4 : w16.cell? ⟨w4.heap.size, 4, none⟩ = some (.int .i64 nx) := HK_x0_16.out.cell 4
  have cb_x0_5 : w16.cell? ⟨w4.heap.size, 5, none⟩ = some (.bool op) := HK_x0_16.out.cell 5
  have HK_g0_16 : Hid (Bk w16 (w5.heap.size) 56 #[.int .i64 xq, .int .i64 xl, .slice M_g.A M_g.n M_g.cap, .slice M_g.B M_g.m M_g.capd, .int .i64 xn, .bool xo]) := Lib.hid (HK_g0_15.out.old hb16)
  clear HK_g0_15
  clear cb_g0_0 cb_g0_1 cb_g0_2 cb_g0_3 cb_g0_4 cb_g0_5 zb_g0
  have zb_g0 : w5.heap.size < w16.heap.size := HK_g0_16.out.lt
  have cb_g0_0 : w16.cell? ⟨w5.heap.size, 0, none⟩ = some (.int .i64 xq) := HK_g0_16.out.cell 0
  have cb_g0_1 : w16.cell? ⟨w5.heap.size, 1, none⟩ = some (.int .i64 xl) := HK_g0_16.out.cell 1
  have cb_g0_2 : w16.cell? ⟨w5.heap.size, 2, none⟩ = some (.slice M_g.A M_g.n M_g.cap) := HK_g0_16.out.cell 2
  have cb_g0_3 : w16.cell? ⟨w5.heap.size, 3, none⟩ = some (.slice M_g.B M_g.m M_g.capd) := HK_g0_16.out.cell 3
  have cb_g0_4 : w16.cell? ⟨w5.heap.size, 4, none⟩ = some (.int .i64 xn) := HK_g0_16.out.cell 4
  have cb_g0_5 : w16.cell? ⟨w5.heap.size, 5, none⟩ = some (.bool xo) := HK_g0_16.out.cell 5
  have HK_h0_16 : Hid (Bk w16 (w14.heap.size) 56 #[.int .i64 xq, .int .i64 xl, .slice M_h.A M_h.n M_h.cap, .slice M_h.B M_h.m M_h.capd, .int .i64 xn, .bool xo]) := Lib.hid (HK_h0_15.out.old hb16)
  clear HK_h0_15
  clear cb_h0_0 cb_h0_1 cb_h0_2 cb_h0_3 cb_h0_4 cb_h0_5 zb_h0
  have zb_h0 : w14.heap.size < w16.heap.size := HK_h0_16.out.lt
  have cb_h0_0 : w16.cell? ⟨w14.heap.size, 0, none⟩ = some (.int .i64 xq) := HK_h0_16.out.cell 0
  have cb_h0_1 : w16.cell? ⟨w14.heap.size, 1, none⟩ = some (.int .i64 xl) := HK_h0_16.out.cell 1
  have cb_h0_2 : w16.cell? ⟨w14.heap.size, 2, none⟩ = some (.slice M_h.A M_h.n M_h.cap) := HK_h0_16.out.cell 2
  have cb_h0_3 : w16.cell? ⟨w14.heap.size, 3, none⟩ = some (.slice M_h.B M_h.m M_h.capd) := HK_h0_16.out.cell 3
  have cb_h0_4 : w16.cell? ⟨w14.heap.size, 4, none⟩ = some (.int .i64 xn) := HK_h0_16.out.cell 4
  have cb_h0_5 : w16.cell? ⟨w14.heap.size, 5, none⟩ = some (.bool xo) := HK_h0_16.out.cell 5
  have HO_s_16 := Lib.hid (HO_s_15.out.old hb16)
  clear HO_s_15
  have HO_v_16 := Lib.hid (HO_v_15.out.old hb16)
  clear HO_v_15
  have HO_x_16 := Lib.hid (HO_x_15.out.old hb16)
  clear HO_x_15
  have HO_g_16 := Lib.hid (HO_g_15.out.old hb16)
  clear HO_g_15
  have HO_y_16 := Lib.hid (HO_y_15.out.old hb16)
  clear HO_y_15
  have HO_z_16 := Lib.hid (HO_z_15.out.old hb16)
  clear HO_z_15
  have HO_h_16 := Lib.hid (HO_h_15.out.old hb16)
  clear HO_h_15
  have HB_16 := Lib.hid (bt HB_15.out hb16)
  clear hb16
  go_wp2_with fail
  go_ret
  exact ⟨rfl, HB_16.out⟩
theorem own : ownKnob Try.prog.godebug = none := by kernel_rfl
theorem laidOut : laidOutB Try.prog = true := by kernel_rfl
set_option maxRecDepth 100000 in
theorem lifted (os : Os) (started : os.Started) (H : Type) (enc : TypeId × Value → H) :
    ReturnsInHanded {} Try.checked os 10 .any (Rows.fnExactDropFlowSpec.pre6 enc Try.prog Try.f10 Rows.fnExactDropFlowRow.domain false) (Rows.fnExactDropFlowSpec.post enc Try.prog Try.f10 false true false false) := by
  refine returnsInHanded_of_change (C := Try.checked) own started (by kernel_rfl) Try.func10
    (ChangeSpec.witness6 (enc := enc) (C := Try.checked) false ⟨#[], #[.agg #[.int .i64 0, .int .i64 0, .slice none 0 0, .slice none 0 0, .int .i64 0, .bool false], .int .i64 0], []⟩ 8 (by kernel_rfl) (by kernel_rfl) (by kernel_rfl) (by kernel_rfl)) ?_
  intro W base args ds gs before hval0 hW hcnd _
  have hval : ∀ (j : Nat) t v, Try.f10.params[j]? = some t → args[j]? = some v → Value.okWide Try.prog W .any base t v := hval0
  have hW' := hW
  obtain ⟨p, q, hA0, hV, rfl, hfz, hnd⟩ := hW
  have hA : DataW.TrodAll enc Try.prog W 0 (fun _ => true) true Try.f10.params.toList args.toList ds p := hA0
  rw [Try.params10] at hA hval
  obtain ⟨v0, vs0, d0, ds0, p0, q0, hargs, rfl, rfl, h0, r0⟩ := trodAll_cons hA
  obtain ⟨v1, vs1, d1, ds1, p1, q1, rfl, rfl, rfl, h1, r1⟩ := trodAll_cons r0
  obtain ⟨rfl, rfl, rfl⟩ := trodAll_nil r1
  obtain rfl : args = #[v0, v1] := by cases args; simp_all
  obtain ⟨rfl, rfl⟩ := trodVars_none hV
  have k0 := h0
  have lt0 : ∀ x ∈ p0, x.block < W.heap.size := by obtain ⟨m, hm⟩ := k0; exact DataW.trod_lt m _ _ _ hm
  have k1 := h1
  have lt1 : ∀ x ∈ p1, x.block < W.heap.size := by obtain ⟨m, hm⟩ := k1; exact DataW.trod_lt m _ _ _ hm
  obtain ⟨cs0, rfl, hsz0⟩ := okWide_struct Try.underlying51 (hval 0 51 v0 rfl rfl)
  obtain ⟨c0_0, c0_1, c0_2, c0_3, c0_4, c0_5, rfl⟩ := arr6 (hsz0.trans (by kernel_rfl))
  have hf0 := h0
  obtain ⟨fu0, hf0⟩ := hf0
  simp only [Value.cells] at hf0
  obtain ⟨a0_0, ea0_0⟩ := leaf_int Try.underlying51 hf0 0 _ rfl Try.underlying3 (by kernel_rfl) rfl
  obtain ⟨ea0_0, wa0_0⟩ := ea0_0
  subst ea0_0
  obtain ⟨a0_1, ea0_1⟩ := leaf_int Try.underlying51 hf0 1 _ rfl Try.underlying3 (by kernel_rfl) rfl
  obtain ⟨ea0_1, wa0_1⟩ := ea0_1
  subst ea0_1
  obtain ⟨ma0_2, ya0_2, ta0_2⟩ := leaf Try.underlying51 hf0 2 _ rfl (by kernel_rfl) rfl
  obtain ⟨Aa0_2, lena0_2, capa0_2, Ga0_2, ea0_2, hra0_2⟩ := nest_leaf Try.underlying49 (by kernel_rfl) Try.underlying22 (by kernel_rfl) (flatPacket enc W) ta0_2
  subst ea0_2
  obtain ⟨ma0_3, ya0_3, ta0_3⟩ := leaf Try.underlying51 hf0 3 _ rfl (by kernel_rfl) rfl
  obtain ⟨Aa0_3, lena0_3, capa0_3, Ga0_3, ea0_3, hra0_3⟩ := ints_leaf Try.underlying31 Try.underlying3 (by kernel_rfl) ta0_3
  subst ea0_3
  obtain ⟨a0_4, ea0_4⟩ := leaf_int Try.underlying51 hf0 4 _ rfl Try.underlying3 (by kernel_rfl) rfl
  obtain ⟨ea0_4, wa0_4⟩ := ea0_4
  subst ea0_4
  obtain ⟨a0_5, ea0_5⟩ := leaf_bool Try.underlying51 hf0 5 _ rfl Try.underlying4 (by kernel_rfl) rfl
  have wa0_5 := trivial
  subst ea0_5
  obtain ⟨a1, rfl, rfl, rfl, wf1⟩ := open_int Try.underlying3 (hval 1 3 v1 rfl rfl) h1
  clear hA0 hval0
  refine (walk W a0_0 (ibounds wa0_0) a0_1 (ibounds wa0_1) Aa0_2 lena0_2 capa0_2 Ga0_2 hra0_2 Aa0_3 lena0_3 capa0_3 Ga0_3 hra0_3 a0_4 (ibounds wa0_4) a0_5 a1 (ibounds wf1)).mono fun e W' ⟨he, bel⟩ => ?_
  subst he
  exact ⟨_, rfl, _, _, _, [], _, [], hW', trodAll_mk1 (shut_bool Try.underlying4 _), (trodAll_cons_mk (Below.trod laidOut (by kernel_rfl) (of_decide_eq_true (by kernel_rfl)) k0 bel lt0) (trodAll_cons_mk (Below.trod laidOut (by kernel_rfl) (of_decide_eq_true (by kernel_rfl)) k1 bel lt1) trodAll_mk0)), rfl, bel.frame _, fun h => by cases h⟩
theorem over : Rows.fnExactDropFlowRow.holds Try.pinned (OpenSpec.ofChange Rows.fnExactDropFlowSpec) :=
  OpenClaim.holds_of_wide 10 Try.f10 rfl rfl rfl rfl rfl rfl rfl ⟨rfl, rfl, rfl, rfl, rfl⟩ rfl rfl rfl rfl rfl (by kernel_rfl) Try.func10 (by kernel_rfl)
    (of_decide_eq_true (by kernel_rfl)) (by unfold Func.isWrapper; first | (rw [if_pos (by decide +kernel)]; kernel_rfl) | (rw [if_neg (by decide +kernel)]; exact ⟨rfl, rfl⟩))
    (fun os started H enc _ => lifted os started H enc)
/-- The given statement. -/
theorem proved : Rows.FnExactDropFlowSaid := over
#print axioms proved
end Go.Proofs.Ytgdldmeeaejjpaa.lawDropFlow
