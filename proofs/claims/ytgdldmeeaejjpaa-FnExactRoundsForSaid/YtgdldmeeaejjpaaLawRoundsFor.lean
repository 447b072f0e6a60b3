/- The statement FnExactRoundsForSaid: for every input the law FnExactRoundsFor returns true, and its arguments read as before. No condition. -/
import Derived.Test.YtgdldmeeaejjpaaFairOpen
import Derived.Test.YtgdldmeeaejjpaaFairSmall
import Derived.Test.YtgdldmeeaejjpaaDbox
import Derived.Deep.RegionHeld3
import Derived.Deep.DeepCutAuto
namespace Go.Proofs.Ytgdldmeeaejjpaa.lawRoundsFor
open Go.ChangeShapes Go.WideShapes Go.ChangeAt Go.RowKit
set_option linter.unusedVariables false
set_option maxRecDepth 100000 in
set_option maxHeartbeats 4000000 in
theorem walk (w : World) (qu : Int) (_ : IB qu) (li : Int) (_ : IB li) (A : Option Addr) (n cap : Nat) (G : List (List Int)) (hq : NRow w A G ∧ G.length = n ∧ n ≤ cap ∧ (A = none → cap = 0) ∧ n ≤ 9223372036854775807 ∧ ∀ (i : Nat) (l : List Int), G[i]? = some l → l.length ≤ 55340232221128654842)
    (B : Option Addr) (m capd : Nat) (D : List Int) (hd : IRow w B D ∧ D.length = m ∧ m ≤ capd ∧ (B = none → capd = 0) ∧ m ≤ 9223372036854775807) (nx : Int) (_ : IB nx) (op : Bool) (z : Int) (_ : IB z) :
    Calls Try.prog 8 #[.agg #[.int .i64 qu, .int .i64 li, .slice A n cap, .slice B m capd, .int .i64 nx, .bool op], .int .i64 z] w fun e w' => e = .returned (.bool true) ∧ Below w.heap.size w w' := by
  obtain ⟨hqr, hqn, hqc, hq0, hn, hG⟩ := hq
  obtain ⟨hdr, hdn, hdc, hd0, hm⟩ := hd
  obtain ⟨F, rfl⟩ := hqr.unf
  have HR_a := Lib.hid (show FRow w ⟨A, n, cap, B, m, capd⟩ (F.map fl) D from ⟨hqr, hqn, hqc, hq0, hdr, hdn, hdc, hd0⟩)
  have HG := Lib.hid hG
  have HLN := Lib.hid (show (F.map fl).length = n ∧ D.length = m from ⟨hqn, hdn⟩)
  clear hqr hqn hqc hq0 hG hdr hdn hdc hd0
  go_enter Try.func8, Try.ntmps8
  go_wp2_with fail
  refine (szFair_any qu li ⟨A, n, cap, B, m, capd⟩ nx op (F.map fl) D _ (HR_a.out.below (ba (b0 w) _)) HG.out hn hm).mono ?_
  rintro e w1 ⟨⟨v, rfl, hv⟩, hb1⟩
  have z1 := hb1.size
  (try simp at z1)
  have HK_q_1 : Hid (Bk w1 (w.heap.size) 51 #[.int .i64 qu, .int .i64 li, .slice A n cap, .slice B m capd, .int .i64 nx, .bool op]) := Lib.hid ((Bk.new_ (by simp) : Bk _ (w.heap.size) 51 #[.int .i64 qu, .int .i64 li, .slice A n cap, .slice B m capd, .int .i64 nx, .bool op]).old hb1)
  have zb_q : w.heap.size < w1.heap.size := HK_q_1.out.lt
  have cb_q_0 : w1.cell? ⟨w.heap.size, 0, none⟩ = some (.int .i64 qu) := HK_q_1.out.cell 0
  have cb_q_1 : w1.cell? ⟨w.heap.size, 1, none⟩ = some (.int .i64 li) := HK_q_1.out.cell 1
  have cb_q_2 : w1.cell? ⟨w.heap.size, 2, none⟩ = some (.slice A n cap) := HK_q_1.out.cell 2
  have cb_q_3 : w1.cell? ⟨w.heap.size, 3, none⟩ = some (.slice B m capd) := HK_q_1.out.cell 3
  have cb_q_4 : w1.cell? ⟨w.heap.size, 4, none⟩ = some (.int .i64 nx) := HK_q_1.out.cell 4
  have cb_q_5 : w1.cell? ⟨w.heap.size, 5, none⟩ = some (.bool op) := HK_q_1.out.cell 5
  have HB_1 := Lib.hid (bt (ba (b0 w) _) hb1)
  clear hb1
  rcases hv with rfl | ⟨hv0, hsz⟩
  · go_wp2_with fail
    go_ret
    exact ⟨rfl, HB_1.out⟩
  simp only at hsz
  have hn2 : n ≤ 1048576 := by omega
  have hm2 : m ≤ 1048576 := by omega
  have hgs : gsum (F.map fl) ≤ 6291456 := by omega
  have HG2 := Lib.hid (fun (i : Nat) (l : List Int) (h : (F.map fl)[i]? = some l) => Nat.le_trans (gsum_mem h) hgs)
  have HG3 := Lib.hid (fun (i : Nat) (l : List Int) (h : (F.map fl)[i]? = some l) => show l.length ≤ 6597069766656 from Nat.le_trans (HG2.out i l h) (by omega))
  go_wp2_with fail
  refine (toFair_any qu li ⟨A, n, cap, B, m, capd⟩ nx op (F.map fl) D _ (HR_a.out.below HB_1.out) HG2.out hn2 hm2).mono ?_
  rintro e w2 ⟨M_s, rfl, ho_s, hb2⟩
  have HN_s := Lib.hid ho_s.len
  have HO_s_2 := Lib.hid ho_s
  clear ho_s
  have z2 := hb2.size
  (try simp at z2)
  have HK_q_2 : Hid (Bk w2 (w.heap.size) 51 #[.int .i64 qu, .int .i64 li, .slice A n cap, .slice B m capd, .int .i64 nx, .bool op]) := Lib.hid (HK_q_1.out.old hb2)
  clear HK_q_1
  clear cb_q_0 cb_q_1 cb_q_2 cb_q_3 cb_q_4 cb_q_5 zb_q
  have zb_q : w.heap.size < w2.heap.size := HK_q_2.out.lt
  have cb_q_0 : w2.cell? ⟨w.heap.size, 0, none⟩ = some (.int .i64 qu) := HK_q_2.out.cell 0
  have cb_q_1 : w2.cell? ⟨w.heap.size, 1, none⟩ = some (.int .i64 li) := HK_q_2.out.cell 1
  have cb_q_2 : w2.cell? ⟨w.heap.size, 2, none⟩ = some (.slice A n cap) := HK_q_2.out.cell 2
  have cb_q_3 : w2.cell? ⟨w.heap.size, 3, none⟩ = some (.slice B m capd) := HK_q_2.out.cell 3
  have cb_q_4 : w2.cell? ⟨w.heap.size, 4, none⟩ = some (.int .i64 nx) := HK_q_2.out.cell 4
  have cb_q_5 : w2.cell? ⟨w.heap.size, 5, none⟩ = some (.bool op) := HK_q_2.out.cell 5
  have HB_2 := Lib.hid (bt HB_1.out hb2)
  clear hb2
  go_wp2_with fail
  refine (specRoundsFor_any z _ _ M_s.A M_s.n M_s.cap M_s.B M_s.m M_s.capd _ _ F D _ HO_s_2.out.row (by have := HN_s.out; have := HLN.out; omega) (by have := HN_s.out; have := HLN.out; omega)).mono ?_
  rintro e w3 ⟨rfl, hb3⟩
  have z3 := hb3.size
  (try simp at z3)
  have HK_q_3 : Hid (Bk w3 (w.heap.size) 51 #[.int .i64 qu, .int .i64 li, .slice A n cap, .slice B m capd, .int .i64 nx, .bool op]) := Lib.hid (HK_q_2.out.old hb3)
  clear HK_q_2
  clear cb_q_0 cb_q_1 cb_q_2 cb_q_3 cb_q_4 cb_q_5 zb_q
  have zb_q : w.heap.size < w3.heap.size := HK_q_3.out.lt
  have cb_q_0 : w3.cell? ⟨w.heap.size, 0, none⟩ = some (.int .i64 qu) := HK_q_3.out.cell 0
  have cb_q_1 : w3.cell? ⟨w.heap.size, 1, none⟩ = some (.int .i64 li) := HK_q_3.out.cell 1
  have cb_q_2 : w3.cell? ⟨w.heap.size, 2, none⟩ = some (.slice A n cap) := HK_q_3.out.cell 2
  have cb_q_3 : w3.cell? ⟨w.heap.size, 3, none⟩ = some (.slice B m capd) := HK_q_3.out.cell 3
  have cb_q_4 : w3.cell? ⟨w.heap.size, 4, none⟩ = some (.int .i64 nx) := HK_q_3.out.cell 4
  have cb_q_5 : w3.cell? ⟨w.heap.size, 5, none⟩ = some (.bool op) := HK_q_3.out.cell 5
  have HO_s_3 := Lib.hid (HO_s_2.out.old hb3)
  clear HO_s_2
  have HB_3 := Lib.hid (bt HB_2.out hb3)
  clear hb3
  go_wp2_with fail
  refine (toFair_any qu li ⟨A, n, cap, B, m, capd⟩ nx op (F.map fl) D _ (HR_a.out.below HB_3.out) HG2.out hn2 hm2).mono ?_
  rintro e w4 ⟨M_x, rfl, ho_x, hb4⟩
  have HN_x := Lib.hid ho_x.len
  have HO_x_4 := Lib.hid ho_x
  clear ho_x
  have z4 := hb4.size
  (try simp at z4)
  have HK_q_4 : Hid (Bk w4 (w.heap.size) 51 #[.int .i64 qu, .int .i64 li, .slice A n cap, .slice B m capd, .int .i64 nx, .bool op]) := Lib.hid (HK_q_3.out.old hb4)
  clear HK_q_3
  clear cb_q_0 cb_q_1 cb_q_2 cb_q_3 cb_q_4 cb_q_5 zb_q
  have zb_q : w.heap.size < w4.heap.size := HK_q_4.out.lt
  have cb_q_0 : w4.cell? ⟨w.heap.size, 0, none⟩ = some (.int .i64 qu) := HK_q_4.out.cell 0
  have cb_q_1 : w4.cell? ⟨w.heap.size, 1, none⟩ = some (.int .i64 li) := HK_q_4.out.cell 1
  have cb_q_2 : w4.cell? ⟨w.heap.size, 2, none⟩ = some (.slice A n cap) := HK_q_4.out.cell 2
  have cb_q_3 : w4.cell? ⟨w.heap.size, 3, none⟩ = some (.slice B m capd) := HK_q_4.out.cell 3
  have cb_q_4 : w4.cell? ⟨w.heap.size, 4, none⟩ = some (.int .i64 nx) := HK_q_4.out.cell 4
  have cb_q_5 : w4.cell? ⟨w.heap.size, 5, none⟩ = some (.bool op) := HK_q_4.out.cell 5
  have HO_s_4 := Lib.hid (HO_s_3.out.old hb4)
  clear HO_s_3
  have HB_4 := Lib.hid (bt HB_3.out hb4)
  clear hb4
  go_wp2_with fail
  refine (implRoundsFor_any z _ _ M_x.A M_x.n M_x.cap M_x.B M_x.m M_x.capd _ _ F D _ (HO_x_4.out.alloc _).row (by have := HN_x.out; have := HLN.out; omega) (by have := HN_x.out; have := HLN.out; omega)).mono ?_
  rintro e w5 ⟨rfl, hb5⟩
  have z5 := hb5.size
  (try simp at z5)
  have HK_q_5 : Hid (Bk w5 (w.heap.size) 51 #[.int .i64 qu, .int .i64 li, .slice A n cap, .slice B m capd, .int .i64 nx, .bool op]) := Lib.hid ((HK_q_4.out.alloc _).old hb5)
  clear HK_q_4
  clear cb_q_0 cb_q_1 cb_q_2 cb_q_3 cb_q_4 cb_q_5 zb_q
  have zb_q : w.heap.size < w5.heap.size := HK_q_5.out.lt
  have cb_q_0 : w5.cell? ⟨w.heap.size, 0, none⟩ = some (.int .i64 qu) := HK_q_5.out.cell 0
  have cb_q_1 : w5.cell? ⟨w.heap.size, 1, none⟩ = some (.int .i64 li) := HK_q_5.out.cell 1
  have cb_q_2 : w5.cell? ⟨w.heap.size, 2, none⟩ = some (.slice A n cap) := HK_q_5.out.cell 2
  have cb_q_3 : w5.cell? ⟨w.heap.size, 3, none⟩ = some (.slice B m capd) := HK_q_5.out.cell 3
  have cb_q_4 : w5.cell? ⟨w.heap.size, 4, none⟩ = some (.int .i64 nx) := HK_q_5.out.cell 4
  have cb_q_5 : w5.cell? ⟨w.heap.size, 5, none⟩ = some (.bool op) := HK_q_5.out.cell 5
  have HK_x0_5 : Hid (Bk w5 (w4.heap.size) 56 #[.int .i64 qu, .int .i64 li, .slice M_x.A M_x.n M_x.cap, .slice M_x.B M_x.m M_x.capd, .int .i64 nx, .bool op]) := Lib.hid ((Bk.new_ (by simp) : Bk _ (w4.heap.size) 56 #[.int .i64 qu, .int .i64 li, .slice M_x.A M_x.n M_x.cap, .slice M_x.B M_x.m M_x.capd, .int .i64 nx, .bool op]).old hb5)
  have zb_x0 : w4.heap.size < w5.heap.size := HK_x0_5.out.lt
  have cb_x0_0 : w5.cell? ⟨w4.heap.size, 0, none⟩ = some (.int .i64 qu) := HK_x0_5.out.cell 0
  have cb_x0_1 : w5.cell? ⟨w4.heap.size, 1, none⟩ = some (.int .i64 li) := HK_x0_5.out.cell 1
  have cb_x0_2 : w5.cell? ⟨w4.heap.size, 2, none⟩ = some (.slice M_x.A M_x.n M_x.cap) := HK_x0_5.out.cell 2
  have cb_x0_3 : w5.cell? ⟨w4.heap.size, 3, none⟩ = some (.slice M_x.B M_x.m M_x.capd) := HK_x0_5.out.cell 3
  have cb_x0_4 : w5.cell? ⟨w4.heap.size, 4, none⟩ = some (.int .i64 nx) := HK_x0_5.out.cell 4
  have cb_x0_5 : w5.cell? ⟨w4.heap.size, 5, none⟩ = some (.bool op) := HK_x0_5.out.cell 5
  have HO_s_5 := Lib.hid ((HO_s_4.out.alloc _).old hb5)
  clear HO_s_4
  have HO_x_5 := Lib.hid ((HO_x_4.out.alloc _).old hb5)
  clear HO_x_4
  have HB_5 := Lib.hid (bt (ba HB_4.out _) hb5)
  clear hb5
  go_wp2_with fail
  go_region_held3 (fun w' => w'.cell? ⟨w.heap.size, 0, none⟩ = some (.int .i64 qu) ∧ w'.cell? ⟨w.heap.size, 1, none⟩ = some (.int .i64 li) ∧ w'.cell? ⟨w.heap.size, 2, none⟩ = some (.slice A n cap) ∧ w'.cell? ⟨w.heap.size, 3, none⟩ = some (.slice B m capd) ∧ w'.cell? ⟨w.heap.size, 4, none⟩ = some (.int .i64 nx) ∧ w'.cell? ⟨w.heap.size, 5, none⟩ = some (.bool op) ∧ w'.cell? ⟨w4.heap.size, 0, none⟩ = some (.int .i64 qu) ∧ w'.cell? ⟨w4.heap.size, 1, none⟩ = some (.int .i64 li) ∧ w'.cell? ⟨w4.heap.size, 2, none⟩ = some (.slice M_x.A M_x.n M_x.cap) ∧ w'.cell? ⟨w4.heap.size, 3, none⟩ = some (.slice M_x.B M_x.m M_x.capd) ∧ w'.cell? ⟨w4.heap.size, 4, none⟩ = some (.int .i64 nx) ∧ w'.cell? ⟨w4.heap.size, 5, none⟩ = some (.bool op)) (go_keep)
    (first
      | (go_at_call 31; refine (toFair_any qu li ⟨A, n, cap, B, m, capd⟩ nx op (F.map fl) D _ (HR_a.out.below HB_5.out.drew) HG2.out hn2 hm2).mono ?_; rintro e w6 ⟨M_y, rfl, ho_y, hb6⟩; have zz6 := hb6.size; (try simp at zz6); have rkhb6_q := fun o => bkeep hb6 (w.heap.size) o (by first | omega | (simp; done) | (simp; omega)); have rkhb6_x0 := fun o => bkeep hb6 (w4.heap.size) o (by first | omega | (simp; done) | (simp; omega)))
      | (go_at_call 33; refine (eqFair_any _ _ M_x _ _ (F.map fl) D M_y _ ((HO_x_5.out.drew).old hb6).row ho_y.row HG3.out (by have := HN_x.out; have := HLN.out; omega) (by have := HN_x.out; have := HLN.out; omega)).mono ?_; rintro e w7 ⟨rfl, hb7⟩; have zz7 := hb7.size; have rkhb7_q := fun o => bkeep hb7 (w.heap.size) o (by first | omega | (simp; done) | (simp; omega)); have rkhb7_x0 := fun o => bkeep hb7 (w4.heap.size) o (by first | omega | (simp; done) | (simp; omega))))
  clear rkhb6_q rkhb6_x0 rkhb7_q rkhb7_x0 zz6 zz7
  have HN_y := Lib.hid ho_y.len
  have HO_y_6 := Lib.hid ho_y
  clear ho_y
  have z6 := hb6.size
  (try simp at z6)
  have HK_q_6 : Hid (Bk w6 (w.heap.size) 51 #[.int .i64 qu, .int .i64 li, .slice A n cap, .slice B m capd, .int .i64 nx, .bool op]) := Lib.hid ((HK_q_5.out.drew).old hb6)
  clear HK_q_5
  clear cb_q_0 cb_q_1 cb_q_2 cb_q_3 cb_q_4 cb_q_5 zb_q
  have zb_q : w.heap.size < w6.heap.size := HK_q_6.out.lt
  have cb_q_0 : w6.cell? ⟨w.heap.size, 0, none⟩ = some (.int .i64 qu) := HK_q_6.out.cell 0
  have cb_q_1 : w6.cell? ⟨w.heap.size, 1, none⟩ = some (.int .i64 li) := HK_q_6.out.cell 1
  have cb_q_2 : w6.cell? ⟨w.heap.size, 2, none⟩ = some (.slice A n cap) := HK_q_6.out.cell 2
  have cb_q_3 : w6.cell? ⟨w.heap.size, 3, none⟩ = some (.slice B m capd) := HK_q_6.out.cell 3
  have cb_q_4 : w6.cell? ⟨w.heap.size, 4, none⟩ = some (.int .i64 nx) := HK_q_6.out.cell 4
  have cb_q_5 : w6.cell? ⟨w.heap.size, 5, none⟩ = some (.bool op) := HK_q_6.out.cell 5
  have HK_x0_6 : Hid (Bk w6 (w4.heap.size) 56 #[.int .i64 qu, .int .i64 li, .slice M_x.A M_x.n M_x.cap, .slice M_x.B M_x.m M_x.capd, .int .i64 nx, .bool op]) := Lib.hid ((HK_x0_5.out.drew).old hb6)
  clear HK_x0_5
  clear cb_x0_0 cb_x0_1 cb_x0_2 cb_x0_3 cb_x0_4 cb_x0_5 zb_x0
  have zb_x0 : w4.heap.size < w6.heap.size := HK_x0_6.out.lt
  have cb_x0_0 : w6.cell? ⟨w4.heap.size, 0, none⟩ = some (.int .i64 qu) := HK_x0_6.out.cell 0
  have cb_x0_1 : w6.cell? ⟨w4.heap.size, 1, none⟩ = some (.int .i64 li) := HK_x0_6.out.cell 1
  have cb_x0_2 : w6.cell? ⟨w4.heap.size, 2, none⟩ = some (.slice M_x.A M_x.n M_x.cap) := HK_x0_6.out.cell 2
  have cb_x0_3 : w6.cell? ⟨w4.heap.size, 3, none⟩ = some (.slice M_x.B M_x.m M_x.capd) := HK_x0_6.out.cell 3
  have cb_x0_4 : w6.cell? ⟨w4.heap.size, 4, none⟩ = some (.int .i64 nx) := HK_x0_6.out.cell 4
  have cb_x0_5 : w6.cell? ⟨w4.heap.size, 5, none⟩ = some (.bool op) := HK_x0_6.out.cell 5
  have HO_s_6 := Lib.hid ((HO_s_5.out.drew).old hb6)
  clear HO_s_5
  have HO_x_6 := Lib.hid ((HO_x_5.out.drew).old hb6)
  clear HO_x_5
  have HB_6 := Lib.hid (bt HB_5.out.drew hb6)
  clear hb6
  have z7 := hb7.size
  (try simp at z7)
  have HK_q_7 : Hid (Bk w7 (w.heap.size) 51 #[.int .i64 qu, .int .i64 li, .slice A n cap, .slice B m capd, .int .i64 nx, .bool op]) := Lib.hid (HK_q_6.out.old hb7)
  clear HK_q_6
  clear cb_q_0 cb_q_1 cb_q_2 cb_q_3 cb_q_4 cb_q_5 zb_q
  have zb_q : w.heap.size < w7.heap.size := HK_q_7.out.lt
  have cb_q_0 : w7.cell? ⟨w.heap.size, 0, none⟩ = some (.int .i64 qu) := HK_q_7.out.cell 0
  have cb_q_1 : w7.cell? ⟨w.heap.size, 1, none⟩ = some (.int .i64 li) := HK_q_7.out.cell 1
  have cb_q_2 : w7.cell? ⟨w.heap.size, 2, none⟩ = some (.slice A n cap) := HK_q_7.out.cell 2
  have cb_q_3 : w7.cell? ⟨w.heap.size, 3, none⟩ = some (.slice B m capd) := HK_q_7.out.cell 3
  have cb_q_4 : w7.cell? ⟨w.heap.size, 4, none⟩ = some (.int .i64 nx) := HK_q_7.out.cell 4
  have cb_q_5 : w7.cell? ⟨w.heap.size, 5, none⟩ = some (.bool op) := HK_q_7.out.cell 5
  have HK_x0_7 : Hid (Bk w7 (w4.heap.size) 56 #[.int .i64 qu, .int .i64 li, .slice M_x.A M_x.n M_x.cap, .slice M_x.B M_x.m M_x.capd, .int .i64 nx, .bool op]) := Lib.hid (HK_x0_6.out.old hb7)
  clear HK_x0_6
  clear cb_x0_0 cb_x0_1 cb_x0_2 cb_x0_3 cb_x0_4 cb_x0_5 zb_x0
  have zb_x0 : w4.heap.size < w7.heap.size := HK_x0_7.out.lt
  have cb_x0_0 : w7.cell? ⟨w4.heap.size, 0, none⟩ = some (.int .i64 qu) := HK_x0_7.out.cell 0
  have cb_x0_1 : w7.cell? ⟨w4.heap.size, 1, none⟩ = some (.int .i64 li) := HK_x0_7.out.cell 1
  have cb_x0_2 : w7.cell? ⟨w4.heap.size, 2, none⟩ = some (.slice M_x.A M_x.n M_x.cap) := HK_x0_7.out.cell 2
  have cb_x0_3 : w7.cell? ⟨w4.heap.size, 3, none⟩ = some (.slice M_x.B M_x.m M_x.capd) := HK_x0_7.out.cell 3
  have cb_x0_4 : w7.cell? ⟨w4.heap.size, 4, none⟩ = some (.int .i64 nx) := HK_x0_7.out.cell 4
  have cb_x0_5 : w7.cell? ⟨w4.heap.size, 5, none⟩ = some (.bool op) := HK_x0_7.out.cell 5
  have HO_s_7 := Lib.hid (HO_s_6.out.old hb7)
  clear HO_s_6
  have HO_x_7 := Lib.hid (HO_x_6.out.old hb7)
  clear HO_x_6
  have HO_y_7 := Lib.hid (HO_y_6.out.old hb7)
  clear HO_y_6
  have HB_7 := Lib.hid (bt HB_6.out hb7)
  clear hb7
  go_wp2_with fail
  go_ret
  exact ⟨rfl, HB_7.out⟩
theorem own : ownKnob Try.prog.godebug = none := by kernel_rfl
theorem laidOut : laidOutB Try.prog = true := by kernel_rfl
set_option maxRecDepth 100000 in
theorem lifted (os : Os) (started : os.Started) (H : Type) (enc : TypeId × Value → H) :
    ReturnsInHanded {} Try.checked os 8 .any (Rows.fnExactRoundsForSpec.pre6 enc Try.prog Try.f8 Rows.fnExactRoundsForRow.domain false) (Rows.fnExactRoundsForSpec.post enc Try.prog Try.f8 false true false false) := by
  refine returnsInHanded_of_change (C := Try.checked) own started (by kernel_rfl) Try.func8
    (ChangeSpec.witness6 (enc := enc) (C := Try.checked) false ⟨#[], #[.agg #[.int .i64 0, .int .i64 0, .slice none 0 0, .slice none 0 0, .int .i64 0, .bool false], .int .i64 0], []⟩ 8 (by kernel_rfl) (by kernel_rfl) (by kernel_rfl) (by kernel_rfl)) ?_
  intro W base args ds gs before hval0 hW hcnd _
  have hval : ∀ (j : Nat) t v, Try.f8.params[j]? = some t → args[j]? = some v → Value.okWide Try.prog W .any base t v := hval0
  have hW' := hW
  obtain ⟨p, q, hA0, hV, rfl, hfz, hnd⟩ := hW
  have hA : DataW.TrodAll enc Try.prog W 0 (fun _ => true) true Try.f8.params.toList args.toList ds p := hA0
  rw [Try.params8] at hA hval
  obtain ⟨v0, vs0, d0, ds0, p0, q0, hargs, rfl, rfl, h0, r0⟩ := trodAll_cons hA
  obtain ⟨v1, vs1, d1, ds1, p1, q1, rfl, rfl, rfl, h1, r1⟩ := trodAll_cons r0
  obtain ⟨rfl, rfl, rfl⟩ := trodAll_nil r1
  obtain rfl : args = #[v0, v1] := by cases args; simp_all
  obtain ⟨rfl, rfl⟩ := trodVars_none hV
  have k0 := h0
  have lt0 : ∀ x ∈ p0, x.block < W.heap.size := by obtain ⟨m, hm⟩ := k0; exact DataW.trod_lt m _ _ _ hm
  have k1 := h1
  have lt1 : ∀ x ∈ p1, x.block < W.heap.size := by obtain ⟨m, hm⟩ := k1; exact DataW.trod_lt m _ _ _ hm
  obtain ⟨cs0, rfl, hsz0⟩ := okWide_struct Try.underlying51 (hval 0 51 v0 rfl rfl)
  obtain ⟨c0_0, c0_1, c0_2, c0_3, c0_4, c0_5, rfl⟩ := arr6 (hsz0.trans (by kernel_rfl))
  have hf0 := h0
  obtain ⟨fu0, hf0⟩ := hf0
  simp only [Value.cells] at hf0
  obtain ⟨a0_0, ea0_0⟩ := leaf_int Try.underlying51 hf0 0 _ rfl Try.underlying3 (by kernel_rfl) rfl
  obtain ⟨ea0_0, wa0_0⟩ := ea0_0
  subst ea0_0
  obtain ⟨a0_1, ea0_1⟩ := leaf_int Try.underlying51 hf0 1 _ rfl Try.underlying3 (by kernel_rfl) rfl
  obtain ⟨ea0_1, wa0_1⟩ := ea0_1
  subst ea0_1
  obtain ⟨ma0_2, ya0_2, ta0_2⟩ := leaf Try.underlying51 hf0 2 _ rfl (by kernel_rfl) rfl
  obtain ⟨Aa0_2, lena0_2, capa0_2, Ga0_2, ea0_2, hra0_2⟩ := nest_leaf Try.underlying49 (by kernel_rfl) Try.underlying22 (by kernel_rfl) (flatPacket enc W) ta0_2
  subst ea0_2
  obtain ⟨ma0_3, ya0_3, ta0_3⟩ := leaf Try.underlying51 hf0 3 _ rfl (by kernel_rfl) rfl
  obtain ⟨Aa0_3, lena0_3, capa0_3, Ga0_3, ea0_3, hra0_3⟩ := ints_leaf Try.underlying31 Try.underlying3 (by kernel_rfl) ta0_3
  subst ea0_3
  obtain ⟨a0_4, ea0_4⟩ := leaf_int Try.underlying51 hf0 4 _ rfl Try.underlying3 (by kernel_rfl) rfl
  obtain ⟨ea0_4, wa0_4⟩ := ea0_4
  subst ea0_4
  obtain ⟨a0_5, ea0_5⟩ := leaf_bool Try.underlying51 hf0 5 _ rfl Try.underlying4 (by kernel_rfl) rfl
  have wa0_5 := trivial
  subst ea0_5
  obtain ⟨a1, rfl, rfl, rfl, wf1⟩ := open_int Try.underlying3 (hval 1 3 v1 rfl rfl) h1
  clear hA0 hval0
  refine (walk W a0_0 (ibounds wa0_0) a0_1 (ibounds wa0_1) Aa0_2 lena0_2 capa0_2 Ga0_2 hra0_2 Aa0_3 lena0_3 capa0_3 Ga0_3 hra0_3 a0_4 (ibounds wa0_4) a0_5 a1 (ibounds wf1)).mono fun e W' ⟨he, bel⟩ => ?_
  subst he
  exact ⟨_, rfl, _, _, _, [], _, [], hW', trodAll_mk1 (shut_bool Try.underlying4 _), (trodAll_cons_mk (Below.trod laidOut (by kernel_rfl) (of_decide_eq_true (by kernel_rfl)) k0 bel lt0) (trodAll_cons_mk (Below.trod laidOut (by kernel_rfl) (of_decide_eq_true (by kernel_rfl)) k1 bel lt1) trodAll_mk0)), rfl, bel.frame _, fun h => by cases h⟩
theorem over : Rows.fnExactRoundsForRow.holds Try.pinned (OpenSpec.ofChange Rows.fnExactRoundsForSpec) :=
  OpenClaim.holds_of_wide 8 Try.f8 rfl rfl rfl rfl rfl rfl rfl ⟨rfl, rfl, rfl, rfl, rfl⟩ rfl rfl rfl rfl rfl (by kernel_rfl) Try.func8 (by kernel_rfl)
    (of_decide_eq_true (by kernel_rfl)) (by unfold Func.isWrapper; first | (rw [if_pos (by decide +kernel)]; kernel_rfl) | (rw [if_neg (by decide +kernel)]; exact ⟨rfl, rfl⟩))
    (fun os started H enc _ => lifted os started H enc)
/-- The given statement. -/
theorem proved : Rows.FnExactRoundsForSaid := over
#print axioms proved
end Go.Proofs.Ytgdldmeeaejjpaa.lawRoundsFor
