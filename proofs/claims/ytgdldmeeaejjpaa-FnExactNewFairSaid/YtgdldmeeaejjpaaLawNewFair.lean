/- The statement FnExactNewFairSaid: for every input the law FnExactNewFair returns true, and its arguments read as before. No condition. -/
import Derived.Test.YtgdldmeeaejjpaaFairNew
import Derived.Test.YtgdldmeeaejjpaaDbox
import Derived.Deep.RegionHeld3
namespace Go.Proofs.Ytgdldmeeaejjpaa.lawNewFair
open Go.ChangeShapes Go.WideShapes Go.ChangeAt Go.RowKit
set_option linter.unusedVariables false
theorem gsum_nil : ∀ {G : List (List Int)}, (∀ l ∈ G, l = []) → gsum G = 0
  | [], _ => rfl
  | l :: G, h => by
    have h1 := h l (by simp)
    have h2 := gsum_nil (G := G) fun m hm => h m (by simp [hm])
    simp [gsum] at h2 ⊢
    simp [h1]
    exact h2
set_option maxRecDepth 100000 in
set_option maxHeartbeats 4000000 in
theorem walk (z : Int) (_ : IB z) (qu : Int) (_ : IB qu) (li : Int) (_ : IB li) (w : World) :
    Calls Try.prog 7 #[.int .i64 z, .int .i64 qu, .int .i64 li] w fun e w' => e = .returned (.bool true) ∧ Below w.heap.size w w' := by
  have HSP := Lib.hid (fun (w : World) => specNewFair_any z qu li w)
  have HIM := Lib.hid (fun (w : World) => implNewFair_any z qu li w)
  unfold NfP at HSP HIM
  have hz : nfOk z qu li = true → z.toNat ≤ 8 := fun h => by
    simp only [nfOk, Bool.and_eq_true, decide_eq_true_eq] at h
    omega
  have HGE := Lib.hid (show ∀ l ∈ ifG (nfOk z qu li) (List.replicate z.toNat ([] : List Int)), l = [] from fun l hl => by
    unfold ifG at hl
    split at hl
    · exact (List.mem_replicate.1 hl).2
    · simp at hl)
  have hgn : (ifG (nfOk z qu li) (List.replicate z.toNat ([] : List Int))).length ≤ 8 := by
    unfold ifG
    split
    · rename_i h; simpa using hz h
    · simp
  have hdn : (ifG (nfOk z qu li) (List.replicate z.toNat (0 : Int))).length ≤ 8 := by
    unfold ifG
    split
    · rename_i h; simpa using hz h
    · simp
  generalize ifG (nfOk z qu li) (List.replicate z.toNat ([] : List Int)) = G at *
  generalize ifG (nfOk z qu li) (List.replicate z.toNat (0 : Int)) = D at *
  clear hz
  generalize nfOk z qu li = ok at *
  generalize ifz ok qu = xq at *
  generalize ifz ok li = xl at *
  have hgs : gsum G = 0 := gsum_nil HGE.out
  have HG3 := Lib.hid (show ∀ (i : Nat) (l : List Int), G[i]? = some l → l.length ≤ 6597069766656 from fun i l h => by rw [HGE.out l (List.mem_of_getElem? h)]; simp)
  have HLN := Lib.hid (show G.length ≤ 8 ∧ D.length ≤ 8 from ⟨hgn, hdn⟩)
  clear hgn hdn
  go_enter Try.func7, Try.ntmps7
  go_wp2_with fail
  refine (HSP.out _).mono ?_
  rintro e w1 ⟨M_v, rfl, ho_v, hb1⟩
  have HN_v := Lib.hid ho_v.len
  have HO_v_1 := Lib.hid ho_v
  clear ho_v
  have z1 := hb1.size
  (try simp at z1)
  have HB_1 := Lib.hid (bt (b0 w) hb1)
  clear hb1
  go_wp2_with fail
  refine (HIM.out _).mono ?_
  rintro e w2 ⟨M_g, rfl, ho_g, hb2⟩
  have HN_g := Lib.hid ho_g.len
  have HO_g_2 := Lib.hid ho_g
  clear ho_g
  have z2 := hb2.size
  (try simp at z2)
  have HK_w0_2 : Hid (Bk w2 (w1.heap.size) 56 #[.int .i64 xq, .int .i64 xl, .slice M_v.A M_v.n M_v.cap, .slice M_v.B M_v.m M_v.capd, .int .i64 0, .bool false]) := Lib.hid ((Bk.new_ (by simp) : Bk _ (w1.heap.size) 56 #[.int .i64 xq, .int .i64 xl, .slice M_v.A M_v.n M_v.cap, .slice M_v.B M_v.m M_v.capd, .int .i64 0, .bool false]).old hb2)
  have zb_w0 : w1.heap.size < w2.heap.size := HK_w0_2.out.lt
  have cb_w0_0 : w2.cell? ⟨w1.heap.size, 0, none⟩ = some (.int .i64 xq) := HK_w0_2.out.cell 0
  have cb_w0_1 : w2.cell? ⟨w1.heap.size, 1, none⟩ = some (.int .i64 xl) := HK_w0_2.out.cell 1
  have cb_w0_2 : w2.cell? ⟨w1.heap.size, 2, none⟩ = some (.slice M_v.A M_v.n M_v.cap) := HK_w0_2.out.cell 2
  have cb_w0_3 : w2.cell? ⟨w1.heap.size, 3, none⟩ = some (.slice M_v.B M_v.m M_v.capd) := HK_w0_2.out.cell 3
  have cb_w0_4 : w2.cell? ⟨w1.heap.size, 4, none⟩ = some (.int .i64 0) := HK_w0_2.out.cell 4
  have cb_w0_5 : w2.cell? ⟨w1.heap.size, 5, none⟩ = some (.bool false) := HK_w0_2.out.cell 5
  have HO_v_2 := Lib.hid ((HO_v_1.out.alloc _).old hb2)
  clear HO_v_1
  have HB_2 := Lib.hid (bt (ba HB_1.out _) hb2)
  clear hb2
  go_wp2_with fail
  refine (eqFair_any _ _ M_g _ _ G D M_v _ (HO_g_2.out.alloc _).row (HO_v_2.out.alloc _).row HG3.out (by have := HN_g.out; have := HLN.out; omega) (by have := HN_g.out; have := HLN.out; omega)).mono ?_
  rintro e w3 ⟨rfl, hb3⟩
  have z3 := hb3.size
  (try simp at z3)
  have HK_w0_3 : Hid (Bk w3 (w1.heap.size) 56 #[.int .i64 xq, .int .i64 xl, .slice M_v.A M_v.n M_v.cap, .slice M_v.B M_v.m M_v.capd, .int .i64 0, .bool false]) := Lib.hid ((HK_w0_2.out.alloc _).old hb3)
  clear HK_w0_2
  clear cb_w0_0 cb_w0_1 cb_w0_2 cb_w0_3 cb_w0_4 cb_w0_5 zb_w0
  have zb_w0 : w1.heap.size < w3.heap.size := HK_w0_3.out.lt
  have cb_w0_0 : w3.cell? ⟨w1.heap.size, 0, none⟩ = some (.int .i64 xq) := HK_w0_3.out.cell 0
  have cb_w0_1 : w3.cell? ⟨w1.heap.size, 1, none⟩ = some (.int .i64 xl) := HK_w0_3.out.cell 1
  have cb_w0_2 : w3.cell? ⟨w1.heap.size, 2, none⟩ = some (.slice M_v.A M_v.n M_v.cap) := HK_w0_3.out.cell 2
  have cb_w0_3 : w3.cell? ⟨w1.heap.size, 3, none⟩ = some (.slice M_v.B M_v.m M_v.capd) := HK_w0_3.out.cell 3
  have cb_w0_4 : w3.cell? ⟨w1.heap.size, 4, none⟩ = some (.int .i64 0) := HK_w0_3.out.cell 4
  have cb_w0_5 : w3.cell? ⟨w1.heap.size, 5, none⟩ = some (.bool false) := HK_w0_3.out.cell 5
  have HK_g0_3 : Hid (Bk w3 (w2.heap.size) 56 #[.int .i64 xq, .int .i64 xl, .slice M_g.A M_g.n M_g.cap, .slice M_g.B M_g.m M_g.capd, .int .i64 0, .bool false]) := Lib.hid ((Bk.new_ (by simp) : Bk _ (w2.heap.size) 56 #[.int .i64 xq, .int .i64 xl, .slice M_g.A M_g.n M_g.cap, .slice M_g.B M_g.m M_g.capd, .int .i64 0, .bool false]).old hb3)
  have zb_g0 : w2.heap.size < w3.heap.size := HK_g0_3.out.lt
  have cb_g0_0 : w3.cell? ⟨w2.heap.size, 0, none⟩ = some (.int .i64 xq) := HK_g0_3.out.cell 0
  have cb_g0_1 : w3.cell? ⟨w2.heap.size, 1, none⟩ = some (.int .i64 xl) := HK_g0_3.out.cell 1
  have cb_g0_2 : w3.cell? ⟨w2.heap.size, 2, none⟩ = some (.slice M_g.A M_g.n M_g.cap) := HK_g0_3.out.cell 2
  have cb_g0_3 : w3.cell? ⟨w2.heap.size, 3, none⟩ = some (.slice M_g.B M_g.m M_g.capd) := HK_g0_3.out.cell 3
  have cb_g0_4 : w3.cell? ⟨w2.heap.size, 4, none⟩ = some (.int .i64 0) := HK_g0_3.out.cell 4
  have cb_g0_5 : w3.cell? ⟨w2.heap.size, 5, none⟩ = some (.bool false) := HK_g0_3.out.cell 5
  have HO_v_3 := Lib.hid ((HO_v_2.out.alloc _).old hb3)
  clear HO_v_2
  have HO_g_3 := Lib.hid ((HO_g_2.out.alloc _).old hb3)
  clear HO_g_2
  have HB_3 := Lib.hid (bt (ba HB_2.out _) hb3)
  clear hb3
  go_wp2_with fail
  refine (markFair_any _ _ M_g _ _ G D 1 _ _ _ HO_g_3.out (by have := HN_g.out; have := HLN.out; omega) (by have := HN_g.out; have := HLN.out; omega) (by omega) (by omega) (by first | omega | (simp; done) | (simp; omega)) (by first | omega | (simp; done) | (simp; omega))).mono ?_
  rintro e w4 ⟨rfl, ho4, hb4⟩
  have HO_g_4 := Lib.hid ho4
  clear ho4
  have z4 := hb4.size
  (try simp at z4)
  have HK_w0_4 : Hid (Bk w4 (w1.heap.size) 56 #[.int .i64 xq, .int .i64 xl, .slice M_v.A M_v.n M_v.cap, .slice M_v.B M_v.m M_v.capd, .int .i64 0, .bool false]) := Lib.hid (HK_w0_3.out.chg hb4 (by first | omega | (simp; done) | (simp; omega)))
  clear HK_w0_3
  clear cb_w0_0 cb_w0_1 cb_w0_2 cb_w0_3 cb_w0_4 cb_w0_5 zb_w0
  have zb_w0 : w1.heap.size < w4.heap.size := HK_w0_4.out.lt
  have cb_w0_0 : w4.cell? ⟨w1.heap.size, 0, none⟩ = some (.int .i64 xq) := HK_w0_4.out.cell 0
  have cb_w0_1 : w4.cell? ⟨w1.heap.size, 1, none⟩ = some (.int .i64 xl) := HK_w0_4.out.cell 1
  have cb_w0_2 : w4.cell? ⟨w1.heap.size, 2, none⟩ = some (.slice M_v.A M_v.n M_v.cap) := HK_w0_4.out.cell 2
  have cb_w0_3 : w4.cell? ⟨w1.heap.size, 3, none⟩ = some (.slice M_v.B M_v.m M_v.capd) := HK_w0_4.out.cell 3
  have cb_w0_4 : w4.cell? ⟨w1.heap.size, 4, none⟩ = some (.int .i64 0) := HK_w0_4.out.cell 4
  have cb_w0_5 : w4.cell? ⟨w1.heap.size, 5, none⟩ = some (.bool false) := HK_w0_4.out.cell 5
  have HK_g0_4 : Hid (Bk w4 (w2.heap.size) 56 #[.int .i64 xq, .int .i64 xl, .slice M_g.A M_g.n M_g.cap, .slice M_g.B M_g.m M_g.capd, .int .i64 0, .bool false]) := Lib.hid (HK_g0_3.out.chg hb4 (by first | omega | (simp; done) | (simp; omega)))
  clear HK_g0_3
  clear cb_g0_0 cb_g0_1 cb_g0_2 cb_g0_3 cb_g0_4 cb_g0_5 zb_g0
  have zb_g0 : w2.heap.size < w4.heap.size := HK_g0_4.out.lt
  have cb_g0_0 : w4.cell? ⟨w2.heap.size, 0, none⟩ = some (.int .i64 xq) := HK_g0_4.out.cell 0
  have cb_g0_1 : w4.cell? ⟨w2.heap.size, 1, none⟩ = some (.int .i64 xl) := HK_g0_4.out.cell 1
  have cb_g0_2 : w4.cell? ⟨w2.heap.size, 2, none⟩ = some (.slice M_g.A M_g.n M_g.cap) := HK_g0_4.out.cell 2
  have cb_g0_3 : w4.cell? ⟨w2.heap.size, 3, none⟩ = some (.slice M_g.B M_g.m M_g.capd) := HK_g0_4.out.cell 3
  have cb_g0_4 : w4.cell? ⟨w2.heap.size, 4, none⟩ = some (.int .i64 0) := HK_g0_4.out.cell 4
  have cb_g0_5 : w4.cell? ⟨w2.heap.size, 5, none⟩ = some (.bool false) := HK_g0_4.out.cell 5
  have HO_v_4 := Lib.hid (HO_v_3.out.chg hb4 (by first | omega | (simp; done) | (simp; omega)))
  clear HO_v_3
  have HB_4 := Lib.hid (Chg.below HB_3.out hb4 (by first | omega | (simp; done) | (simp; omega)))
  clear hb4
  clear HO_g_3
  go_wp2_with fail
  refine (heldFair_any _ _ M_g _ _ G D 1 _ HN_g.out.1 HO_g_4.out.row (by have := HN_g.out; have := HLN.out; omega) (by have := HN_g.out; have := HLN.out; omega) (by omega) (by omega)).mono ?_
  rintro e w5 ⟨rfl, hb5⟩
  have z5 := hb5.size
  (try simp at z5)
  have HK_w0_5 : Hid (Bk w5 (w1.heap.size) 56 #[.int .i64 xq, .int .i64 xl, .slice M_v.A M_v.n M_v.cap, .slice M_v.B M_v.m M_v.capd, .int .i64 0, .bool false]) := Lib.hid (HK_w0_4.out.old hb5)
  clear HK_w0_4
  clear cb_w0_0 cb_w0_1 cb_w0_2 cb_w0_3 cb_w0_4 cb_w0_5 zb_w0
  have zb_w0 : w1.heap.size < w5.heap.size := HK_w0_5.out.lt
  have cb_w0_0 : w5.cell? ⟨w1.heap.size, 0, none⟩ = some (.int .i64 xq) := HK_w0_5.out.cell 0
  have cb_w0_1 : w5.cell? ⟨w1.heap.size, 1, none⟩ = some (.int .i64 xl) := HK_w0_5.out.cell 1
  have cb_w0_2 : w5.cell? ⟨w1.heap.size, 2, none⟩ = some (.slice M_v.A M_v.n M_v.cap) := HK_w0_5.out.cell 2
  have cb_w0_3 : w5.cell? ⟨w1.heap.size, 3, none⟩ = some (.slice M_v.B M_v.m M_v.capd) := HK_w0_5.out.cell 3
  have cb_w0_4 : w5.cell? ⟨w1.heap.size, 4, none⟩ = some (.int .i64 0) := HK_w0_5.out.cell 4
  have cb_w0_5 : w5.cell? ⟨w1.heap.size, 5, none⟩ = some (.bool false) := HK_w0_5.out.cell 5
  have HK_g0_5 : Hid (Bk w5 (w2.heap.size) 56 #[.int .i64 xq, .int .i64 xl, .slice M_g.A M_g.n M_g.cap, .slice M_g.B M_g.m M_g.capd, .int .i64 0, .bool false]) := Lib.hid (HK_g0_4.out.old hb5)
  clear HK_g0_4
  clear cb_g0_0 cb_g0_1 cb_g0_2 cb_g0_3 cb_g0_4 cb_g0_5 zb_g0
  have zb_g0 : w2.heap.size < w5.heap.size := HK_g0_5.out.lt
  have cb_g0_0 : w5.cell? ⟨w2.heap.size, 0, none⟩ = some (.int .i64 xq) := HK_g0_5.out.cell 0
  have cb_g0_1 : w5.cell? ⟨w2.heap.size, 1, none⟩ = some (.int .i64 xl) := HK_g0_5.out.cell 1
  have cb_g0_2 : w5.cell? ⟨w2.heap.size, 2, none⟩ = some (.slice M_g.A M_g.n M_g.cap) := HK_g0_5.out.cell 2
  have cb_g0_3 : w5.cell? ⟨w2.heap.size, 3, none⟩ = some (.slice M_g.B M_g.m M_g.capd) := HK_g0_5.out.cell 3
  have cb_g0_4 : w5.cell? ⟨w2.heap.size, 4, none⟩ = some (.int .i64 0) := HK_g0_5.out.cell 4
  have cb_g0_5 : w5.cell? ⟨w2.heap.size, 5, none⟩ = some (.bool false) := HK_g0_5.out.cell 5
  have HO_v_5 := Lib.hid (HO_v_4.out.old hb5)
  clear HO_v_4
  have HO_g_5 := Lib.hid (HO_g_4.out.old hb5)
  clear HO_g_4
  have HB_5 := Lib.hid (bt HB_4.out hb5)
  clear hb5
  go_wp2_with fail
  refine (HIM.out _).mono ?_
  rintro e w6 ⟨M_h, rfl, ho_h, hb6⟩
  have HN_h := Lib.hid ho_h.len
  have HO_h_6 := Lib.hid ho_h
  clear ho_h
  have z6 := hb6.size
  (try simp at z6)
  have HK_w0_6 : Hid (Bk w6 (w1.heap.size) 56 #[.int .i64 xq, .int .i64 xl, .slice M_v.A M_v.n M_v.cap, .slice M_v.B M_v.m M_v.capd, .int .i64 0, .bool false]) := Lib.hid (HK_w0_5.out.old hb6)
  clear HK_w0_5
  clear cb_w0_0 cb_w0_1 cb_w0_2 cb_w0_3 cb_w0_4 cb_w0_5 zb_w0
  have zb_w0 : w1.heap.size < w6.heap.size := HK_w0_6.out.lt
  have cb_w0_0 : w6.cell? ⟨w1.heap.size, 0, none⟩ = some (.int .i64 xq) := HK_w0_6.out.cell 0
  have cb_w0_1 : w6.cell? ⟨w1.heap.size, 1, none⟩ = some (.int .i64 xl) := HK_w0_6.out.cell 1
  have cb_w0_2 : w6.cell? ⟨w1.heap.size, 2, none⟩ = some (.slice M_v.A M_v.n M_v.cap) := HK_w0_6.out.cell 2
  have cb_w0_3 : w6.cell? ⟨w1.heap.size, 3, none⟩ = some (.slice M_v.B M_v.m M_v.capd) := HK_w0_6.out.cell 3
  have cb_w0_4 : w6.cell? ⟨w1.heap.size, 4, none⟩ = some (.int .i64 0) := HK_w0_6.out.cell 4
  have cb_w0_5 : w6.cell? ⟨w1.heap.size, 5, none⟩ = some (.bool false) := HK_w0_6.out.cell 5
  have HK_g0_6 : Hid (Bk w6 (w2.heap.size) 56 #[.int .i64 xq, .int .i64 xl, .slice M_g.A M_g.n M_g.cap, .slice M_g.B M_g.m M_g.capd, .int .i64 0, .bool false]) := Lib.hid (HK_g0_5.out.old hb6)
  clear HK_g0_5
  clear cb_g0_0 cb_g0_1 cb_g0_2 cb_g0_3 cb_g0_4 cb_g0_5 zb_g0
  have zb_g0 : w2.heap.size < w6.heap.size := HK_g0_6.out.lt
  have cb_g0_0 : w6.cell? ⟨w2.heap.size, 0, none⟩ = some (.int .i64 xq) := HK_g0_6.out.cell 0
  have cb_g0_1 : w6.cell? ⟨w2.heap.size, 1, none⟩ = some (.int .i64 xl) := HK_g0_6.out.cell 1
  have cb_g0_2 : w6.cell? ⟨w2.heap.size, 2, none⟩ = some (.slice M_g.A M_g.n M_g.cap) := HK_g0_6.out.cell 2
  have cb_g0_3 : w6.cell? ⟨w2.heap.size, 3, none⟩ = some (.slice M_g.B M_g.m M_g.capd) := HK_g0_6.out.cell 3
  have cb_g0_4 : w6.cell? ⟨w2.heap.size, 4, none⟩ = some (.int .i64 0) := HK_g0_6.out.cell 4
  have cb_g0_5 : w6.cell? ⟨w2.heap.size, 5, none⟩ = some (.bool false) := HK_g0_6.out.cell 5
  have HO_v_6 := Lib.hid (HO_v_5.out.old hb6)
  clear HO_v_5
  have HO_g_6 := Lib.hid (HO_g_5.out.old hb6)
  clear HO_g_5
  have HB_6 := Lib.hid (bt HB_5.out hb6)
  clear hb6
  go_wp2_with fail
  refine (eqFair_any _ _ M_h _ _ G D M_v _ (HO_h_6.out.alloc _).row (HO_v_6.out.alloc _).row HG3.out (by have := HN_h.out; have := HLN.out; omega) (by have := HN_h.out; have := HLN.out; omega)).mono ?_
  rintro e w7 ⟨rfl, hb7⟩
  have z7 := hb7.size
  (try simp at z7)
  have HK_w0_7 : Hid (Bk w7 (w1.heap.size) 56 #[.int .i64 xq, .int .i64 xl, .slice M_v.A M_v.n M_v.cap, .slice M_v.B M_v.m M_v.capd, .int .i64 0, .bool false]) := Lib.hid ((HK_w0_6.out.alloc _).old hb7)
  clear HK_w0_6
  clear cb_w0_0 cb_w0_1 cb_w0_2 cb_w0_3 cb_w0_4 cb_w0_5 zb_w0
  have zb_w0 : w1.heap.size < w7.heap.size := HK_w0_7.out.lt
  have cb_w0_0 : w7.cell? ⟨w1.heap.size, 0, none⟩ = some (.int .i64 xq) := HK_w0_7.out.cell 0
  have cb_w0_1 : w7.cell? ⟨w1.heap.size, 1, none⟩ = some (.int .i64 xl) := HK_w0_7.out.cell 1
  have cb_w0_2 : w7.cell? ⟨w1.heap.size, 2, none⟩ = some (.slice M_v.A M_v.n M_v.cap) := HK_w0_7.out.cell 2
  have cb_w0_3 : w7.cell? ⟨w1.heap.size, 3, none⟩ = some (.slice M_v.B M_v.m M_v.capd) := HK_w0_7.out.cell 3
  have cb_w0_4 : w7.cell? ⟨w1.heap.size, 4, none⟩ = some (.int .i64 0) := HK_w0_7.out.cell 4
  have cb_w0_5 : w7.cell? ⟨w1.heap.size, 5, none⟩ = some (.bool false) := HK_w0_7.out.cell 5
  have HK_g0_7 : Hid (Bk w7 (w2.heap.size) 56 #[.int .i64 xq, .int .i64 xl, .slice M_g.A M_g.n M_g.cap, .slice M_g.B M_g.m M_g.capd, .int .i64 0, .bool false]) := Lib.hid ((HK_g0_6.out.alloc _).old hb7)
  clear HK_g0_6
  clear cb_g0_0 cb_g0_1 cb_g0_2 cb_g0_3 cb_g0_4 cb_g0_5 zb_g0
  have zb_g0 : w2.heap.size < w7.heap.size := HK_g0_7.out.lt
  have cb_g0_0 : w7.cell? ⟨w2.heap.size, 0, none⟩ = some (.int .i64 xq) := HK_g0_7.out.cell 0
  have cb_g0_1 : w7.cell? ⟨w2.heap.size, 1, none⟩ = some (.int .i64 xl) := HK_g0_7.out.cell 1
  have cb_g0_2 : w7.cell? ⟨w2.heap.size, 2, none⟩ = some (.slice M_g.A M_g.n M_g.cap) := HK_g0_7.out.cell 2
  have cb_g0_3 : w7.cell? ⟨w2.heap.size, 3, none⟩ = some (.slice M_g.B M_g.m M_g.capd) := HK_g0_7.out.cell 3
  have cb_g0_4 : w7.cell? ⟨w2.heap.size, 4, none⟩ = some (.int .i64 0) := HK_g0_7.out.cell 4
  have cb_g0_5 : w7.cell? ⟨w2.heap.size, 5, none⟩ = some (.bool false) := HK_g0_7.out.cell 5
  have HK_h0_7 : Hid (Bk w7 (w6.heap.size) 56 #[.int .i64 xq, .int .i64 xl, .slice M_h.A M_h.n M_h.cap, .slice M_h.B M_h.m M_h.capd, .int .i64 0, .bool false]) := Lib.hid ((Bk.new_ (by simp) : Bk _ (w6.heap.size) 56 #[.int .i64 xq, .int .i64 xl, .slice M_h.A M_h.n M_h.cap, .slice M_h.B M_h.m M_h.capd, .int .i64 0, .bool false]).old hb7)
  have zb_h0 : w6.heap.size < w7.heap.size := HK_h0_7.out.lt
  have cb_h0_0 : w7.cell? ⟨w6.heap.size, 0, none⟩ = some (.int .i64 xq) := HK_h0_7.out.cell 0
  have cb_h0_1 : w7.cell? ⟨w6.heap.size, 1, none⟩ = some (.int .i64 xl) := HK_h0_7.out.cell 1
  have cb_h0_2 : w7.cell? ⟨w6.heap.size, 2, none⟩ = some (.slice M_h.A M_h.n M_h.cap) := HK_h0_7.out.cell 2
  have cb_h0_3 : w7.cell? ⟨w6.heap.size, 3, none⟩ = some (.slice M_h.B M_h.m M_h.capd) := HK_h0_7.out.cell 3
  have cb_h0_4 : w7.cell? ⟨w6.heap.size, 4, none⟩ = some (.int .i64 0) := HK_h0_7.out.cell 4
  have cb_h0_5 : w7.cell? ⟨w6.heap.size, 5, none⟩ = some (.bool false) := HK_h0_7.out.cell 5
  have HO_v_7 := Lib.hid ((HO_v_6.out.alloc _).old hb7)
  clear HO_v_6
  have HO_g_7 := Lib.hid ((HO_g_6.out.alloc _).old hb7)
  clear HO_g_6
  have HO_h_7 := Lib.hid ((HO_h_6.out.alloc _).old hb7)
  clear HO_h_6
  have HB_7 := Lib.hid (bt (ba HB_6.out _) hb7)
  clear hb7
  go_wp2_with fail
  refine (heldFair_any _ _ M_g _ _ G D 1 _ HN_g.out.1 HO_g_7.out.row (by have := HN_g.out; have := HLN.out; omega) (by have := HN_g.out; have := HLN.out; omega) (by omega) (by omega)).mono ?_
  rintro e w8 ⟨rfl, hb8⟩
  have z8 := hb8.size
  (try simp at z8)
  have HK_w0_8 : Hid (Bk w8 (w1.heap.size) 56 #[.int .i64 xq, .int .i64 xl, .slice M_v.A M_v.n M_v.cap, .slice M_v.B M_v.m M_v.capd, .int .i64 0, .bool false]) := Lib.hid (HK_w0_7.out.old hb8)
  clear HK_w0_7
  clear cb_w0_0 cb_w0_1 cb_w0_2 cb_w0_3 cb_w0_4 cb_w0_5 zb_w0
  have zb_w0 : w1.heap.size < w8.heap.size := HK_w0_8.out.lt
  have cb_w0_0 : w8.cell? ⟨w1.heap.size, 0, none⟩ = some (.int .i64 xq) := HK_w0_8.out.cell 0
  have cb_w0_1 : w8.cell? ⟨w1.heap.size, 1, none⟩ = some (.int .i64 xl) := HK_w0_8.out.cell 1
  have cb_w0_2 : w8.cell? ⟨w1.heap.size, 2, none⟩ = some (.slice M_v.A M_v.n M_v.cap) := HK_w0_8.out.cell 2
  have cb_w0_3 : w8.cell? ⟨w1.heap.size, 3, none⟩ = some (.slice M_v.B M_v.m M_v.capd) := HK_w0_8.out.cell 3
  have cb_w0_4 : w8.cell? ⟨w1.heap.size, 4, none⟩ = some (.int .i64 0) := HK_w0_8.out.cell 4
  have cb_w0_5 : w8.cell? ⟨w1.heap.size, 5, none⟩ = some (.bool false) := HK_w0_8.out.cell 5
  have HK_g0_8 : Hid (Bk w8 (w2.heap.size) 56 #[.int .i64 xq, .int .i64 xl, .slice M_g.A M_g.n M_g.cap, .slice M_g.B M_g.m M_g.capd, .int .i64 0, .bool false]) := Lib.hid (HK_g0_7.out.old hb8)
  clear HK_g0_7
  clear cb_g0_0 cb_g0_1 cb_g0_2 cb_g0_3 cb_g0_4 cb_g0_5 zb_g0
  have zb_g0 : w2.heap.size < w8.heap.size := HK_g0_8.out.lt
  have cb_g0_0 : w8.cell? ⟨w2.heap.size, 0, none⟩ = some (.int .i64 xq) := HK_g0_8.out.cell 0
  have cb_g0_1 : w8.cell? ⟨w2.heap.size, 1, none⟩ = some (.int .i64 xl) := HK_g0_8.out.cell 1
  have cb_g0_2 : w8.cell? ⟨w2.heap.size, 2, none⟩ = some (.slice M_g.A M_g.n M_g.cap) := HK_g0_8.out.cell 2
  have cb_g0_3 : w8.cell? ⟨w2.heap.size, 3, none⟩ = some (.slice M_g.B M_g.m M_g.capd) := HK_g0_8.out.cell 3
  have cb_g0_4 : w8.cell? ⟨w2.heap.size, 4, none⟩ = some (.int .i64 0) := HK_g0_8.out.cell 4
  have cb_g0_5 : w8.cell? ⟨w2.heap.size, 5, none⟩ = some (.bool false) := HK_g0_8.out.cell 5
  have HK_h0_8 : Hid (Bk w8 (w6.heap.size) 56 #[.int .i64 xq, .int .i64 xl, .slice M_h.A M_h.n M_h.cap, .slice M_h.B M_h.m M_h.capd, .int .i64 0, .bool false]) := Lib.hid (HK_h0_7.out.old hb8)
  clear HK_h0_7
  clear cb_h0_0 cb_h0_1 cb_h0_2 cb_h0_3 cb_h0_4 cb_h0_5 zb_h0
  have zb_h0 : w6.heap.size < w8.heap.size := HK_h0_8.out.lt
  have cb_h0_0 : w8.cell? ⟨w6.heap.size, 0, none⟩ = some (.int .i64 xq) := HK_h0_8.out.cell 0
  have cb_h0_1 : w8.cell? ⟨w6.heap.size, 1, none⟩ = some (.int .i64 xl) := HK_h0_8.out.cell 1
  have cb_h0_2 : w8.cell? ⟨w6.heap.size, 2, none⟩ = some (.slice M_h.A M_h.n M_h.cap) := HK_h0_8.out.cell 2
  have cb_h0_3 : w8.cell? ⟨w6.heap.size, 3, none⟩ = some (.slice M_h.B M_h.m M_h.capd) := HK_h0_8.out.cell 3
  have cb_h0_4 : w8.cell? ⟨w6.heap.size, 4, none⟩ = some (.int .i64 0) := HK_h0_8.out.cell 4
  have cb_h0_5 : w8.cell? ⟨w6.heap.size, 5, none⟩ = some (.bool false) := HK_h0_8.out.cell 5
  have HO_v_8 := Lib.hid (HO_v_7.out.old hb8)
  clear HO_v_7
  have HO_g_8 := Lib.hid (HO_g_7.out.old hb8)
  clear HO_g_7
  have HO_h_8 := Lib.hid (HO_h_7.out.old hb8)
  clear HO_h_7
  have HB_8 := Lib.hid (bt HB_7.out hb8)
  clear hb8
  go_wp2_with fail
  go_ret
  exact ⟨rfl, HB_8.out⟩
theorem own : ownKnob Try.prog.godebug = none := by kernel_rfl
theorem laidOut : laidOutB Try.prog = true := by kernel_rfl
set_option maxRecDepth 100000 in
theorem lifted (os : Os) (started : os.Started) (H : Type) (enc : TypeId × Value → H) :
    ReturnsInHanded {} Try.checked os 7 .any (Rows.fnExactNewFairSpec.pre6 enc Try.prog Try.f7 Rows.fnExactNewFairRow.domain false) (Rows.fnExactNewFairSpec.post enc Try.prog Try.f7 false true false false) := by
  refine returnsInHanded_of_change (C := Try.checked) own started (by kernel_rfl) Try.func7
    (ChangeSpec.witness6 (enc := enc) (C := Try.checked) false ⟨#[], #[.int .i64 0, .int .i64 0, .int .i64 0], []⟩ 8 (by kernel_rfl) (by kernel_rfl) (by kernel_rfl) (by kernel_rfl)) ?_
  intro W base args ds gs before hval0 hW hcnd _
  have hval : ∀ (j : Nat) t v, Try.f7.params[j]? = some t → args[j]? = some v → Value.okWide Try.prog W .any base t v := hval0
  have hW' := hW
  obtain ⟨p, q, hA0, hV, rfl, hfz, hnd⟩ := hW
  have hA : DataW.TrodAll enc Try.prog W 0 (fun _ => true) true Try.f7.params.toList args.toList ds p := hA0
  rw [Try.params7] at hA hval
  obtain ⟨v0, vs0, d0, ds0, p0, q0, hargs, rfl, rfl, h0, r0⟩ := trodAll_cons hA
  obtain ⟨v1, vs1, d1, ds1, p1, q1, rfl, rfl, rfl, h1, r1⟩ := trodAll_cons r0
  obtain ⟨v2, vs2, d2, ds2, p2, q2, rfl, rfl, rfl, h2, r2⟩ := trodAll_cons r1
  obtain ⟨rfl, rfl, rfl⟩ := trodAll_nil r2
  obtain rfl : args = #[v0, v1, v2] := by cases args; simp_all
  obtain ⟨rfl, rfl⟩ := trodVars_none hV
  have k0 := h0
  have lt0 : ∀ x ∈ p0, x.block < W.heap.size := by obtain ⟨m, hm⟩ := k0; exact DataW.trod_lt m _ _ _ hm
  have k1 := h1
  have lt1 : ∀ x ∈ p1, x.block < W.heap.size := by obtain ⟨m, hm⟩ := k1; exact DataW.trod_lt m _ _ _ hm
  have k2 := h2
  have lt2 : ∀ x ∈ p2, x.block < W.heap.size := by obtain ⟨m, hm⟩ := k2; exact DataW.trod_lt m _ _ _ hm
  obtain ⟨a0, rfl, rfl, rfl, wf0⟩ := open_int Try.underlying3 (hval 0 3 v0 rfl rfl) h0
  obtain ⟨a1, rfl, rfl, rfl, wf1⟩ := open_int Try.underlying3 (hval 1 3 v1 rfl rfl) h1
  obtain ⟨a2, rfl, rfl, rfl, wf2⟩ := open_int Try.underlying3 (hval 2 3 v2 rfl rfl) h2
  clear hA0 hval0
  refine (walk a0 (ibounds wf0) a1 (ibounds wf1) a2 (ibounds wf2) W).mono fun e W' ⟨he, bel⟩ => ?_
  subst he
  exact ⟨_, rfl, _, _, _, [], _, [], hW', trodAll_mk1 (shut_bool Try.underlying4 _), (trodAll_cons_mk (Below.trod laidOut (by kernel_rfl) (of_decide_eq_true (by kernel_rfl)) k0 bel lt0) (trodAll_cons_mk (Below.trod laidOut (by kernel_rfl) (of_decide_eq_true (by kernel_rfl)) k1 bel lt1) (trodAll_cons_mk (Below.trod laidOut (by kernel_rfl) (of_decide_eq_true (by kernel_rfl)) k2 bel lt2) trodAll_mk0))), rfl, bel.frame _, fun h => by cases h⟩
theorem over : Rows.fnExactNewFairRow.holds Try.pinned (OpenSpec.ofChange Rows.fnExactNewFairSpec) :=
  OpenClaim.holds_of_wide 7 Try.f7 rfl rfl rfl rfl rfl rfl rfl ⟨rfl, rfl, rfl, rfl, rfl⟩ rfl rfl rfl rfl rfl (by kernel_rfl) Try.func7 (by kernel_rfl)
    (of_decide_eq_true (by kernel_rfl)) (by unfold Func.isWrapper; first | (rw [if_pos (by decide +kernel)]; kernel_rfl) | (rw [if_neg (by decide +kernel)]; exact ⟨rfl, rfl⟩))
    (fun os started H enc _ => lifted os started H enc)
/-- The given statement. -/
theorem proved : Rows.FnExactNewFairSaid := over
#print axioms proved
end Go.Proofs.Ytgdldmeeaejjpaa.lawNewFair
