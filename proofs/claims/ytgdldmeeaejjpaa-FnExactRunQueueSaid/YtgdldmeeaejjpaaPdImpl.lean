/- The contracts of the program's PutDropHead. -/
import Derived.Test.YtgdldmeeaejjpaaPdSpec
import Derived.Test.YtgdldmeeaejjpaaDelete
import Derived.Deep.RegionHeld3
namespace Go.Proofs.Ytgdldmeeaejjpaa
open Go.ChangeShapes Go.WideShapes Go.ChangeAt Go.RowKit
set_option linter.unusedVariables false
theorem canPut_b {b : Bool} (li by_ : Int) (A : Option Addr) (n cap : Nat) (se dr : Int) (L : List Pk) (p : Pk) (w : World) (hl : L.length = n) (hr : IRow w A (fl L)) (hn : n ≤ 1048576) (hcap : n ≤ cap) (h : askd li by_ L se dr p = b) :
    Calls Try.prog 54 #[.agg #[.int .i64 li, .int .i64 by_, .slice A n cap, .int .i64 se, .int .i64 dr], .agg #[.int .i64 (p.id), .int .i64 (p.so), .int .i64 (p.de), .int .i64 (p.po), .int .i64 (p.ma), .int .i64 (p.si)]] w fun e w' => e = .returned (.bool b) ∧ Below w.heap.size w w' := h ▸ canPut_any li by_ A n cap se dr L p w hl hr hn hcap
theorem ifQueue_b {b : Bool} (li by_ : Int) (A : Option Addr) (n cap : Nat) (se dr : Int) (w : World) (h : (cnt se && cnt dr) = b) :
    Calls Try.prog 58 #[.agg #[.int .i64 li, .int .i64 by_, .slice A n cap, .int .i64 se, .int .i64 dr]] w fun e w' => e = .returned (.bool b) ∧ Below w.heap.size w w' := h ▸ ifQueue_any li by_ A n cap se dr w
set_option maxHeartbeats 1000000 in
theorem implPdh_bad (li by_ : Int) (A : Option Addr) (n cap : Nat) (se dr : Int) (L : List Pk) (p : Pk) (w : World) (hl : L.length = n) (hr : IRow w A (fl L)) (hn : n ≤ 1048576) (hcap : n ≤ cap) (hA : A = none → cap = 0) (h : askd li by_ L se dr p = false) :
    Calls Try.prog 16 #[.agg #[.int .i64 li, .int .i64 by_, .slice A n cap, .int .i64 se, .int .i64 dr], .agg #[.int .i64 (p.id), .int .i64 (p.so), .int .i64 (p.de), .int .i64 (p.po), .int .i64 (p.ma), .int .i64 (p.si)]] w (PdP w li by_ L se dr p) := by
  rw [PdP_no (show pdOk li by_ L se dr p = false by simp [pdOk, h])]
  have HL := Lib.hid hl
  have HQ := Lib.hid h
  have HR_a := Lib.hid hr
  clear hl hr h hA
  go_enter Try.func16, Try.ntmps16
  go_wp2_with fail
  refine (canPut_b _ _ _ _ _ _ _ L p _ HL.out (HR_a.out.below (ba (ba (ba (b0 w) _) _) _)) (by omega) hcap HQ.out).mono ?_
  rintro e w1 ⟨rfl, hb1⟩
  have z1 := hb1.size
  (try simp at z1)
  have HK_q_1 : Hid (Bk w1 (w.heap.size) 30 #[.int .i64 li, .int .i64 by_, .slice A n cap, .int .i64 se, .int .i64 dr]) := Lib.hid ((((Bk.new_ (by simp) : Bk _ (w.heap.size) 30 #[.int .i64 li, .int .i64 by_, .slice A n cap, .int .i64 se, .int .i64 dr]).alloc _).alloc _).old hb1)
  have zb_q : w.heap.size < w1.heap.size := HK_q_1.out.lt
  have cb_q_0 : w1.cell? ⟨w.heap.size, 0, none⟩ = some (.int .i64 li) := HK_q_1.out.cell 0
  have cb_q_1 : w1.cell? ⟨w.heap.size, 1, none⟩ = some (.int .i64 by_) := HK_q_1.out.cell 1
  have cb_q_2 : w1.cell? ⟨w.heap.size, 2, none⟩ = some (.slice A n cap) := HK_q_1.out.cell 2
  have cb_q_3 : w1.cell? ⟨w.heap.size, 3, none⟩ = some (.int .i64 se) := HK_q_1.out.cell 3
  have cb_q_4 : w1.cell? ⟨w.heap.size, 4, none⟩ = some (.int .i64 dr) := HK_q_1.out.cell 4
  have HK_p_1 : Hid (Bk w1 (w.heap.size + 1) 35 #[.int .i64 p.id, .int .i64 p.so, .int .i64 p.de, .int .i64 p.po, .int .i64 p.ma, .int .i64 p.si]) := Lib.hid (((Bk.new_ (by simp) : Bk _ (w.heap.size + 1) 35 #[.int .i64 p.id, .int .i64 p.so, .int .i64 p.de, .int .i64 p.po, .int .i64 p.ma, .int .i64 p.si]).alloc _).old hb1)
  have zb_p : w.heap.size + 1 < w1.heap.size := HK_p_1.out.lt
  have cb_p_0 : w1.cell? ⟨w.heap.size + 1, 0, none⟩ = some (.int .i64 p.id) := HK_p_1.out.cell 0
  have cb_p_1 : w1.cell? ⟨w.heap.size + 1, 1, none⟩ = some (.int .i64 p.so) := HK_p_1.out.cell 1
  have cb_p_2 : w1.cell? ⟨w.heap.size + 1, 2, none⟩ = some (.int .i64 p.de) := HK_p_1.out.cell 2
  have cb_p_3 : w1.cell? ⟨w.heap.size + 1, 3, none⟩ = some (.int .i64 p.po) := HK_p_1.out.cell 3
  have cb_p_4 : w1.cell? ⟨w.heap.size + 1, 4, none⟩ = some (.int .i64 p.ma) := HK_p_1.out.cell 4
  have cb_p_5 : w1.cell? ⟨w.heap.size + 1, 5, none⟩ = some (.int .i64 p.si) := HK_p_1.out.cell 5
  have HK_r_1 : Hid (Bk w1 (w.heap.size + 1 + 1) 30 #[.int .i64 0, .int .i64 0, .slice none 0 0, .int .i64 0, .int .i64 0]) := Lib.hid ((Bk.new_ (by simp) : Bk _ (w.heap.size + 1 + 1) 30 #[.int .i64 0, .int .i64 0, .slice none 0 0, .int .i64 0, .int .i64 0]).old hb1)
  have zb_r : w.heap.size + 1 + 1 < w1.heap.size := HK_r_1.out.lt
  have cb_r_0 : w1.cell? ⟨w.heap.size + 1 + 1, 0, none⟩ = some (.int .i64 0) := HK_r_1.out.cell 0
  have cb_r_1 : w1.cell? ⟨w.heap.size + 1 + 1, 1, none⟩ = some (.int .i64 0) := HK_r_1.out.cell 1
  have cb_r_2 : w1.cell? ⟨w.heap.size + 1 + 1, 2, none⟩ = some (.slice none 0 0) := HK_r_1.out.cell 2
  have cb_r_3 : w1.cell? ⟨w.heap.size + 1 + 1, 3, none⟩ = some (.int .i64 0) := HK_r_1.out.cell 3
  have cb_r_4 : w1.cell? ⟨w.heap.size + 1 + 1, 4, none⟩ = some (.int .i64 0) := HK_r_1.out.cell 4
  have HB_1 := Lib.hid (bt (ba (ba (ba (b0 w) _) _) _) hb1)
  clear hb1
  have rf := HK_r_1.out.free
  go_wp2_with fail
  exact bodyPost_ret (v := .tuple #[.agg #[.int .i64 0, .int .i64 0, .slice none 0 0, .int .i64 0, .int .i64 0], .slice none 0 0, .bool false]) (by simp [results, Try.results16, go_sem, cb_r_0, cb_r_1, cb_r_2, cb_r_3, cb_r_4]) rfl (NewQI.none_ rfl (by repeat (first | (with_reducible exact HB_1.out) | (with_reducible refine ba ?_ _) | (with_reducible refine bsB ?_ (by omega)) | (with_reducible refine bd ?_ _) | (with_reducible refine Below.drew ?_))))
set_option maxRecDepth 100000 in
set_option maxHeartbeats 4000000 in
theorem implPdh_big (li by_ : Int) (A : Option Addr) (n cap : Nat) (se dr : Int) (L : List Pk) (p : Pk) (w : World) (hl : L.length = n) (hr : IRow w A (fl L)) (hn : n ≤ 1048576) (hcap : n ≤ cap) (hA : A = none → cap = 0) (h : askd li by_ L se dr p = true) (hb : ¬ p.si ≤ by_) :
    Calls Try.prog 16 #[.agg #[.int .i64 li, .int .i64 by_, .slice A n cap, .int .i64 se, .int .i64 dr], .agg #[.int .i64 (p.id), .int .i64 (p.so), .int .i64 (p.de), .int .i64 (p.po), .int .i64 (p.ma), .int .i64 (p.si)]] w (PdP w li by_ L se dr p) := by
  have HL := Lib.hid hl
  have HQ := Lib.hid h
  have HR_a := Lib.hid hr
  have g0 := qok_iff.1 (askd_iff.1 h).1
  have s1 : 0 ≤ se ∧ se ≤ 1000000 := g0.2.2.2.1
  have d1 : 0 ≤ dr ∧ dr ≤ 1000000 := g0.2.2.2.2.1
  have HB0 := Lib.hid hb
  have hb' : decide (by_ < p.si) = true := decide_eq_true (by omega)
  clear hl hr h hA g0 hb
  go_enter Try.func16, Try.ntmps16
  go_wp2_with fail
  refine (canPut_b _ _ _ _ _ _ _ L p _ HL.out (HR_a.out.below (ba (ba (ba (b0 w) _) _) _)) (by omega) hcap HQ.out).mono ?_
  rintro e w1 ⟨rfl, hb1⟩
  have z1 := hb1.size
  (try simp at z1)
  have HK_q_1 : Hid (Bk w1 (w.heap.size) 30 #[.int .i64 li, .int .i64 by_, .slice A n cap, .int .i64 se, .int .i64 dr]) := Lib.hid ((((Bk.new_ (by simp) : Bk _ (w.heap.size) 30 #[.int .i64 li, .int .i64 by_, .slice A n cap, .int .i64 se, .int .i64 dr]).alloc _).alloc _).old hb1)
  have zb_q : w.heap.size < w1.heap.size := HK_q_1.out.lt
  have cb_q_0 : w1.cell? ⟨w.heap.size, 0, none⟩ = some (.int .i64 li) := HK_q_1.out.cell 0
  have cb_q_1 : w1.cell? ⟨w.heap.size, 1, none⟩ = some (.int .i64 by_) := HK_q_1.out.cell 1
  have cb_q_2 : w1.cell? ⟨w.heap.size, 2, none⟩ = some (.slice A n cap) := HK_q_1.out.cell 2
  have cb_q_3 : w1.cell? ⟨w.heap.size, 3, none⟩ = some (.int .i64 se) := HK_q_1.out.cell 3
  have cb_q_4 : w1.cell? ⟨w.heap.size, 4, none⟩ = some (.int .i64 dr) := HK_q_1.out.cell 4
  have HK_p_1 : Hid (Bk w1 (w.heap.size + 1) 35 #[.int .i64 p.id, .int .i64 p.so, .int .i64 p.de, .int .i64 p.po, .int .i64 p.ma, .int .i64 p.si]) := Lib.hid (((Bk.new_ (by simp) : Bk _ (w.heap.size + 1) 35 #[.int .i64 p.id, .int .i64 p.so, .int .i64 p.de, .int .i64 p.po, .int .i64 p.ma, .int .i64 p.si]).alloc _).old hb1)
  have zb_p : w.heap.size + 1 < w1.heap.size := HK_p_1.out.lt
  have cb_p_0 : w1.cell? ⟨w.heap.size + 1, 0, none⟩ = some (.int .i64 p.id) := HK_p_1.out.cell 0
  have cb_p_1 : w1.cell? ⟨w.heap.size + 1, 1, none⟩ = some (.int .i64 p.so) := HK_p_1.out.cell 1
  have cb_p_2 : w1.cell? ⟨w.heap.size + 1, 2, none⟩ = some (.int .i64 p.de) := HK_p_1.out.cell 2
  have cb_p_3 : w1.cell? ⟨w.heap.size + 1, 3, none⟩ = some (.int .i64 p.po) := HK_p_1.out.cell 3
  have cb_p_4 : w1.cell? ⟨w.heap.size + 1, 4, none⟩ = some (.int .i64 p.ma) := HK_p_1.out.cell 4
  have cb_p_5 : w1.cell? ⟨w.heap.size + 1, 5, none⟩ = some (.int .i64 p.si) := HK_p_1.out.cell 5
  have HK_r_1 : Hid (Bk w1 (w.heap.size + 1 + 1) 30 #[.int .i64 0, .int .i64 0, .slice none 0 0, .int .i64 0, .int .i64 0]) := Lib.hid ((Bk.new_ (by simp) : Bk _ (w.heap.size + 1 + 1) 30 #[.int .i64 0, .int .i64 0, .slice none 0 0, .int .i64 0, .int .i64 0]).old hb1)
  have zb_r : w.heap.size + 1 + 1 < w1.heap.size := HK_r_1.out.lt
  have cb_r_0 : w1.cell? ⟨w.heap.size + 1 + 1, 0, none⟩ = some (.int .i64 0) := HK_r_1.out.cell 0
  have cb_r_1 : w1.cell? ⟨w.heap.size + 1 + 1, 1, none⟩ = some (.int .i64 0) := HK_r_1.out.cell 1
  have cb_r_2 : w1.cell? ⟨w.heap.size + 1 + 1, 2, none⟩ = some (.slice none 0 0) := HK_r_1.out.cell 2
  have cb_r_3 : w1.cell? ⟨w.heap.size + 1 + 1, 3, none⟩ = some (.int .i64 0) := HK_r_1.out.cell 3
  have cb_r_4 : w1.cell? ⟨w.heap.size + 1 + 1, 4, none⟩ = some (.int .i64 0) := HK_r_1.out.cell 4
  have HB_1 := Lib.hid (bt (ba (ba (ba (b0 w) _) _) _) hb1)
  clear hb1
  go_wp2_with fail
  refine (copyQueue_any _ _ _ _ _ _ _ L _ HL.out (HR_a.out.below HB_1.out) (by omega)).mono ?_
  rintro e w2 ⟨A_v, cap_v, rfl, ho_v, hb2⟩
  have HN_v := Lib.hid ho_v.len
  have HO_v_2 := Lib.hid ho_v
  clear ho_v
  have z2 := hb2.size
  (try simp at z2)
  have HK_q_2 : Hid (Bk w2 (w.heap.size) 30 #[.int .i64 li, .int .i64 by_, .slice A n cap, .int .i64 se, .int .i64 dr]) := Lib.hid (HK_q_1.out.old hb2)
  clear HK_q_1
  clear cb_q_0 cb_q_1 cb_q_2 cb_q_3 cb_q_4 zb_q
  have zb_q : w.heap.size < w2.heap.size := HK_q_2.out.lt
  have cb_q_0 : w2.cell? ⟨w.heap.size, 0, none⟩ = some (.int .i64 li) := HK_q_2.out.cell 0
  have cb_q_1 : w2.cell? ⟨w.heap.size, 1, none⟩ = some (.int .i64 by_) := HK_q_2.out.cell 1
  have cb_q_2 : w2.cell? ⟨w.heap.size, 2, none⟩ = some (.slice A n cap) := HK_q_2.out.cell 2
  have cb_q_3 : w2.cell? ⟨w.heap.size, 3, none⟩ = some (.int .i64 se) := HK_q_2.out.cell 3
  have cb_q_4 : w2.cell? ⟨w.heap.size, 4, none⟩ = some (.int .i64 dr) := HK_q_2.out.cell 4
  have HK_p_2 : Hid (Bk w2 (w.heap.size + 1) 35 #[.int .i64 p.id, .int .i64 p.so, .int .i64 p.de, .int .i64 p.po, .int .i64 p.ma, .int .i64 p.si]) := Lib.hid (HK_p_1.out.old hb2)
  clear HK_p_1
  clear cb_p_0 cb_p_1 cb_p_2 cb_p_3 cb_p_4 cb_p_5 zb_p
  have zb_p : w.heap.size + 1 < w2.heap.size := HK_p_2.out.lt
  have cb_p_0 : w2.cell? ⟨w.heap.size + 1, 0, none⟩ = some (.int .i64 p.id) := HK_p_2.out.cell 0
  have cb_p_1 : w2.cell? ⟨w.heap.size + 1, 1, none⟩ = some (.int .i64 p.so) := HK_p_2.out.cell 1
  have cb_p_2 : w2.cell? ⟨w.heap.size + 1, 2, none⟩ = some (.int .i64 p.de) := HK_p_2.out.cell 2
  have cb_p_3 : w2.cell? ⟨w.heap.size + 1, 3, none⟩ = some (.int .i64 p.po) := HK_p_2.out.cell 3
  have cb_p_4 : w2.cell? ⟨w.heap.size + 1, 4, none⟩ = some (.int .i64 p.ma) := HK_p_2.out.cell 4
  have cb_p_5 : w2.cell? ⟨w.heap.size + 1, 5, none⟩ = some (.int .i64 p.si) := HK_p_2.out.cell 5
  have HK_r_2 : Hid (Bk w2 (w.heap.size + 1 + 1) 30 #[.int .i64 0, .int .i64 0, .slice none 0 0, .int .i64 0, .int .i64 0]) := Lib.hid (HK_r_1.out.old hb2)
  clear HK_r_1
  clear cb_r_0 cb_r_1 cb_r_2 cb_r_3 cb_r_4 zb_r
  have zb_r : w.heap.size + 1 + 1 < w2.heap.size := HK_r_2.out.lt
  have cb_r_0 : w2.cell? ⟨w.heap.size + 1 + 1, 0, none⟩ = some (.int .i64 0) := HK_r_2.out.cell 0
  have cb_r_1 : w2.cell? ⟨w.heap.size + 1 + 1, 1, none⟩ = some (.int .i64 0) := HK_r_2.out.cell 1
  have cb_r_2 : w2.cell? ⟨w.heap.size + 1 + 1, 2, none⟩ = some (.slice none 0 0) := HK_r_2.out.cell 2
  have cb_r_3 : w2.cell? ⟨w.heap.size + 1 + 1, 3, none⟩ = some (.int .i64 0) := HK_r_2.out.cell 3
  have cb_r_4 : w2.cell? ⟨w.heap.size + 1 + 1, 4, none⟩ = some (.int .i64 0) := HK_r_2.out.cell 4
  have HB_2 := Lib.hid (bt HB_1.out hb2)
  clear hb2
  go_wp2_with (at_builtin; refine append_int rfl _ _ rfl (lo := w2.heap.size + 1) (hh := w2.heap.size + 1 + 1) (A := some ⟨w2.heap.size + 1, 0, none⟩) (n := 0) (cap := 0) (l := []) rfl (by have h := (IOwn.lit0 (w2.alloc (.cells #[.int .i64 li, .int .i64 by_, .slice A_v n cap_v, .int .i64 se, .int .i64 dr] 30)) (w2.heap.size + 1) 3 1 (by simp)).alloc (.cells #[.int .i64 p.id] 3); simpa using h) (w2.heap.size + 1 + 1) p.id rfl ((Bk.new_ (by simp)).cell 0) (by omega) (by simp) ?_; intro A_i cap_i w4 ho_i hb4; have hk_o : Bk w4 w2.heap.size 30 #[.int .i64 li, .int .i64 by_, .slice A_v n cap_v, .int .i64 se, .int .i64 dr] := ((((Bk.new w2 _ _).alloc _).alloc _).below hb4 (Nat.lt_succ_self _)); have HKO := Lib.hid hk_o; have o0 := hk_o.cell 0; have o1 := hk_o.cell 1; have o2 := hk_o.cell 2; have o3 := hk_o.cell 3; have o4 := hk_o.cell 4; simp at o0 o1 o2 o3 o4; have of := hk_o.free; have oz := hk_o.lt; clear hk_o)
  have zz4 := hb4.size
  simp at zz4
  obtain ⟨w5, hW⟩ : ∃ x, x = w4.setCell ⟨w2.heap.size, 4, none⟩ (.int .i64 (dr + 1)) := ⟨_, rfl⟩
  rw [← hW]
  have O5 := Lib.hid (show Bk w5 w2.heap.size 30 #[.int .i64 li, .int .i64 by_, .slice A_v n cap_v, .int .i64 se, .int .i64 (dr + 1)] from by rw [hW]; have h := HKO.out.set 4 (.int .i64 (dr + 1)); simpa using h)
  have R5 := Lib.hid (show Bk w5 (w.heap.size + 1 + 1) 30 #[.int .i64 0, .int .i64 0, .slice none 0 0, .int .i64 0, .int .i64 0] from by rw [hW]; exact ((((HK_r_2.out.alloc _).alloc _).alloc _).below hb4 (by omega)).farB (by omega))
  have V5 := Lib.hid (show IOwn w5 w1.heap.size w2.heap.size 35 6 A_v n cap_v (fl L) from by rw [hW]; exact ((((HO_v_2.out.alloc _).alloc _).alloc _).below hb4 (by omega)).farC (by omega))
  have I5 := Lib.hid (show IOwn w5 (w2.heap.size + 1) w5.heap.size 3 1 A_i 1 cap_i [p.id] from by rw [hW]; exact (ho_i.farC (by omega)).here)
  have B5 := Lib.hid (show Below w.heap.size w w5 from by rw [hW]; exact bsB ((ba (ba (ba HB_2.out _) _) _).trans (hb4.mono (by omega))) (by omega))
  clear hW hb4 ho_i o0 o1 o2 o3 o4 of oz cb_r_0 cb_r_1 cb_r_2 cb_r_3 cb_r_4
  rcases hc : cnt (dr + 1) with _ | _
  · have HPD := Lib.hid (PdP_no (w := w) (show pdOk li by_ L se dr p = false by simp only [pdOk, pdD, if_neg (show ¬ p.si ≤ by_ from by have := HB0.out; omega), hc, Bool.and_false]))
    refine (ifQueue_b _ _ _ _ _ _ _ _ (show (cnt se && cnt (dr + 1)) = false by rw [hc, Bool.and_false])).mono ?_
    rintro e w6 ⟨rfl, hb6⟩
    clear hc
    have r : Bk w6 (w.heap.size + 1 + 1) 30 #[.int .i64 0, .int .i64 0, .slice none 0 0, .int .i64 0, .int .i64 0] := R5.out.old hb6
    have zr : w.heap.size + 1 + 1 < w6.heap.size := r.lt
    have r_0 : w6.cell? ⟨w.heap.size + 1 + 1, 0, none⟩ = some (.int .i64 0) := r.cell 0
    have r_1 : w6.cell? ⟨w.heap.size + 1 + 1, 1, none⟩ = some (.int .i64 0) := r.cell 1
    have r_2 : w6.cell? ⟨w.heap.size + 1 + 1, 2, none⟩ = some (.slice none 0 0) := r.cell 2
    have r_3 : w6.cell? ⟨w.heap.size + 1 + 1, 3, none⟩ = some (.int .i64 0) := r.cell 3
    have r_4 : w6.cell? ⟨w.heap.size + 1 + 1, 4, none⟩ = some (.int .i64 0) := r.cell 4
    have rf := r.free
    have Hr := Lib.hid r
    clear r
    have B6 := Lib.hid (bt B5.out hb6)
    clear hb6
    go_wp2_with fail
    exact bodyPost_ret (v := .tuple #[.agg #[.int .i64 0, .int .i64 0, .slice none 0 0, .int .i64 0, .int .i64 0], .slice none 0 0, .bool false]) (by simp [results, Try.results16, go_sem, r_0, r_1, r_2, r_3, r_4]) rfl (by rw [HPD.out]; exact NewQI.none_ rfl (by repeat (first | (with_reducible exact B6.out) | (with_reducible refine ba ?_ _) | (with_reducible refine bsB ?_ (by omega)) | (with_reducible refine bd ?_ _) | (with_reducible refine Below.drew ?_))))
  have HPD := Lib.hid (PdP_big (w := w) HQ.out (show ¬ p.si ≤ by_ from by have := HB0.out; omega) hc)
  refine (ifQueue_b _ _ _ _ _ _ _ _ (show (cnt se && cnt (dr + 1)) = true by rw [hc, cnt_iff.2 s1]; rfl)).mono ?_
  rintro e w6 ⟨rfl, hb6⟩
  clear hc
  have z6 := hb6.size
  have r : Bk w6 (w.heap.size + 1 + 1) 30 #[.int .i64 0, .int .i64 0, .slice none 0 0, .int .i64 0, .int .i64 0] := R5.out.old hb6
  have zr : w.heap.size + 1 + 1 < w6.heap.size := r.lt
  have r_0 : w6.cell? ⟨w.heap.size + 1 + 1, 0, none⟩ = some (.int .i64 0) := r.cell 0
  have r_1 : w6.cell? ⟨w.heap.size + 1 + 1, 1, none⟩ = some (.int .i64 0) := r.cell 1
  have r_2 : w6.cell? ⟨w.heap.size + 1 + 1, 2, none⟩ = some (.slice none 0 0) := r.cell 2
  have r_3 : w6.cell? ⟨w.heap.size + 1 + 1, 3, none⟩ = some (.int .i64 0) := r.cell 3
  have r_4 : w6.cell? ⟨w.heap.size + 1 + 1, 4, none⟩ = some (.int .i64 0) := r.cell 4
  have rf := r.free
  have Hr := Lib.hid r
  clear r
  have o : Bk w6 (w2.heap.size) 30 #[.int .i64 li, .int .i64 by_, .slice A_v n cap_v, .int .i64 se, .int .i64 (dr + 1)] := O5.out.old hb6
  have zo : w2.heap.size < w6.heap.size := o.lt
  have o_0 : w6.cell? ⟨w2.heap.size, 0, none⟩ = some (.int .i64 li) := o.cell 0
  have o_1 : w6.cell? ⟨w2.heap.size, 1, none⟩ = some (.int .i64 by_) := o.cell 1
  have o_2 : w6.cell? ⟨w2.heap.size, 2, none⟩ = some (.slice A_v n cap_v) := o.cell 2
  have o_3 : w6.cell? ⟨w2.heap.size, 3, none⟩ = some (.int .i64 se) := o.cell 3
  have o_4 : w6.cell? ⟨w2.heap.size, 4, none⟩ = some (.int .i64 (dr + 1)) := o.cell 4
  have of := o.free
  have Ho := Lib.hid o
  clear o
  have B6 := Lib.hid (bt B5.out hb6)
  have V6 := Lib.hid (V5.out.old hb6)
  have I6 := Lib.hid (I5.out.old hb6)
  clear hb6
  go_wp2_with fail
  refine bodyPost_ret (v := .tuple #[.agg #[.int .i64 li, .int .i64 by_, .slice A_v n cap_v, .int .i64 se, .int .i64 (dr + 1)], .slice A_i 1 cap_i, .bool true]) (by simp [results, Try.results16, go_sem, r_0, r_1, r_2, r_3, r_4]) rfl (by rw [HPD.out, HL.out]; exact NewQI.mk rfl (by refine IOwn.lo_le (lo := w1.heap.size) (IOwn.here (hi := w2.heap.size) ?_) (by omega); repeat (first | (with_reducible exact V6.out) | (with_reducible refine IOwn.alloc ?_ _) | (with_reducible refine IOwn.farC ?_ (by omega)) | (with_reducible refine IOwn.drew ?_))) (by refine IOwn.lo_le (lo := w2.heap.size + 1) (IOwn.here (hi := w5.heap.size) ?_) (by omega); repeat (first | (with_reducible exact I6.out) | (with_reducible refine IOwn.alloc ?_ _) | (with_reducible refine IOwn.farC ?_ (by omega)) | (with_reducible refine IOwn.drew ?_))) (by repeat (first | (with_reducible exact B6.out) | (with_reducible refine ba ?_ _) | (with_reducible refine bsB ?_ (by omega)) | (with_reducible refine bd ?_ _) | (with_reducible refine Below.drew ?_))))
set_option maxRecDepth 100000 in
set_option maxHeartbeats 4000000 in
theorem implPdh_fit (li by_ : Int) (A : Option Addr) (n cap : Nat) (se dr : Int) (L : List Pk) (p : Pk) (w : World) (hl : L.length = n) (hr : IRow w A (fl L)) (hn : n ≤ 1048576) (hcap : n ≤ cap) (hA : A = none → cap = 0) (h : askd li by_ L se dr p = true) (hb : p.si ≤ by_) :
    Calls Try.prog 16 #[.agg #[.int .i64 li, .int .i64 by_, .slice A n cap, .int .i64 se, .int .i64 dr], .agg #[.int .i64 (p.id), .int .i64 (p.so), .int .i64 (p.de), .int .i64 (p.po), .int .i64 (p.ma), .int .i64 (p.si)]] w (PdP w li by_ L se dr p) := by
  have HL := Lib.hid hl
  have HQ := Lib.hid h
  have HR_a := Lib.hid hr
  have g0 := qok_iff.1 (askd_iff.1 h).1
  have s1 : 0 ≤ se ∧ se ≤ 1000000 := g0.2.2.2.1
  have d1 : 0 ≤ dr ∧ dr ≤ 1000000 := g0.2.2.2.2.1
  have l1 : 1 ≤ li := g0.1.1
  have hn60 : n ≤ 60 := by omega
  have HZ := Lib.hid (apart_sz g0.2.2.2.2.2.1)
  have pg := Pk.ok_iff.1 (askd_iff.1 h).2.1
  have ps : 0 ≤ p.si ∧ p.si ≤ 1500 := by omega
  have hb' : decide (by_ < p.si) = false := decide_eq_false (by omega)
  have HRA := Lib.hid (fun (k : Nat) (hk : n ≤ k) => show room li by_ (L.drop k) p = true from room_all l1 hb (by omega))
  have HDN := Lib.hid (fun (k : Nat) (hk : k ≤ n) (h1 : ∀ j, j < k → room li by_ (L.drop j) p = false) (h2 : room li by_ (L.drop k) p = true) => dn_hit (li := li) (by_ := by_) (p := p) (L := L) (by omega) h1 h2)
  clear hl hr h hA g0 pg
  go_enter Try.func16, Try.ntmps16
  go_wp2_with fail
  refine (canPut_b _ _ _ _ _ _ _ L p _ HL.out (HR_a.out.below (ba (ba (ba (b0 w) _) _) _)) (by omega) hcap HQ.out).mono ?_
  rintro e w1 ⟨rfl, hb1⟩
  have z1 := hb1.size
  (try simp at z1)
  have HK_q_1 : Hid (Bk w1 (w.heap.size) 30 #[.int .i64 li, .int .i64 by_, .slice A n cap, .int .i64 se, .int .i64 dr]) := Lib.hid ((((Bk.new_ (by simp) : Bk _ (w.heap.size) 30 #[.int .i64 li, .int .i64 by_, .slice A n cap, .int .i64 se, .int .i64 dr]).alloc _).alloc _).old hb1)
  have zb_q : w.heap.size < w1.heap.size := HK_q_1.out.lt
  have cb_q_0 : w1.cell? ⟨w.heap.size, 0, none⟩ = some (.int .i64 li) := HK_q_1.out.cell 0
  have cb_q_1 : w1.cell? ⟨w.heap.size, 1, none⟩ = some (.int .i64 by_) := HK_q_1.out.cell 1
  have cb_q_2 : w1.cell? ⟨w.heap.size, 2, none⟩ = some (.slice A n cap) := HK_q_1.out.cell 2
  have cb_q_3 : w1.cell? ⟨w.heap.size, 3, none⟩ = some (.int .i64 se) := HK_q_1.out.cell 3
  have cb_q_4 : w1.cell? ⟨w.heap.size, 4, none⟩ = some (.int .i64 dr) := HK_q_1.out.cell 4
  have HK_p_1 : Hid (Bk w1 (w.heap.size + 1) 35 #[.int .i64 p.id, .int .i64 p.so, .int .i64 p.de, .int .i64 p.po, .int .i64 p.ma, .int .i64 p.si]) := Lib.hid (((Bk.new_ (by simp) : Bk _ (w.heap.size + 1) 35 #[.int .i64 p.id, .int .i64 p.so, .int .i64 p.de, .int .i64 p.po, .int .i64 p.ma, .int .i64 p.si]).alloc _).old hb1)
  have zb_p : w.heap.size + 1 < w1.heap.size := HK_p_1.out.lt
  have cb_p_0 : w1.cell? ⟨w.heap.size + 1, 0, none⟩ = some (.int .i64 p.id) := HK_p_1.out.cell 0
  have cb_p_1 : w1.cell? ⟨w.heap.size + 1, 1, none⟩ = some (.int .i64 p.so) := HK_p_1.out.cell 1
  have cb_p_2 : w1.cell? ⟨w.heap.size + 1, 2, none⟩ = some (.int .i64 p.de) := HK_p_1.out.cell 2
  have cb_p_3 : w1.cell? ⟨w.heap.size + 1, 3, none⟩ = some (.int .i64 p.po) := HK_p_1.out.cell 3
  have cb_p_4 : w1.cell? ⟨w.heap.size + 1, 4, none⟩ = some (.int .i64 p.ma) := HK_p_1.out.cell 4
  have cb_p_5 : w1.cell? ⟨w.heap.size + 1, 5, none⟩ = some (.int .i64 p.si) := HK_p_1.out.cell 5
  have HK_r_1 : Hid (Bk w1 (w.heap.size + 1 + 1) 30 #[.int .i64 0, .int .i64 0, .slice none 0 0, .int .i64 0, .int .i64 0]) := Lib.hid ((Bk.new_ (by simp) : Bk _ (w.heap.size + 1 + 1) 30 #[.int .i64 0, .int .i64 0, .slice none 0 0, .int .i64 0, .int .i64 0]).old hb1)
  have zb_r : w.heap.size + 1 + 1 < w1.heap.size := HK_r_1.out.lt
  have cb_r_0 : w1.cell? ⟨w.heap.size + 1 + 1, 0, none⟩ = some (.int .i64 0) := HK_r_1.out.cell 0
  have cb_r_1 : w1.cell? ⟨w.heap.size + 1 + 1, 1, none⟩ = some (.int .i64 0) := HK_r_1.out.cell 1
  have cb_r_2 : w1.cell? ⟨w.heap.size + 1 + 1, 2, none⟩ = some (.slice none 0 0) := HK_r_1.out.cell 2
  have cb_r_3 : w1.cell? ⟨w.heap.size + 1 + 1, 3, none⟩ = some (.int .i64 0) := HK_r_1.out.cell 3
  have cb_r_4 : w1.cell? ⟨w.heap.size + 1 + 1, 4, none⟩ = some (.int .i64 0) := HK_r_1.out.cell 4
  have HB_1 := Lib.hid (bt (ba (ba (ba (b0 w) _) _) _) hb1)
  clear hb1
  go_wp2_with fail
  refine (copyQueue_any _ _ _ _ _ _ _ L _ HL.out (HR_a.out.below HB_1.out) (by omega)).mono ?_
  rintro e w2 ⟨A_v, cap_v, rfl, ho_v, hb2⟩
  have HN_v := Lib.hid ho_v.len
  have HO_v_2 := Lib.hid ho_v
  clear ho_v
  have z2 := hb2.size
  (try simp at z2)
  have HK_q_2 : Hid (Bk w2 (w.heap.size) 30 #[.int .i64 li, .int .i64 by_, .slice A n cap, .int .i64 se, .int .i64 dr]) := Lib.hid (HK_q_1.out.old hb2)
  clear HK_q_1
  clear cb_q_0 cb_q_1 cb_q_2 cb_q_3 cb_q_4 zb_q
  have zb_q : w.heap.size < w2.heap.size := HK_q_2.out.lt
  have cb_q_0 : w2.cell? ⟨w.heap.size, 0, none⟩ = some (.int .i64 li) := HK_q_2.out.cell 0
  have cb_q_1 : w2.cell? ⟨w.heap.size, 1, none⟩ = some (.int .i64 by_) := HK_q_2.out.cell 1
  have cb_q_2 : w2.cell? ⟨w.heap.size, 2, none⟩ = some (.slice A n cap) := HK_q_2.out.cell 2
  have cb_q_3 : w2.cell? ⟨w.heap.size, 3, none⟩ = some (.int .i64 se) := HK_q_2.out.cell 3
  have cb_q_4 : w2.cell? ⟨w.heap.size, 4, none⟩ = some (.int .i64 dr) := HK_q_2.out.cell 4
  have HK_p_2 : Hid (Bk w2 (w.heap.size + 1) 35 #[.int .i64 p.id, .int .i64 p.so, .int .i64 p.de, .int .i64 p.po, .int .i64 p.ma, .int .i64 p.si]) := Lib.hid (HK_p_1.out.old hb2)
  clear HK_p_1
  clear cb_p_0 cb_p_1 cb_p_2 cb_p_3 cb_p_4 cb_p_5 zb_p
  have zb_p : w.heap.size + 1 < w2.heap.size := HK_p_2.out.lt
  have cb_p_0 : w2.cell? ⟨w.heap.size + 1, 0, none⟩ = some (.int .i64 p.id) := HK_p_2.out.cell 0
  have cb_p_1 : w2.cell? ⟨w.heap.size + 1, 1, none⟩ = some (.int .i64 p.so) := HK_p_2.out.cell 1
  have cb_p_2 : w2.cell? ⟨w.heap.size + 1, 2, none⟩ = some (.int .i64 p.de) := HK_p_2.out.cell 2
  have cb_p_3 : w2.cell? ⟨w.heap.size + 1, 3, none⟩ = some (.int .i64 p.po) := HK_p_2.out.cell 3
  have cb_p_4 : w2.cell? ⟨w.heap.size + 1, 4, none⟩ = some (.int .i64 p.ma) := HK_p_2.out.cell 4
  have cb_p_5 : w2.cell? ⟨w.heap.size + 1, 5, none⟩ = some (.int .i64 p.si) := HK_p_2.out.cell 5
  have HK_r_2 : Hid (Bk w2 (w.heap.size + 1 + 1) 30 #[.int .i64 0, .int .i64 0, .slice none 0 0, .int .i64 0, .int .i64 0]) := Lib.hid (HK_r_1.out.old hb2)
  clear HK_r_1
  clear cb_r_0 cb_r_1 cb_r_2 cb_r_3 cb_r_4 zb_r
  have zb_r : w.heap.size + 1 + 1 < w2.heap.size := HK_r_2.out.lt
  have cb_r_0 : w2.cell? ⟨w.heap.size + 1 + 1, 0, none⟩ = some (.int .i64 0) := HK_r_2.out.cell 0
  have cb_r_1 : w2.cell? ⟨w.heap.size + 1 + 1, 1, none⟩ = some (.int .i64 0) := HK_r_2.out.cell 1
  have cb_r_2 : w2.cell? ⟨w.heap.size + 1 + 1, 2, none⟩ = some (.slice none 0 0) := HK_r_2.out.cell 2
  have cb_r_3 : w2.cell? ⟨w.heap.size + 1 + 1, 3, none⟩ = some (.int .i64 0) := HK_r_2.out.cell 3
  have cb_r_4 : w2.cell? ⟨w.heap.size + 1 + 1, 4, none⟩ = some (.int .i64 0) := HK_r_2.out.cell 4
  have HB_2 := Lib.hid (bt HB_1.out hb2)
  clear hb2
  go_wp2_with fail
  obtain ⟨w3, hW⟩ : ∃ x, x = (w2.alloc (.cells #[.int .i64 li, .int .i64 by_, .slice A_v n cap_v, .int .i64 se, .int .i64 dr] 30)).alloc (.cells #[] 3) := ⟨_, rfl⟩
  rw [← hW]
  have O3 := Lib.hid (show Bk w3 w2.heap.size 30 #[.int .i64 li, .int .i64 by_, .slice A_v n cap_v, .int .i64 se, .int .i64 dr] from by rw [hW]; exact (Bk.new w2 _ _).alloc _)
  have R3 := Lib.hid (show Bk w3 (w.heap.size + 1 + 1) 30 #[.int .i64 0, .int .i64 0, .slice none 0 0, .int .i64 0, .int .i64 0] from by rw [hW]; exact (HK_r_2.out.alloc _).alloc _)
  have P3 := Lib.hid (show Bk w3 (w.heap.size + 1) 35 #[.int .i64 p.id, .int .i64 p.so, .int .i64 p.de, .int .i64 p.po, .int .i64 p.ma, .int .i64 p.si] from by rw [hW]; exact (HK_p_2.out.alloc _).alloc _)
  have V3 := Lib.hid (show IOwn w3 w1.heap.size w2.heap.size 35 6 A_v n cap_v (fl L) from by rw [hW]; exact (HO_v_2.out.alloc _).alloc _)
  have I3 := Lib.hid (show IOwn w3 (w2.heap.size + 1) w3.heap.size 3 1 (some ⟨w2.heap.size + 1, 0, none⟩) 0 0 [] from by rw [hW]; have h := (IOwn.lit0 (w2.alloc (.cells #[.int .i64 li, .int .i64 by_, .slice A_v n cap_v, .int .i64 se, .int .i64 dr] 30)) (w2.heap.size + 1) 3 1 (by simp)).here; simpa using h)
  have B3 := Lib.hid (show Below w.heap.size w w3 from by rw [hW]; exact ba (ba HB_2.out _) _)
  have z3 : w3.heap.size = w2.heap.size + 1 + 1 := by rw [hW]; simp
  have z3' : w2.heap.size + 1 + 1 ≤ w3.heap.size := by omega
  clear hW z3
  go_loopw [8] (fun v wr => ∃ (k : Nat) (C : Option Addr) (c : Nat), k ≤ n ∧ v = .slice C k c ∧ (∀ j, j < k → room li by_ (L.drop j) p = false) ∧ IOwn wr (w2.heap.size + 1) wr.heap.size 3 1 C k c (idl L k) ∧ IOwn wr w1.heap.size w2.heap.size 35 6 A_v (n - k) cap_v (fl (L.drop k)) ∧ Bk wr w2.heap.size 30 #[.int .i64 li, .int .i64 by_, .slice A_v (n - k) cap_v, .int .i64 se, .int .i64 (dr + (k : Int))] ∧ Bk wr (w.heap.size + 1) 35 #[.int .i64 p.id, .int .i64 p.so, .int .i64 p.de, .int .i64 p.po, .int .i64 p.ma, .int .i64 p.si] ∧ Bk wr (w.heap.size + 1 + 1) 30 #[.int .i64 0, .int .i64 0, .slice none 0 0, .int .i64 0, .int .i64 0] ∧ Below w.heap.size w wr) (fun v _ => match v with | .slice _ k _ => n - k | _ => 0)
  case atStart => exact ⟨0, _, 0, Nat.zero_le _, rfl, fun j hj => by omega, by rw [idl_zero]; exact I3.out, by simpa using V3.out, by simpa using O3.out, P3.out, R3.out, B3.out⟩
  case round =>
    obtain ⟨k, C, c, hk, rfl, hno, hi, hv, ho, hp, hr', hbw⟩ := hrel
    have HNO := Lib.hid hno
    have HI := Lib.hid hi
    have HV := Lib.hid hv
    have HOB := Lib.hid ho
    have HPB := Lib.hid hp
    have HRB := Lib.hid hr'
    have HBW := Lib.hid hbw
    have zk := ho.lt
    clear hno hi hv ho hp hr' hbw
    have HLK := Lib.hid (show (L.drop k).length = n - k by rw [List.length_drop, HL.out])
    have b : Bk wr (w2.heap.size) 30 #[.int .i64 li, .int .i64 by_, .slice A_v (n - k) cap_v, .int .i64 se, .int .i64 (dr + (k : Int))] := HOB.out
    have zb : w2.heap.size < wr.heap.size := b.lt
    have b_0 : wr.cell? ⟨w2.heap.size, 0, none⟩ = some (.int .i64 li) := b.cell 0
    have b_1 : wr.cell? ⟨w2.heap.size, 1, none⟩ = some (.int .i64 by_) := b.cell 1
    have b_2 : wr.cell? ⟨w2.heap.size, 2, none⟩ = some (.slice A_v (n - k) cap_v) := b.cell 2
    have b_3 : wr.cell? ⟨w2.heap.size, 3, none⟩ = some (.int .i64 se) := b.cell 3
    have b_4 : wr.cell? ⟨w2.heap.size, 4, none⟩ = some (.int .i64 (dr + (k : Int))) := b.cell 4
    have bf := b.free
    have Hb := Lib.hid b
    clear b
    have x : Bk wr (w.heap.size + 1) 35 #[.int .i64 p.id, .int .i64 p.so, .int .i64 p.de, .int .i64 p.po, .int .i64 p.ma, .int .i64 p.si] := HPB.out
    have zx : w.heap.size + 1 < wr.heap.size := x.lt
    have x_0 : wr.cell? ⟨w.heap.size + 1, 0, none⟩ = some (.int .i64 p.id) := x.cell 0
    have x_1 : wr.cell? ⟨w.heap.size + 1, 1, none⟩ = some (.int .i64 p.so) := x.cell 1
    have x_2 : wr.cell? ⟨w.heap.size + 1, 2, none⟩ = some (.int .i64 p.de) := x.cell 2
    have x_3 : wr.cell? ⟨w.heap.size + 1, 3, none⟩ = some (.int .i64 p.po) := x.cell 3
    have x_4 : wr.cell? ⟨w.heap.size + 1, 4, none⟩ = some (.int .i64 p.ma) := x.cell 4
    have x_5 : wr.cell? ⟨w.heap.size + 1, 5, none⟩ = some (.int .i64 p.si) := x.cell 5
    have xf := x.free
    have Hx := Lib.hid x
    clear x
    go_wp2_with fail
    refine (hasRoom_any _ _ _ _ _ _ _ (L.drop k) _ _ HLK.out HV.out.row (by omega) (HZ.out.drop k) (by omega) ps).mono ?_
    rintro e w4 ⟨rfl, hb4⟩
    have z4 := hb4.size
    have HI4 := Lib.hid (HI.out.old hb4)
    have HV4 := Lib.hid (HV.out.old hb4)
    have HO4 := Lib.hid (HOB.out.old hb4)
    have HP4 := Lib.hid (HPB.out.old hb4)
    have HR4 := Lib.hid (HRB.out.old hb4)
    have HB4 := Lib.hid (bt HBW.out hb4)
    clear hb4 b_0 b_1 b_2 b_3 b_4 bf zb Hb x_0 x_1 x_2 x_3 x_4 x_5 xf zx Hx
    have b : Bk w4 (w2.heap.size) 30 #[.int .i64 li, .int .i64 by_, .slice A_v (n - k) cap_v, .int .i64 se, .int .i64 (dr + (k : Int))] := HO4.out
    have zb : w2.heap.size < w4.heap.size := b.lt
    have b_0 : w4.cell? ⟨w2.heap.size, 0, none⟩ = some (.int .i64 li) := b.cell 0
    have b_1 : w4.cell? ⟨w2.heap.size, 1, none⟩ = some (.int .i64 by_) := b.cell 1
    have b_2 : w4.cell? ⟨w2.heap.size, 2, none⟩ = some (.slice A_v (n - k) cap_v) := b.cell 2
    have b_3 : w4.cell? ⟨w2.heap.size, 3, none⟩ = some (.int .i64 se) := b.cell 3
    have b_4 : w4.cell? ⟨w2.heap.size, 4, none⟩ = some (.int .i64 (dr + (k : Int))) := b.cell 4
    have bf := b.free
    have Hb := Lib.hid b
    clear b
    rcases hro : room li by_ (L.drop k) p with _ | _
    · have hkn : k < n := by
        rcases Nat.lt_or_ge k n with h' | h'
        · exact h'
        · rw [HRA.out k h'] at hro; cases hro
      have HNO1 := Lib.hid (show ∀ j, j < k + 1 → room li by_ (L.drop j) p = false from fun j hj => by
        rcases Nat.lt_succ_iff_lt_or_eq.1 hj with h' | rfl
        · exact HNO.out j h'
        · exact hro)
      clear hro
      obtain ⟨gv, hgv, lv1, lv2, lv3, -, -⟩ := HV4.out.at_ (k := 0) (by rw [fl_len, HLK.out]; omega)
      subst hgv
      obtain ⟨g', off', x, e', hg, hpk, e0, e1, e2, e3, e4, e5⟩ := pk_at HV4.out.row (k := 0) (by rw [HLK.out]; omega)
      injection e' with e'
      injection e' with x1 x2
      subst x1 x2
      simp only [Nat.zero_mul, Nat.zero_add] at e0 e1 e2 e3 e4 e5
      have HPK := Lib.hid (show L[k]? = some x from by simpa [List.getElem?_drop] using hpk)
      clear hpk e1 e2 e3 e4 e5
      generalize hnk : n - k = nk at *
      obtain ⟨m, rfl⟩ : ∃ m, nk = m + 1 := ⟨nk - 1, by omega⟩
      go_wp2_with (at_builtin; refine append_int rfl _ _ rfl (lo := w2.heap.size + 1) (hh := wr.heap.size) (A := C) (n := k) (cap := c) (l := idl L k) rfl (HI4.out.alloc _) w4.heap.size x.id rfl ((Bk.new_ rfl).cell 0) (by omega) (by simp; omega) ?_; intro C' c' w5 ho5 hb5; have HI5 := Lib.hid ho5; have HO5 := Lib.hid (show Bk w5 w2.heap.size 30 #[.int .i64 li, .int .i64 by_, .slice (some ⟨gv, 0, none⟩) (m + 1) cap_v, .int .i64 se, .int .i64 (dr + (k : Int))] from (HO4.out.alloc _).below hb5 (Nat.lt_succ_self _)); have HV5 := Lib.hid (show IOwn w5 w1.heap.size w2.heap.size 35 6 (some ⟨gv, 0, none⟩) (m + 1) cap_v (fl (L.drop k)) from (HV4.out.alloc _).below hb5 (by omega)); have HP5 := Lib.hid ((HP4.out.alloc _).below hb5 (by omega)); have HR5 := Lib.hid ((HR4.out.alloc _).below hb5 (by omega)); have HB5 := Lib.hid ((ba HB4.out _).trans (hb5.mono (by omega))); have zz5 := hb5.size; simp at zz5; have y0 := HO5.out.cell 0; have y1 := HO5.out.cell 1; have y2 := HO5.out.cell 2; have y3 := HO5.out.cell 3; have y4 := HO5.out.cell 4; simp at y0 y1 y2 y3 y4; have yf := HO5.out.free; have yz := HO5.out.lt; clear ho5 hb5 b_0 b_1 b_2 b_3 b_4 bf zb e0)
      refine (delete_any _ _ gv m cap_v (L.drop k) _ HV5.out (by omega)).mono ?_
      rintro e w6 ⟨rfl, hv6, hc6⟩
      have HV6 := Lib.hid hv6
      have HO6 := Lib.hid (HO5.out.chg hc6 (.inr (Nat.le_refl _)))
      have HP6 := Lib.hid (HP5.out.chg hc6 (by omega))
      have HR6 := Lib.hid (HR5.out.chg hc6 (by omega))
      have HI6 := Lib.hid (HI5.out.chg hc6 (.inr (by omega)))
      have HB6 := Lib.hid (Chg.below HB5.out hc6 (by omega))
      have zz6 := hc6.size
      clear hv6 hc6 y0 y1 y2 y3 y4 yf yz
      have b : Bk w6 (w2.heap.size) 30 #[.int .i64 li, .int .i64 by_, .slice (some ⟨gv, 0, none⟩) (m + 1) cap_v, .int .i64 se, .int .i64 (dr + (k : Int))] := HO6.out
      have zb : w2.heap.size < w6.heap.size := b.lt
      have b_0 : w6.cell? ⟨w2.heap.size, 0, none⟩ = some (.int .i64 li) := b.cell 0
      have b_1 : w6.cell? ⟨w2.heap.size, 1, none⟩ = some (.int .i64 by_) := b.cell 1
      have b_2 : w6.cell? ⟨w2.heap.size, 2, none⟩ = some (.slice (some ⟨gv, 0, none⟩) (m + 1) cap_v) := b.cell 2
      have b_3 : w6.cell? ⟨w2.heap.size, 3, none⟩ = some (.int .i64 se) := b.cell 3
      have b_4 : w6.cell? ⟨w2.heap.size, 4, none⟩ = some (.int .i64 (dr + (k : Int))) := b.cell 4
      have bf := b.free
      have Hb := Lib.hid b
      clear b
      go_wp2_with fail
      go_roundw
      case rel => exact ⟨k + 1, C', c', by omega, rfl, HNO1.out, by rw [idl_succ HPK.out]; exact (HI6.out.farC (.inl (by omega)) |>.farC (.inl (by omega))).here, by rw [show n - (k + 1) = m by omega, ← List.tail_drop]; exact (HV6.out.farC (.inr (Nat.le_refl _))).farC (.inr (Nat.le_refl _)), by rw [show n - (k + 1) = m by omega]; have h := (HO6.out.set 2 (.slice (some ⟨gv, 0, none⟩) m cap_v)).set 4 (.int .i64 (dr + (k : Int) + 1)); simpa [Int.add_assoc] using h, (HP6.out.farB (by omega)).farB (by omega), (HR6.out.farB (by omega)).farB (by omega), bsB (bsB HB6.out (by omega)) (by omega)⟩
      case measure => show n - (k + 1) < n - k; omega
    have HDK := Lib.hid (HDN.out k hk HNO.out hro)
    clear hro
    have x : Bk w4 (w.heap.size + 1) 35 #[.int .i64 p.id, .int .i64 p.so, .int .i64 p.de, .int .i64 p.po, .int .i64 p.ma, .int .i64 p.si] := HP4.out
    have zx : w.heap.size + 1 < w4.heap.size := x.lt
    have x_0 : w4.cell? ⟨w.heap.size + 1, 0, none⟩ = some (.int .i64 p.id) := x.cell 0
    have x_1 : w4.cell? ⟨w.heap.size + 1, 1, none⟩ = some (.int .i64 p.so) := x.cell 1
    have x_2 : w4.cell? ⟨w.heap.size + 1, 2, none⟩ = some (.int .i64 p.de) := x.cell 2
    have x_3 : w4.cell? ⟨w.heap.size + 1, 3, none⟩ = some (.int .i64 p.po) := x.cell 3
    have x_4 : w4.cell? ⟨w.heap.size + 1, 4, none⟩ = some (.int .i64 p.ma) := x.cell 4
    have x_5 : w4.cell? ⟨w.heap.size + 1, 5, none⟩ = some (.int .i64 p.si) := x.cell 5
    have xf := x.free
    have Hx := Lib.hid x
    clear x
    go_wp2_with (at_builtin; refine append_pkC rfl _ _ rfl (lo := w1.heap.size) (hh := w2.heap.size) (L := L.drop k) rfl (HV4.out.alloc _) w4.heap.size p rfl (Bk.new_ rfl) (by omega) (by simp; omega) ?_; intro A5 c5 w5 ho5 hc5; have HV5 := Lib.hid ho5; have zz5 := hc5.size; simp at zz5; have HB5 := Lib.hid (Chg.below (ba HB4.out _) hc5 (by omega)); have O5 := Lib.hid ((HO4.out.alloc _).chg hc5 (.inr (Nat.le_refl _))); have R5 := Lib.hid ((HR4.out.alloc _).chg hc5 (by omega)); have I5 := Lib.hid ((HI4.out.alloc _).chg hc5 (.inr (by omega))); have kf := O5.out.free; have kz := O5.out.lt; have k0 := O5.out.cell 0; have k1 := O5.out.cell 1; have k2 := O5.out.cell 2; have k3 := O5.out.cell 3; have k4 := O5.out.cell 4; simp at k0 k1 k2 k3 k4; clear ho5 hc5 b_0 b_1 b_2 b_3 b_4 bf x_0 x_1 x_2 x_3 x_4 x_5 xf)
    obtain ⟨ta, tb, t1, t2, t3, t4, ho5⟩ := HV5.out.apart (g := w2.heap.size) O5.out (by decide) (by omega)
    obtain ⟨w6, hW⟩ : ∃ x, x = w5.setCell ⟨w2.heap.size, 2, none⟩ (.slice A5 (n - k + 1) c5) := ⟨_, rfl⟩
    rw [← hW]
    have O6 := Lib.hid (show Bk w6 w2.heap.size 30 #[.int .i64 li, .int .i64 by_, .slice A5 (n - k + 1) c5, .int .i64 se, .int .i64 (dr + (k : Int))] from by rw [hW]; have h := O5.out.set 2 (.slice A5 (n - k + 1) c5); simpa using h)
    have R6 := Lib.hid (show Bk w6 (w.heap.size + 1 + 1) 30 #[.int .i64 0, .int .i64 0, .slice none 0 0, .int .i64 0, .int .i64 0] from by rw [hW]; exact R5.out.farB (by omega))
    have V6 := Lib.hid (show IOwn w6 ta tb 35 6 A5 (n - k + 1) c5 (fl (L.drop k ++ [p])) from by rw [hW]; exact ho5.farC t4)
    have I6 := Lib.hid (show IOwn w6 (w2.heap.size + 1) wr.heap.size 3 1 C k c (idl L k) from by rw [hW]; exact I5.out.farC (by omega))
    have B6 := Lib.hid (show Below w.heap.size w w6 from by rw [hW]; exact bsB HB5.out (by omega))
    have z6 : w6.heap.size = w5.heap.size := by rw [hW]; simp [World.setCell]
    clear hW ho5 k0 k1 k2 k3 k4 kf kz
    rcases hc : cnt (dr + (k : Int)) with _ | _
    · have HPD := Lib.hid (PdP_no (w := w) (show pdOk li by_ L se dr p = false by simp only [pdOk, pdD, if_pos hb, HDK.out, hc, Bool.and_false]))
      refine (ifQueue_b _ _ _ _ _ _ _ _ (show (cnt se && cnt (dr + (k : Int))) = false by rw [hc, Bool.and_false])).mono ?_
      rintro e w7 ⟨rfl, hb7⟩
      clear hc
      have r : Bk w7 (w.heap.size + 1 + 1) 30 #[.int .i64 0, .int .i64 0, .slice none 0 0, .int .i64 0, .int .i64 0] := R6.out.old hb7
      have zr : w.heap.size + 1 + 1 < w7.heap.size := r.lt
      have r_0 : w7.cell? ⟨w.heap.size + 1 + 1, 0, none⟩ = some (.int .i64 0) := r.cell 0
      have r_1 : w7.cell? ⟨w.heap.size + 1 + 1, 1, none⟩ = some (.int .i64 0) := r.cell 1
      have r_2 : w7.cell? ⟨w.heap.size + 1 + 1, 2, none⟩ = some (.slice none 0 0) := r.cell 2
      have r_3 : w7.cell? ⟨w.heap.size + 1 + 1, 3, none⟩ = some (.int .i64 0) := r.cell 3
      have r_4 : w7.cell? ⟨w.heap.size + 1 + 1, 4, none⟩ = some (.int .i64 0) := r.cell 4
      have rf := r.free
      have Hr := Lib.hid r
      clear r
      have B7 := Lib.hid (bt B6.out hb7)
      clear hb7
      go_wp2_with fail
      exact bodyPost_ret (v := .tuple #[.agg #[.int .i64 0, .int .i64 0, .slice none 0 0, .int .i64 0, .int .i64 0], .slice none 0 0, .bool false]) (by simp [results, Try.results16, go_sem, r_0, r_1, r_2, r_3, r_4]) rfl (by rw [HPD.out]; exact NewQI.none_ rfl (by repeat (first | (with_reducible exact B7.out) | (with_reducible refine ba ?_ _) | (with_reducible refine bsB ?_ (by omega)) | (with_reducible refine bd ?_ _) | (with_reducible refine Below.drew ?_))))
    have HPD := Lib.hid (PdP_fit (w := w) HDK.out HQ.out hb hc)
    refine (ifQueue_b _ _ _ _ _ _ _ _ (show (cnt se && cnt (dr + (k : Int))) = true by rw [hc, cnt_iff.2 s1]; rfl)).mono ?_
    rintro e w7 ⟨rfl, hb7⟩
    clear hc
    have z7 := hb7.size
    have r : Bk w7 (w.heap.size + 1 + 1) 30 #[.int .i64 0, .int .i64 0, .slice none 0 0, .int .i64 0, .int .i64 0] := R6.out.old hb7
    have zr : w.heap.size + 1 + 1 < w7.heap.size := r.lt
    have r_0 : w7.cell? ⟨w.heap.size + 1 + 1, 0, none⟩ = some (.int .i64 0) := r.cell 0
    have r_1 : w7.cell? ⟨w.heap.size + 1 + 1, 1, none⟩ = some (.int .i64 0) := r.cell 1
    have r_2 : w7.cell? ⟨w.heap.size + 1 + 1, 2, none⟩ = some (.slice none 0 0) := r.cell 2
    have r_3 : w7.cell? ⟨w.heap.size + 1 + 1, 3, none⟩ = some (.int .i64 0) := r.cell 3
    have r_4 : w7.cell? ⟨w.heap.size + 1 + 1, 4, none⟩ = some (.int .i64 0) := r.cell 4
    have rf := r.free
    have Hr := Lib.hid r
    clear r
    have o : Bk w7 (w2.heap.size) 30 #[.int .i64 li, .int .i64 by_, .slice A5 (n - k + 1) c5, .int .i64 se, .int .i64 (dr + (k : Int))] := O6.out.old hb7
    have zo : w2.heap.size < w7.heap.size := o.lt
    have o_0 : w7.cell? ⟨w2.heap.size, 0, none⟩ = some (.int .i64 li) := o.cell 0
    have o_1 : w7.cell? ⟨w2.heap.size, 1, none⟩ = some (.int .i64 by_) := o.cell 1
    have o_2 : w7.cell? ⟨w2.heap.size, 2, none⟩ = some (.slice A5 (n - k + 1) c5) := o.cell 2
    have o_3 : w7.cell? ⟨w2.heap.size, 3, none⟩ = some (.int .i64 se) := o.cell 3
    have o_4 : w7.cell? ⟨w2.heap.size, 4, none⟩ = some (.int .i64 (dr + (k : Int))) := o.cell 4
    have of := o.free
    have Ho := Lib.hid o
    clear o
    have B7 := Lib.hid (bt B6.out hb7)
    have V7 := Lib.hid (V6.out.old hb7)
    have I7 := Lib.hid (show IOwn w7 (w2.heap.size + 1) wr.heap.size 3 1 C k c ((L.take k).map Pk.id) from I6.out.old hb7)
    clear hb7
    have HLP := Lib.hid (show (L.drop k ++ [p]).length = n - k + 1 by simp [HLK.out])
    go_wp2_with fail
    refine bodyPost_ret (v := .tuple #[.agg #[.int .i64 li, .int .i64 by_, .slice A5 (n - k + 1) c5, .int .i64 se, .int .i64 (dr + (k : Int))], .slice C k c, .bool true]) (by simp [results, Try.results16, go_sem, r_0, r_1, r_2, r_3, r_4]) rfl (by rw [HPD.out, HLP.out]; exact NewQI.mk rfl (by refine IOwn.lo_le (lo := ta) (IOwn.here (hi := tb) ?_) (by omega); repeat (first | (with_reducible exact V7.out) | (with_reducible refine IOwn.alloc ?_ _) | (with_reducible refine IOwn.farC ?_ (by omega)) | (with_reducible refine IOwn.drew ?_))) (by refine IOwn.lo_le (lo := w2.heap.size + 1) (IOwn.here (hi := wr.heap.size) ?_) (by omega); repeat (first | (with_reducible exact I7.out) | (with_reducible refine IOwn.alloc ?_ _) | (with_reducible refine IOwn.farC ?_ (by omega)) | (with_reducible refine IOwn.drew ?_))) (by repeat (first | (with_reducible exact B7.out) | (with_reducible refine ba ?_ _) | (with_reducible refine bsB ?_ (by omega)) | (with_reducible refine bd ?_ _) | (with_reducible refine Below.drew ?_))))
theorem implPutDropHead_any (li by_ : Int) (A : Option Addr) (n cap : Nat) (se dr : Int) (L : List Pk) (p : Pk) (w : World) (hl : L.length = n) (hr : IRow w A (fl L)) (hn : n ≤ 1048576) (hcap : n ≤ cap) (hA : A = none → cap = 0) :
    Calls Try.prog 16 #[.agg #[.int .i64 li, .int .i64 by_, .slice A n cap, .int .i64 se, .int .i64 dr], .agg #[.int .i64 (p.id), .int .i64 (p.so), .int .i64 (p.de), .int .i64 (p.po), .int .i64 (p.ma), .int .i64 (p.si)]] w (PdP w li by_ L se dr p) := by
  rcases h : askd li by_ L se dr p with _ | _
  · exact implPdh_bad li by_ A n cap se dr L p w hl hr hn hcap hA h
  by_cases hb : p.si ≤ by_
  · exact implPdh_fit li by_ A n cap se dr L p w hl hr hn hcap hA h hb
  · exact implPdh_big li by_ A n cap se dr L p w hl hr hn hcap hA h hb
end Go.Proofs.Ytgdldmeeaejjpaa
