/- The statement FnExactNewQueueSaid: for every input the law FnExactNewQueue returns true, and its arguments read as before. No condition. -/
import Derived.Test.YtgcbpooflecbpaaQuSmall
namespace Go.Proofs.Ytgcbpooflecbpaa.lawNewQueue
open Go.ChangeShapes Go.WideShapes Go.ChangeAt Go.RowKit
set_option linter.unusedVariables false
theorem markNil (xl xb : Int) (k : Int) (w : World) (k0 : 0 ≤ k) (k1 : k ≤ 1000) :
    Calls Try.prog 29 #[.agg #[.int .i64 xl, .int .i64 xb, .slice none 0 0, .int .i64 0, .int .i64 0], .int .i64 k] w fun e w' => e = .returned (.int .i64 k) ∧ Below w.heap.size w w' :=
  (markQueue_any xl xb none 0 0 0 0 [] k 0 0 w (IOwn.none_ _ _ _ _ _) (Nat.zero_le _) (Nat.zero_le _) k0 (by omega)).mono fun e w' ⟨he, _, hc⟩ => ⟨by simpa using he, ⟨hc.os, hc.tape, hc.output, hc.size, fun k hk => hc.block k hk (.inr (Nat.zero_le _))⟩⟩
theorem heldNil (xl xb : Int) (k : Int) (w : World) (k0 : 0 ≤ k) (k1 : k ≤ 1000) :
    Calls Try.prog 30 #[.agg #[.int .i64 xl, .int .i64 xb, .slice none 0 0, .int .i64 0, .int .i64 0], .int .i64 k] w fun e w' => e = .returned (.int .i64 k) ∧ Below w.heap.size w w' :=
  (heldQueue_any xl xb none 0 0 0 0 k w (IRow.nil _ _) (Nat.zero_le _) k0 (by omega)).mono fun e w' ⟨he, hb⟩ => ⟨by simpa using he, hb⟩
set_option maxHeartbeats 1000000 in
theorem walk (li : Int) (_ : IB li) (by_ : Int) (_ : IB by_) (w : World) :
    Calls Try.prog 7 #[.int .i64 li, .int .i64 by_] w fun e w' => e = .returned (.bool true) ∧ Below w.heap.size w w' := by
  have HSP := Lib.hid (specNewQueue_any li by_)
  have HIM := Lib.hid (implNewQueue_any li by_)
  generalize qok li by_ [] 0 0 = ok at *
  generalize ifz ok li = xl at *
  generalize ifz ok by_ = xb at *
  go_enter Try.func7, Try.ntmps7
  go_wp2_with fail
  refine (HSP.out _).mono ?_
  rintro e w1 ⟨rfl, hb1⟩
  have z1 := hb1.size
  (try simp at z1)
  have HB_1 := Lib.hid (bt (b0 w) hb1)
  clear hb1
  go_wp2_with fail
  refine (HIM.out _).mono ?_
  rintro e w2 ⟨rfl, hb2⟩
  have z2 := hb2.size
  (try simp at z2)
  have HK_w0_2 : Hid (Bk w2 (w1.heap.size) 36 #[.int .i64 xl, .int .i64 xb, .slice none 0 0, .int .i64 0, .int .i64 0]) := Lib.hid ((Bk.new_ (by simp) : Bk _ (w1.heap.size) 36 #[.int .i64 xl, .int .i64 xb, .slice none 0 0, .int .i64 0, .int .i64 0]).old hb2)
  have zb_w0 : w1.heap.size < w2.heap.size := HK_w0_2.out.lt
  have cb_w0_0 : w2.cell? ⟨w1.heap.size, 0, none⟩ = some (.int .i64 xl) := HK_w0_2.out.cell 0
  have cb_w0_1 : w2.cell? ⟨w1.heap.size, 1, none⟩ = some (.int .i64 xb) := HK_w0_2.out.cell 1
  have cb_w0_2 : w2.cell? ⟨w1.heap.size, 2, none⟩ = some (.slice none 0 0) := HK_w0_2.out.cell 2
  have cb_w0_3 : w2.cell? ⟨w1.heap.size, 3, none⟩ = some (.int .i64 0) := HK_w0_2.out.cell 3
  have cb_w0_4 : w2.cell? ⟨w1.heap.size, 4, none⟩ = some (.int .i64 0) := HK_w0_2.out.cell 4
  have HB_2 := Lib.hid (bt (ba HB_1.out _) hb2)
  clear hb2
  go_wp2_with fail
  refine (eqQueue_any _ _ none none 0 0 0 _ _ [] _ rfl (IRow.nil _ _) (IRow.nil _ _) (by omega)).mono ?_
  rintro e w3 ⟨rfl, hb3⟩
  have z3 := hb3.size
  (try simp at z3)
  have HK_w0_3 : Hid (Bk w3 (w1.heap.size) 36 #[.int .i64 xl, .int .i64 xb, .slice none 0 0, .int .i64 0, .int .i64 0]) := Lib.hid ((HK_w0_2.out.alloc _).old hb3)
  clear HK_w0_2
  clear cb_w0_0 cb_w0_1 cb_w0_2 cb_w0_3 cb_w0_4 zb_w0
  have zb_w0 : w1.heap.size < w3.heap.size := HK_w0_3.out.lt
  have cb_w0_0 : w3.cell? ⟨w1.heap.size, 0, none⟩ = some (.int .i64 xl) := HK_w0_3.out.cell 0
  have cb_w0_1 : w3.cell? ⟨w1.heap.size, 1, none⟩ = some (.int .i64 xb) := HK_w0_3.out.cell 1
  have cb_w0_2 : w3.cell? ⟨w1.heap.size, 2, none⟩ = some (.slice none 0 0) := HK_w0_3.out.cell 2
  have cb_w0_3 : w3.cell? ⟨w1.heap.size, 3, none⟩ = some (.int .i64 0) := HK_w0_3.out.cell 3
  have cb_w0_4 : w3.cell? ⟨w1.heap.size, 4, none⟩ = some (.int .i64 0) := HK_w0_3.out.cell 4
  have HK_g0_3 : Hid (Bk w3 (w2.heap.size) 36 #[.int .i64 xl, .int .i64 xb, .slice none 0 0, .int .i64 0, .int .i64 0]) := Lib.hid ((Bk.new_ (by simp) : Bk _ (w2.heap.size) 36 #[.int .i64 xl, .int .i64 xb, .slice none 0 0, .int .i64 0, .int .i64 0]).old hb3)
  have zb_g0 : w2.heap.size < w3.heap.size := HK_g0_3.out.lt
  have cb_g0_0 : w3.cell? ⟨w2.heap.size, 0, none⟩ = some (.int .i64 xl) := HK_g0_3.out.cell 0
  have cb_g0_1 : w3.cell? ⟨w2.heap.size, 1, none⟩ = some (.int .i64 xb) := HK_g0_3.out.cell 1
  have cb_g0_2 : w3.cell? ⟨w2.heap.size, 2, none⟩ = some (.slice none 0 0) := HK_g0_3.out.cell 2
  have cb_g0_3 : w3.cell? ⟨w2.heap.size, 3, none⟩ = some (.int .i64 0) := HK_g0_3.out.cell 3
  have cb_g0_4 : w3.cell? ⟨w2.heap.size, 4, none⟩ = some (.int .i64 0) := HK_g0_3.out.cell 4
  have HB_3 := Lib.hid (bt (ba HB_2.out _) hb3)
  clear hb3
  go_wp2_with fail
  refine (markNil _ _ 1 _ (by omega) (by omega)).mono ?_
  rintro e w4 ⟨rfl, hb4⟩
  have z4 := hb4.size
  (try simp at z4)
  have HK_w0_4 : Hid (Bk w4 (w1.heap.size) 36 #[.int .i64 xl, .int .i64 xb, .slice none 0 0, .int .i64 0, .int .i64 0]) := Lib.hid (HK_w0_3.out.old hb4)
  clear HK_w0_3
  clear cb_w0_0 cb_w0_1 cb_w0_2 cb_w0_3 cb_w0_4 zb_w0
  have zb_w0 : w1.heap.size < w4.heap.size := HK_w0_4.out.lt
  have cb_w0_0 : w4.cell? ⟨w1.heap.size, 0, none⟩ = some (.int .i64 xl) := HK_w0_4.out.cell 0
  have cb_w0_1 : w4.cell? ⟨w1.heap.size, 1, none⟩ = some (.int .i64 xb) := HK_w0_4.out.cell 1
  have cb_w0_2 : w4.cell? ⟨w1.heap.size, 2, none⟩ = some (.slice none 0 0) := HK_w0_4.out.cell 2
  have cb_w0_3 : w4.cell? ⟨w1.heap.size, 3, none⟩ = some (.int .i64 0) := HK_w0_4.out.cell 3
  have cb_w0_4 : w4.cell? ⟨w1.heap.size, 4, none⟩ = some (.int .i64 0) := HK_w0_4.out.cell 4
  have HK_g0_4 : Hid (Bk w4 (w2.heap.size) 36 #[.int .i64 xl, .int .i64 xb, .slice none 0 0, .int .i64 0, .int .i64 0]) := Lib.hid (HK_g0_3.out.old hb4)
  clear HK_g0_3
  clear cb_g0_0 cb_g0_1 cb_g0_2 cb_g0_3 cb_g0_4 zb_g0
  have zb_g0 : w2.heap.size < w4.heap.size := HK_g0_4.out.lt
  have cb_g0_0 : w4.cell? ⟨w2.heap.size, 0, none⟩ = some (.int .i64 xl) := HK_g0_4.out.cell 0
  have cb_g0_1 : w4.cell? ⟨w2.heap.size, 1, none⟩ = some (.int .i64 xb) := HK_g0_4.out.cell 1
  have cb_g0_2 : w4.cell? ⟨w2.heap.size, 2, none⟩ = some (.slice none 0 0) := HK_g0_4.out.cell 2
  have cb_g0_3 : w4.cell? ⟨w2.heap.size, 3, none⟩ = some (.int .i64 0) := HK_g0_4.out.cell 3
  have cb_g0_4 : w4.cell? ⟨w2.heap.size, 4, none⟩ = some (.int .i64 0) := HK_g0_4.out.cell 4
  have HB_4 := Lib.hid (bt HB_3.out hb4)
  clear hb4
  go_wp2_with fail
  refine (heldNil _ _ 1 _ (by omega) (by omega)).mono ?_
  rintro e w5 ⟨rfl, hb5⟩
  have z5 := hb5.size
  (try simp at z5)
  have HK_w0_5 : Hid (Bk w5 (w1.heap.size) 36 #[.int .i64 xl, .int .i64 xb, .slice none 0 0, .int .i64 0, .int .i64 0]) := Lib.hid (HK_w0_4.out.old hb5)
  clear HK_w0_4
  clear cb_w0_0 cb_w0_1 cb_w0_2 cb_w0_3 cb_w0_4 zb_w0
  have zb_w0 : w1.heap.size < w5.heap.size := HK_w0_5.out.lt
  have cb_w0_0 : w5.cell? ⟨w1.heap.size, 0, none⟩ = some (.int .i64 xl) := HK_w0_5.out.cell 0
  have cb_w0_1 : w5.cell? ⟨w1.heap.size, 1, none⟩ = some (.int .i64 xb) := HK_w0_5.out.cell 1
  have cb_w0_2 : w5.cell? ⟨w1.heap.size, 2, none⟩ = some (.slice none 0 0) := HK_w0_5.out.cell 2
  have cb_w0_3 : w5.cell? ⟨w1.heap.size, 3, none⟩ = some (.int .i64 0) := HK_w0_5.out.cell 3
  have cb_w0_4 : w5.cell? ⟨w1.heap.size, 4, none⟩ = some (.int .i64 0) := HK_w0_5.out.cell 4
  have HK_g0_5 : Hid (Bk w5 (w2.heap.size) 36 #[.int .i64 xl, .int .i64 xb, .slice none 0 0, .int .i64 0, .int .i64 0]) := Lib.hid (HK_g0_4.out.old hb5)
  clear HK_g0_4
  clear cb_g0_0 cb_g0_1 cb_g0_2 cb_g0_3 cb_g0_4 zb_g0
  have zb_g0 : w2.heap.size < w5.heap.size := HK_g0_5.out.lt
  have cb_g0_0 : w5.cell? ⟨w2.heap.size, 0, none⟩ = some (.int .i64 xl) := HK_g0_5.out.cell 0
  have cb_g0_1 : w5.cell? ⟨w2.heap.size, 1, none⟩ = some (.int .i64 xb) := HK_g0_5.out.cell 1
  have cb_g0_2 : w5.cell? ⟨w2.heap.size, 2, none⟩ = some (.slice none 0 0) := HK_g0_5.out.cell 2
  have cb_g0_3 : w5.cell? ⟨w2.heap.size, 3, none⟩ = some (.int .i64 0) := HK_g0_5.out.cell 3
  have cb_g0_4 : w5.cell? ⟨w2.heap.size, 4, none⟩ = some (.int .i64 0) := HK_g0_5.out.cell 4
  have HB_5 := Lib.hid (bt HB_4.out hb5)
  clear hb5
  go_wp2_with fail
  refine (HIM.out _).mono ?_
  rintro e w6 ⟨rfl, hb6⟩
  have z6 := hb6.size
  (try simp at z6)
  have HK_w0_6 : Hid (Bk w6 (w1.heap.size) 36 #[.int .i64 xl, .int .i64 xb, .slice none 0 0, .int .i64 0, .int .i64 0]) := Lib.hid (HK_w0_5.out.old hb6)
  clear HK_w0_5
  clear cb_w0_0 cb_w0_1 cb_w0_2 cb_w0_3 cb_w0_4 zb_w0
  have zb_w0 : w1.heap.size < w6.heap.size := HK_w0_6.out.lt
  have cb_w0_0 : w6.cell? ⟨w1.heap.size, 0, none⟩ = some (.int .i64 xl) := HK_w0_6.out.cell 0
  have cb_w0_1 : w6.cell? ⟨w1.heap.size, 1, none⟩ = some (.int .i64 xb) := HK_w0_6.out.cell 1
  have cb_w0_2 : w6.cell? ⟨w1.heap.size, 2, none⟩ = some (.slice none 0 0) := HK_w0_6.out.cell 2
  have cb_w0_3 : w6.cell? ⟨w1.heap.size, 3, none⟩ = some (.int .i64 0) := HK_w0_6.out.cell 3
  have cb_w0_4 : w6.cell? ⟨w1.heap.size, 4, none⟩ = some (.int .i64 0) := HK_w0_6.out.cell 4
  have HK_g0_6 : Hid (Bk w6 (w2.heap.size) 36 #[.int .i64 xl, .int .i64 xb, .slice none 0 0, .int .i64 0, .int .i64 0]) := Lib.hid (HK_g0_5.out.old hb6)
  clear HK_g0_5
  clear cb_g0_0 cb_g0_1 cb_g0_2 cb_g0_3 cb_g0_4 zb_g0
  have zb_g0 : w2.heap.size < w6.heap.size := HK_g0_6.out.lt
  have cb_g0_0 : w6.cell? ⟨w2.heap.size, 0, none⟩ = some (.int .i64 xl) := HK_g0_6.out.cell 0
  have cb_g0_1 : w6.cell? ⟨w2.heap.size, 1, none⟩ = some (.int .i64 xb) := HK_g0_6.out.cell 1
  have cb_g0_2 : w6.cell? ⟨w2.heap.size, 2, none⟩ = some (.slice none 0 0) := HK_g0_6.out.cell 2
  have cb_g0_3 : w6.cell? ⟨w2.heap.size, 3, none⟩ = some (.int .i64 0) := HK_g0_6.out.cell 3
  have cb_g0_4 : w6.cell? ⟨w2.heap.size, 4, none⟩ = some (.int .i64 0) := HK_g0_6.out.cell 4
  have HB_6 := Lib.hid (bt HB_5.out hb6)
  clear hb6
  go_wp2_with fail
  refine (eqQueue_any _ _ none none 0 0 0 _ _ [] _ rfl (IRow.nil _ _) (IRow.nil _ _) (by omega)).mono ?_
  rintro e w7 ⟨rfl, hb7⟩
  have z7 := hb7.size
  (try simp at z7)
  have HK_w0_7 : Hid (Bk w7 (w1.heap.size) 36 #[.int .i64 xl, .int .i64 xb, .slice none 0 0, .int .i64 0, .int .i64 0]) := Lib.hid ((HK_w0_6.out.alloc _).old hb7)
  clear HK_w0_6
  clear cb_w0_0 cb_w0_1 cb_w0_2 cb_w0_3 cb_w0_4 zb_w0
  have zb_w0 : w1.heap.size < w7.heap.size := HK_w0_7.out.lt
  have cb_w0_0 : w7.cell? ⟨w1.heap.size, 0, none⟩ = some (.int .i64 xl) := HK_w0_7.out.cell 0
  have cb_w0_1 : w7.cell? ⟨w1.heap.size, 1, none⟩ = some (.int .i64 xb) := HK_w0_7.out.cell 1
  have cb_w0_2 : w7.cell? ⟨w1.heap.size, 2, none⟩ = some (.slice none 0 0) := HK_w0_7.out.cell 2
  have cb_w0_3 : w7.cell? ⟨w1.heap.size, 3, none⟩ = some (.int .i64 0) := HK_w0_7.out.cell 3
  have cb_w0_4 : w7.cell? ⟨w1.heap.size, 4, none⟩ = some (.int .i64 0) := HK_w0_7.out.cell 4
  have HK_g0_7 : Hid (Bk w7 (w2.heap.size) 36 #[.int .i64 xl, .int .i64 xb, .slice none 0 0, .int .i64 0, .int .i64 0]) := Lib.hid ((HK_g0_6.out.alloc _).old hb7)
  clear HK_g0_6
  clear cb_g0_0 cb_g0_1 cb_g0_2 cb_g0_3 cb_g0_4 zb_g0
  have zb_g0 : w2.heap.size < w7.heap.size := HK_g0_7.out.lt
  have cb_g0_0 : w7.cell? ⟨w2.heap.size, 0, none⟩ = some (.int .i64 xl) := HK_g0_7.out.cell 0
  have cb_g0_1 : w7.cell? ⟨w2.heap.size, 1, none⟩ = some (.int .i64 xb) := HK_g0_7.out.cell 1
  have cb_g0_2 : w7.cell? ⟨w2.heap.size, 2, none⟩ = some (.slice none 0 0) := HK_g0_7.out.cell 2
  have cb_g0_3 : w7.cell? ⟨w2.heap.size, 3, none⟩ = some (.int .i64 0) := HK_g0_7.out.cell 3
  have cb_g0_4 : w7.cell? ⟨w2.heap.size, 4, none⟩ = some (.int .i64 0) := HK_g0_7.out.cell 4
  have HK_h0_7 : Hid (Bk w7 (w6.heap.size) 36 #[.int .i64 xl, .int .i64 xb, .slice none 0 0, .int .i64 0, .int .i64 0]) := Lib.hid ((Bk.new_ (by simp) : Bk _ (w6.heap.size) 36 #[.int .i64 xl, .int .i64 xb, .slice none 0 0, .int .i64 0, .int .i64 0]).old hb7)
  have zb_h0 : w6.heap.size < w7.heap.size := HK_h0_7.out.lt
  have cb_h0_0 : w7.cell? ⟨w6.heap.size, 0, none⟩ = some (.int .i64 xl) := HK_h0_7.out.cell 0
  have cb_h0_1 : w7.cell? ⟨w6.heap.size, 1, none⟩ = some (.int .i64 xb) := HK_h0_7.out.cell 1
  have cb_h0_2 : w7.cell? ⟨w6.heap.size, 2, none⟩ = some (.slice none 0 0) := HK_h0_7.out.cell 2
  have cb_h0_3 : w7.cell? ⟨w6.heap.size, 3, none⟩ = some (.int .i64 0) := HK_h0_7.out.cell 3
  have cb_h0_4 : w7.cell? ⟨w6.heap.size, 4, none⟩ = some (.int .i64 0) := HK_h0_7.out.cell 4
  have HB_7 := Lib.hid (bt (ba HB_6.out _) hb7)
  clear hb7
  go_wp2_with fail
  refine (heldNil _ _ 1 _ (by omega) (by omega)).mono ?_
  rintro e w8 ⟨rfl, hb8⟩
  have z8 := hb8.size
  (try simp at z8)
  have HK_w0_8 : Hid (Bk w8 (w1.heap.size) 36 #[.int .i64 xl, .int .i64 xb, .slice none 0 0, .int .i64 0, .int .i64 0]) := Lib.hid (HK_w0_7.out.old hb8)
  clear HK_w0_7
  clear cb_w0_0 cb_w0_1 cb_w0_2 cb_w0_3 cb_w0_4 zb_w0
  have zb_w0 : w1.heap.size < w8.heap.size := HK_w0_8.out.lt
  have cb_w0_0 : w8.cell? ⟨w1.heap.size, 0, none⟩ = some (.int .i64 xl) := HK_w0_8.out.cell 0
  have cb_w0_1 : w8.cell? ⟨w1.heap.size, 1, none⟩ = some (.int .i64 xb) := HK_w0_8.out.cell 1
  have cb_w0_2 : w8.cell? ⟨w1.heap.size, 2, none⟩ = some (.slice none 0 0) := HK_w0_8.out.cell 2
  have cb_w0_3 : w8.cell? ⟨w1.heap.size, 3, none⟩ = some (.int .i64 0) := HK_w0_8.out.cell 3
  have cb_w0_4 : w8.cell? ⟨w1.heap.size, 4, none⟩ = some (.int .i64 0) := HK_w0_8.out.cell 4
  have HK_g0_8 : Hid (Bk w8 (w2.heap.size) 36 #[.int .i64 xl, .int .i64 xb, .slice none 0 0, .int .i64 0, .int .i64 0]) := Lib.hid (HK_g0_7.out.old hb8)
  clear HK_g0_7
  clear cb_g0_0 cb_g0_1 cb_g0_2 cb_g0_3 cb_g0_4 zb_g0
  have zb_g0 : w2.heap.size < w8.heap.size := HK_g0_8.out.lt
  have cb_g0_0 : w8.cell? ⟨w2.heap.size, 0, none⟩ = some (.int .i64 xl) := HK_g0_8.out.cell 0
  have cb_g0_1 : w8.cell? ⟨w2.heap.size, 1, none⟩ = some (.int .i64 xb) := HK_g0_8.out.cell 1
  have cb_g0_2 : w8.cell? ⟨w2.heap.size, 2, none⟩ = some (.slice none 0 0) := HK_g0_8.out.cell 2
  have cb_g0_3 : w8.cell? ⟨w2.heap.size, 3, none⟩ = some (.int .i64 0) := HK_g0_8.out.cell 3
  have cb_g0_4 : w8.cell? ⟨w2.heap.size, 4, none⟩ = some (.int .i64 0) := HK_g0_8.out.cell 4
  have HK_h0_8 : Hid (Bk w8 (w6.heap.size) 36 #[.int .i64 xl, .int .i64 xb, .slice none 0 0, .int .i64 0, .int .i64 0]) := Lib.hid (HK_h0_7.out.old hb8)
  clear HK_h0_7
  clear cb_h0_0 cb_h0_1 cb_h0_2 cb_h0_3 cb_h0_4 zb_h0
  have zb_h0 : w6.heap.size < w8.heap.size := HK_h0_8.out.lt
  have cb_h0_0 : w8.cell? ⟨w6.heap.size, 0, none⟩ = some (.int .i64 xl) := HK_h0_8.out.cell 0
  have cb_h0_1 : w8.cell? ⟨w6.heap.size, 1, none⟩ = some (.int .i64 xb) := HK_h0_8.out.cell 1
  have cb_h0_2 : w8.cell? ⟨w6.heap.size, 2, none⟩ = some (.slice none 0 0) := HK_h0_8.out.cell 2
  have cb_h0_3 : w8.cell? ⟨w6.heap.size, 3, none⟩ = some (.int .i64 0) := HK_h0_8.out.cell 3
  have cb_h0_4 : w8.cell? ⟨w6.heap.size, 4, none⟩ = some (.int .i64 0) := HK_h0_8.out.cell 4
  have HB_8 := Lib.hid (bt HB_7.out hb8)
  clear hb8
  go_wp2_with fail
  go_ret
  exact ⟨rfl, HB_8.out⟩
theorem own : ownKnob Try.prog.godebug = none := by kernel_rfl
theorem laidOut : laidOutB Try.prog = true := by kernel_rfl
set_option maxRecDepth 100000 in
theorem lifted (os : Os) (started : os.Started) (H : Type) (enc : TypeId × Value → H) :
    ReturnsInHanded {} Try.checked os 7 .any (Rows.fnExactNewQueueSpec.pre6 enc Try.prog Try.f7 Rows.fnExactNewQueueRow.domain false) (Rows.fnExactNewQueueSpec.post enc Try.prog Try.f7 false true false false) := by
  refine returnsInHanded_of_change (C := Try.checked) own started (by kernel_rfl) Try.func7
    (ChangeSpec.witness6 (enc := enc) (C := Try.checked) false ⟨#[], #[.int .i64 0, .int .i64 0], []⟩ 8 (by kernel_rfl) (by kernel_rfl) (by kernel_rfl) (by kernel_rfl)) ?_
  intro W base args ds gs before hval0 hW hcnd _
  have hval : ∀ (j : Nat) t v, Try.f7.params[j]? = some t → args[j]? = some v → Value.okWide Try.prog W .any base t v := hval0
  have hW' := hW
  obtain ⟨p, q, hA0, hV, rfl, hfz, hnd⟩ := hW
  have hA : DataW.TrodAll enc Try.prog W 0 (fun _ => true) true Try.f7.params.toList args.toList ds p := hA0
  rw [Try.params7] at hA hval
  obtain ⟨v0, vs0, d0, ds0, p0, q0, hargs, rfl, rfl, h0, r0⟩ := trodAll_cons hA
  obtain ⟨v1, vs1, d1, ds1, p1, q1, rfl, rfl, rfl, h1, r1⟩ := trodAll_cons r0
  obtain ⟨rfl, rfl, rfl⟩ := trodAll_nil r1
  obtain rfl : args = #[v0, v1] := by cases args; simp_all
  obtain ⟨rfl, rfl⟩ := trodVars_none hV
  have k0 := h0
  have lt0 : ∀ x ∈ p0, x.block < W.heap.size := by obtain ⟨m, hm⟩ := k0; exact DataW.trod_lt m _ _ _ hm
  have k1 := h1
  have lt1 : ∀ x ∈ p1, x.block < W.heap.size := by obtain ⟨m, hm⟩ := k1; exact DataW.trod_lt m _ _ _ hm
  obtain ⟨a0, rfl, rfl, rfl, wf0⟩ := open_int Try.underlying3 (hval 0 3 v0 rfl rfl) h0
  obtain ⟨a1, rfl, rfl, rfl, wf1⟩ := open_int Try.underlying3 (hval 1 3 v1 rfl rfl) h1
  clear hA0 hval0
  refine (walk a0 (ibounds wf0) a1 (ibounds wf1) W).mono fun e W' ⟨he, bel⟩ => ?_
  subst he
  exact ⟨_, rfl, _, _, _, [], _, [], hW', trodAll_mk1 (shut_bool Try.underlying4 _), (trodAll_cons_mk (Below.trod laidOut (by kernel_rfl) (of_decide_eq_true (by kernel_rfl)) k0 bel lt0) (trodAll_cons_mk (Below.trod laidOut (by kernel_rfl) (of_decide_eq_true (by kernel_rfl)) k1 bel lt1) trodAll_mk0)), rfl, bel.frame _, fun h => by cases h⟩
theorem over : Rows.fnExactNewQueueRow.holds Try.pinned (OpenSpec.ofChange Rows.fnExactNewQueueSpec) :=
  OpenClaim.holds_of_wide 7 Try.f7 rfl rfl rfl rfl rfl rfl rfl ⟨rfl, rfl, rfl, rfl, rfl⟩ rfl rfl rfl rfl rfl (by kernel_rfl) Try.func7 (by kernel_rfl)
    (of_decide_eq_true (by kernel_rfl)) (by unfold Func.isWrapper; first | (rw [if_pos (by decide +kernel)]; kernel_rfl) | (rw [if_neg (by decide +kernel)]; exact ⟨rfl, rfl⟩))
    (fun os started H enc _ => lifted os started H enc)
/-- The given statement. -/
theorem proved : Rows.FnExactNewQueueSaid := over
#print axioms proved
end Go.Proofs.Ytgcbpooflecbpaa.lawNewQueue
