/- The statement FnExactRunBucketSaid: for every input the law FnExactRunBucket returns true, and its arguments read as before. No condition. -/
import Derived.Test.YtleknfigikpacaaConf
namespace Go.Proofs.Ytleknfigikpacaa.lawRunBucket
open Go.ChangeShapes Go.WideShapes Go.ChangeAt Go.RowKit
set_option linter.unusedVariables false
theorem _root_.Go.Proofs.Ytleknfigikpacaa.BOwn.old {w w' : World} {lo hi e s : Nat} {A : Option Addr} {n cap : Nat} {l : List Bool} (h : BOwn w lo hi e s A n cap l) (hb : Below w.heap.size w w') : BOwn w' lo hi e s A n cap l := h.keep fun k _ _ h3 => hb.block k h3
theorem rbl_len {r c t : Int} {l : List Int} {n : Nat} : (rbl (rbok r c t l n) (snts r c t l n)).length = rbn (rbok r c t l n) n := by
  unfold rbl rbn
  split <;> simp [snts_len]
theorem rbn_le (b : Bool) (n : Nat) : rbn b n ≤ n := by unfold rbn; split <;> omega
theorem szC (A : Option Addr) (n cap : Nat) (w : World) (hn : n ≤ 9223372036854775807) :
    Calls Try.prog 30 #[.slice A n cap, .int .i64 1048576] w fun e w' => e = .returned (.int .i64 (if n ≤ 1048576 then 1048576 - (n : Int) else -1)) ∧ w = w' := by
  by_cases h : n ≤ 1048576
  · have h' : ¬ (1048576 : Int) < n := by omega
    have hR := Lib.hid (show (if n ≤ 1048576 then 1048576 - (n : Int) else -1) = 1048576 - (n : Int) by simp [h])
    go_enter Try.func30, Try.ntmps30
    go_wp2_with fail
    go_ret
    exact ⟨rfl, rfl⟩
  · have h' : (1048576 : Int) < n := by omega
    have hR := Lib.hid (show (if n ≤ 1048576 then 1048576 - (n : Int) else -1) = -1 by simp [h])
    go_enter Try.func30, Try.ntmps30
    go_wp2_with fail
    go_ret
    exact ⟨rfl, rfl⟩
set_option maxHeartbeats 2000000 in
theorem walk (w : World) (r : Int) (_ : IB r) (c : Int) (_ : IB c) (t : Int) (_ : IB t) (A : Option Addr) (n cap : Nat) (l : List Int) (h : IRow w A l ∧ l.length = n * 2 ∧ n ≤ 9223372036854775807 ∧ IBs l) :
    Calls Try.prog 13 #[.agg #[.int .i64 r, .int .i64 c, .int .i64 t], .slice A n cap] w fun e w' => e = .returned (.bool true) ∧ Below w.heap.size w w' := by
  obtain ⟨hr, hl, hn, _⟩ := h
  have HL := Lib.hid hl
  have HR_a := Lib.hid hr
  have HLB := Lib.hid (rbl_len (r := r) (c := c) (t := t) (l := l) (n := n))
  have hrb := rbn_le (rbok r c t l n) n
  have HSP := Lib.hid (fun (A : Option Addr) (cap : Nat) (w : World) (hr : IRow w A l) (hn : n ≤ 1099511627776) => specRunBucket_any r c t A n cap l w hl hr hn)
  have HIM := Lib.hid (fun (A : Option Addr) (cap : Nat) (w : World) (hr : IRow w A l) (hn : n ≤ 1099511627776) => implRunBucket_any r c t A n cap l w hl hr hn)
  unfold NewRB at HSP HIM
  clear hl hr
  by_cases hbig : n ≤ 1048576
  rotate_left
  · go_enter Try.func13, Try.ntmps13
    go_wp2_with fail
    refine (szC _ _ _ _ hn).mono ?_
    rw [if_neg hbig]
    rintro e w' ⟨rfl, rfl⟩
    go_wp2_with fail
    go_ret
    exact ⟨rfl, (by repeat (first | (with_reducible exact b0 _) | (with_reducible refine ba ?_ _) | (with_reducible refine bd ?_ _) | (with_reducible refine Below.drew ?_) | (with_reducible refine bs ?_ (by first | exact Nat.le_refl _ | exact Nat.le_add_right _ _ | omega) _) | (with_reducible refine bt ?_ (by assumption))))⟩
  go_enter Try.func13, Try.ntmps13
  go_wp2_with fail
  refine (szC _ _ _ _ hn).mono ?_
  rw [if_pos hbig]
  rintro e w' ⟨rfl, rfl⟩
  generalize rbok r c t l n = ok at *
  generalize rbl ok (snts r c t l n) = lb at *
  generalize rbx ok r = xr at *
  generalize rbx ok c = xc at *
  generalize rbx ok (tkn r c t l n) = xt at *
  generalize rbn ok n = m at *
  go_wp2_with fail
  refine (toBucket_any _ _ _ _).mono ?_
  rintro e w1 ⟨rfl, hb1⟩
  have z1 := hb1.size
  (try simp at z1)
  have HK_b_1 : Hid (Bk w1 (w.heap.size) 23 #[.int .i64 r, .int .i64 c, .int .i64 t]) := Lib.hid ((Bk.new_ (by simp) : Bk _ (w.heap.size) 23 #[.int .i64 r, .int .i64 c, .int .i64 t]).old hb1)
  have zb_b : w.heap.size < w1.heap.size := HK_b_1.out.lt
  have cb_b_0 : w1.cell? ⟨w.heap.size, 0, none⟩ = some (.int .i64 r) := HK_b_1.out.cell 0
  have cb_b_1 : w1.cell? ⟨w.heap.size, 1, none⟩ = some (.int .i64 c) := HK_b_1.out.cell 1
  have cb_b_2 : w1.cell? ⟨w.heap.size, 2, none⟩ = some (.int .i64 t) := HK_b_1.out.cell 2
  have HB_1 := Lib.hid (bt (ba (b0 w) _) hb1)
  clear hb1
  go_wp2_with fail
  refine (toSendS_any A n cap l _ HL.out (HR_a.out.below HB_1.out) (by omega)).mono ?_
  rintro e w2 ⟨A_s, n_s, cap_s, rfl, ho_s, hb2⟩
  have HN_s := Lib.hid ho_s.len
  have HO_s_2 := Lib.hid ho_s
  clear ho_s
  have z2 := hb2.size
  (try simp at z2)
  have HK_b_2 : Hid (Bk w2 (w.heap.size) 23 #[.int .i64 r, .int .i64 c, .int .i64 t]) := Lib.hid (HK_b_1.out.old hb2)
  clear HK_b_1
  clear cb_b_0 cb_b_1 cb_b_2 zb_b
  have zb_b : w.heap.size < w2.heap.size := HK_b_2.out.lt
  have cb_b_0 : w2.cell? ⟨w.heap.size, 0, none⟩ = some (.int .i64 r) := HK_b_2.out.cell 0
  have cb_b_1 : w2.cell? ⟨w.heap.size, 1, none⟩ = some (.int .i64 c) := HK_b_2.out.cell 1
  have cb_b_2 : w2.cell? ⟨w.heap.size, 2, none⟩ = some (.int .i64 t) := HK_b_2.out.cell 2
  have HB_2 := Lib.hid (bt HB_1.out hb2)
  clear hb2
  obtain rfl : n_s = n := by have := HN_s.out; have := HL.out; omega
  go_wp2_with fail
  refine (HSP.out _ _ _ HO_s_2.out.row (by omega)).mono ?_
  rintro e w3 ⟨A_v, cap_v, rfl, ho_v, hb3⟩
  have HN_v := Lib.hid ho_v.len
  have HO_v_3 := Lib.hid ho_v
  clear ho_v
  have z3 := hb3.size
  (try simp at z3)
  have HK_b_3 : Hid (Bk w3 (w.heap.size) 23 #[.int .i64 r, .int .i64 c, .int .i64 t]) := Lib.hid (HK_b_2.out.old hb3)
  clear HK_b_2
  clear cb_b_0 cb_b_1 cb_b_2 zb_b
  have zb_b : w.heap.size < w3.heap.size := HK_b_3.out.lt
  have cb_b_0 : w3.cell? ⟨w.heap.size, 0, none⟩ = some (.int .i64 r) := HK_b_3.out.cell 0
  have cb_b_1 : w3.cell? ⟨w.heap.size, 1, none⟩ = some (.int .i64 c) := HK_b_3.out.cell 1
  have cb_b_2 : w3.cell? ⟨w.heap.size, 2, none⟩ = some (.int .i64 t) := HK_b_3.out.cell 2
  have HO_s_3 := Lib.hid (HO_s_2.out.old hb3)
  clear HO_s_2
  have HB_3 := Lib.hid (bt HB_2.out hb3)
  clear hb3
  go_wp2_with fail
  refine (toSendS_any A _ cap l _ HL.out (HR_a.out.below (ba HB_3.out _)) (by omega)).mono ?_
  rintro e w4 ⟨A_x, n_x, cap_x, rfl, ho_x, hb4⟩
  have HN_x := Lib.hid ho_x.len
  have HO_x_4 := Lib.hid ho_x
  clear ho_x
  have z4 := hb4.size
  (try simp at z4)
  have HK_b_4 : Hid (Bk w4 (w.heap.size) 23 #[.int .i64 r, .int .i64 c, .int .i64 t]) := Lib.hid ((HK_b_3.out.alloc _).old hb4)
  clear HK_b_3
  clear cb_b_0 cb_b_1 cb_b_2 zb_b
  have zb_b : w.heap.size < w4.heap.size := HK_b_4.out.lt
  have cb_b_0 : w4.cell? ⟨w.heap.size, 0, none⟩ = some (.int .i64 r) := HK_b_4.out.cell 0
  have cb_b_1 : w4.cell? ⟨w.heap.size, 1, none⟩ = some (.int .i64 c) := HK_b_4.out.cell 1
  have cb_b_2 : w4.cell? ⟨w.heap.size, 2, none⟩ = some (.int .i64 t) := HK_b_4.out.cell 2
  have HK_w0_4 : Hid (Bk w4 (w3.heap.size) 25 #[.int .i64 xr, .int .i64 xc, .int .i64 xt]) := Lib.hid ((Bk.new_ (by simp) : Bk _ (w3.heap.size) 25 #[.int .i64 xr, .int .i64 xc, .int .i64 xt]).old hb4)
  have zb_w0 : w3.heap.size < w4.heap.size := HK_w0_4.out.lt
  have cb_w0_0 : w4.cell? ⟨w3.heap.size, 0, none⟩ = some (.int .i64 xr) := HK_w0_4.out.cell 0
  have cb_w0_1 : w4.cell? ⟨w3.heap.size, 1, none⟩ = some (.int .i64 xc) := HK_w0_4.out.cell 1
  have cb_w0_2 : w4.cell? ⟨w3.heap.size, 2, none⟩ = some (.int .i64 xt) := HK_w0_4.out.cell 2
  have HO_s_4 := Lib.hid ((HO_s_3.out.alloc _).old hb4)
  clear HO_s_3
  have HO_v_4 := Lib.hid ((HO_v_3.out.alloc _).old hb4)
  clear HO_v_3
  have HB_4 := Lib.hid (bt (ba HB_3.out _) hb4)
  clear hb4
  obtain rfl : n_x = n_s := by have := HN_x.out; have := HL.out; omega
  go_wp2_with fail
  refine (toBucket_any _ _ _ _).mono ?_
  rintro e w5 ⟨rfl, hb5⟩
  have z5 := hb5.size
  (try simp at z5)
  have HK_b_5 : Hid (Bk w5 (w.heap.size) 23 #[.int .i64 r, .int .i64 c, .int .i64 t]) := Lib.hid (HK_b_4.out.old hb5)
  clear HK_b_4
  clear cb_b_0 cb_b_1 cb_b_2 zb_b
  have zb_b : w.heap.size < w5.heap.size := HK_b_5.out.lt
  have cb_b_0 : w5.cell? ⟨w.heap.size, 0, none⟩ = some (.int .i64 r) := HK_b_5.out.cell 0
  have cb_b_1 : w5.cell? ⟨w.heap.size, 1, none⟩ = some (.int .i64 c) := HK_b_5.out.cell 1
  have cb_b_2 : w5.cell? ⟨w.heap.size, 2, none⟩ = some (.int .i64 t) := HK_b_5.out.cell 2
  have HK_w0_5 : Hid (Bk w5 (w3.heap.size) 25 #[.int .i64 xr, .int .i64 xc, .int .i64 xt]) := Lib.hid (HK_w0_4.out.old hb5)
  clear HK_w0_4
  clear cb_w0_0 cb_w0_1 cb_w0_2 zb_w0
  have zb_w0 : w3.heap.size < w5.heap.size := HK_w0_5.out.lt
  have cb_w0_0 : w5.cell? ⟨w3.heap.size, 0, none⟩ = some (.int .i64 xr) := HK_w0_5.out.cell 0
  have cb_w0_1 : w5.cell? ⟨w3.heap.size, 1, none⟩ = some (.int .i64 xc) := HK_w0_5.out.cell 1
  have cb_w0_2 : w5.cell? ⟨w3.heap.size, 2, none⟩ = some (.int .i64 xt) := HK_w0_5.out.cell 2
  have HO_s_5 := Lib.hid (HO_s_4.out.old hb5)
  clear HO_s_4
  have HO_v_5 := Lib.hid (HO_v_4.out.old hb5)
  clear HO_v_4
  have HO_x_5 := Lib.hid (HO_x_4.out.old hb5)
  clear HO_x_4
  have HB_5 := Lib.hid (bt HB_4.out hb5)
  clear hb5
  go_wp2_with fail
  refine (HIM.out _ _ _ HO_x_5.out.row (by omega)).mono ?_
  rintro e w6 ⟨A_g, cap_g, rfl, ho_g, hb6⟩
  have HN_g := Lib.hid ho_g.len
  have HO_g_6 := Lib.hid ho_g
  clear ho_g
  have z6 := hb6.size
  (try simp at z6)
  have HK_b_6 : Hid (Bk w6 (w.heap.size) 23 #[.int .i64 r, .int .i64 c, .int .i64 t]) := Lib.hid (HK_b_5.out.old hb6)
  clear HK_b_5
  clear cb_b_0 cb_b_1 cb_b_2 zb_b
  have zb_b : w.heap.size < w6.heap.size := HK_b_6.out.lt
  have cb_b_0 : w6.cell? ⟨w.heap.size, 0, none⟩ = some (.int .i64 r) := HK_b_6.out.cell 0
  have cb_b_1 : w6.cell? ⟨w.heap.size, 1, none⟩ = some (.int .i64 c) := HK_b_6.out.cell 1
  have cb_b_2 : w6.cell? ⟨w.heap.size, 2, none⟩ = some (.int .i64 t) := HK_b_6.out.cell 2
  have HK_w0_6 : Hid (Bk w6 (w3.heap.size) 25 #[.int .i64 xr, .int .i64 xc, .int .i64 xt]) := Lib.hid (HK_w0_5.out.old hb6)
  clear HK_w0_5
  clear cb_w0_0 cb_w0_1 cb_w0_2 zb_w0
  have zb_w0 : w3.heap.size < w6.heap.size := HK_w0_6.out.lt
  have cb_w0_0 : w6.cell? ⟨w3.heap.size, 0, none⟩ = some (.int .i64 xr) := HK_w0_6.out.cell 0
  have cb_w0_1 : w6.cell? ⟨w3.heap.size, 1, none⟩ = some (.int .i64 xc) := HK_w0_6.out.cell 1
  have cb_w0_2 : w6.cell? ⟨w3.heap.size, 2, none⟩ = some (.int .i64 xt) := HK_w0_6.out.cell 2
  have HO_s_6 := Lib.hid (HO_s_5.out.old hb6)
  clear HO_s_5
  have HO_v_6 := Lib.hid (HO_v_5.out.old hb6)
  clear HO_v_5
  have HO_x_6 := Lib.hid (HO_x_5.out.old hb6)
  clear HO_x_5
  have HB_6 := Lib.hid (bt HB_5.out hb6)
  clear hb6
  go_wp2_with fail
  refine (eqBucket_any _ _ _ _).mono ?_
  rintro e w7 ⟨rfl, hb7⟩
  have z7 := hb7.size
  (try simp at z7)
  have HK_b_7 : Hid (Bk w7 (w.heap.size) 23 #[.int .i64 r, .int .i64 c, .int .i64 t]) := Lib.hid ((HK_b_6.out.alloc _).old hb7)
  clear HK_b_6
  clear cb_b_0 cb_b_1 cb_b_2 zb_b
  have zb_b : w.heap.size < w7.heap.size := HK_b_7.out.lt
  have cb_b_0 : w7.cell? ⟨w.heap.size, 0, none⟩ = some (.int .i64 r) := HK_b_7.out.cell 0
  have cb_b_1 : w7.cell? ⟨w.heap.size, 1, none⟩ = some (.int .i64 c) := HK_b_7.out.cell 1
  have cb_b_2 : w7.cell? ⟨w.heap.size, 2, none⟩ = some (.int .i64 t) := HK_b_7.out.cell 2
  have HK_w0_7 : Hid (Bk w7 (w3.heap.size) 25 #[.int .i64 xr, .int .i64 xc, .int .i64 xt]) := Lib.hid ((HK_w0_6.out.alloc _).old hb7)
  clear HK_w0_6
  clear cb_w0_0 cb_w0_1 cb_w0_2 zb_w0
  have zb_w0 : w3.heap.size < w7.heap.size := HK_w0_7.out.lt
  have cb_w0_0 : w7.cell? ⟨w3.heap.size, 0, none⟩ = some (.int .i64 xr) := HK_w0_7.out.cell 0
  have cb_w0_1 : w7.cell? ⟨w3.heap.size, 1, none⟩ = some (.int .i64 xc) := HK_w0_7.out.cell 1
  have cb_w0_2 : w7.cell? ⟨w3.heap.size, 2, none⟩ = some (.int .i64 xt) := HK_w0_7.out.cell 2
  have HK_g0_7 : Hid (Bk w7 (w6.heap.size) 25 #[.int .i64 xr, .int .i64 xc, .int .i64 xt]) := Lib.hid ((Bk.new_ (by simp) : Bk _ (w6.heap.size) 25 #[.int .i64 xr, .int .i64 xc, .int .i64 xt]).old hb7)
  have zb_g0 : w6.heap.size < w7.heap.size := HK_g0_7.out.lt
  have cb_g0_0 : w7.cell? ⟨w6.heap.size, 0, none⟩ = some (.int .i64 xr) := HK_g0_7.out.cell 0
  have cb_g0_1 : w7.cell? ⟨w6.heap.size, 1, none⟩ = some (.int .i64 xc) := HK_g0_7.out.cell 1
  have cb_g0_2 : w7.cell? ⟨w6.heap.size, 2, none⟩ = some (.int .i64 xt) := HK_g0_7.out.cell 2
  have HO_s_7 := Lib.hid ((HO_s_6.out.alloc _).old hb7)
  clear HO_s_6
  have HO_v_7 := Lib.hid ((HO_v_6.out.alloc _).old hb7)
  clear HO_v_6
  have HO_x_7 := Lib.hid ((HO_x_6.out.alloc _).old hb7)
  clear HO_x_6
  have HO_g_7 := Lib.hid ((HO_g_6.out.alloc _).old hb7)
  clear HO_g_6
  have HB_7 := Lib.hid (bt (ba HB_6.out _) hb7)
  clear hb7
  go_wp2_with fail
  refine (eqBoolS_any _ _ _ _ _ lb _ HLB.out (by omega) HO_g_7.out.row HO_v_7.out.row).mono ?_
  rintro e w8 ⟨rfl, hb8⟩
  have z8 := hb8.size
  (try simp at z8)
  have HK_b_8 : Hid (Bk w8 (w.heap.size) 23 #[.int .i64 r, .int .i64 c, .int .i64 t]) := Lib.hid (HK_b_7.out.old hb8)
  clear HK_b_7
  clear cb_b_0 cb_b_1 cb_b_2 zb_b
  have zb_b : w.heap.size < w8.heap.size := HK_b_8.out.lt
  have cb_b_0 : w8.cell? ⟨w.heap.size, 0, none⟩ = some (.int .i64 r) := HK_b_8.out.cell 0
  have cb_b_1 : w8.cell? ⟨w.heap.size, 1, none⟩ = some (.int .i64 c) := HK_b_8.out.cell 1
  have cb_b_2 : w8.cell? ⟨w.heap.size, 2, none⟩ = some (.int .i64 t) := HK_b_8.out.cell 2
  have HK_w0_8 : Hid (Bk w8 (w3.heap.size) 25 #[.int .i64 xr, .int .i64 xc, .int .i64 xt]) := Lib.hid (HK_w0_7.out.old hb8)
  clear HK_w0_7
  clear cb_w0_0 cb_w0_1 cb_w0_2 zb_w0
  have zb_w0 : w3.heap.size < w8.heap.size := HK_w0_8.out.lt
  have cb_w0_0 : w8.cell? ⟨w3.heap.size, 0, none⟩ = some (.int .i64 xr) := HK_w0_8.out.cell 0
  have cb_w0_1 : w8.cell? ⟨w3.heap.size, 1, none⟩ = some (.int .i64 xc) := HK_w0_8.out.cell 1
  have cb_w0_2 : w8.cell? ⟨w3.heap.size, 2, none⟩ = some (.int .i64 xt) := HK_w0_8.out.cell 2
  have HK_g0_8 : Hid (Bk w8 (w6.heap.size) 25 #[.int .i64 xr, .int .i64 xc, .int .i64 xt]) := Lib.hid (HK_g0_7.out.old hb8)
  clear HK_g0_7
  clear cb_g0_0 cb_g0_1 cb_g0_2 zb_g0
  have zb_g0 : w6.heap.size < w8.heap.size := HK_g0_8.out.lt
  have cb_g0_0 : w8.cell? ⟨w6.heap.size, 0, none⟩ = some (.int .i64 xr) := HK_g0_8.out.cell 0
  have cb_g0_1 : w8.cell? ⟨w6.heap.size, 1, none⟩ = some (.int .i64 xc) := HK_g0_8.out.cell 1
  have cb_g0_2 : w8.cell? ⟨w6.heap.size, 2, none⟩ = some (.int .i64 xt) := HK_g0_8.out.cell 2
  have HO_s_8 := Lib.hid (HO_s_7.out.old hb8)
  clear HO_s_7
  have HO_v_8 := Lib.hid (HO_v_7.out.old hb8)
  clear HO_v_7
  have HO_x_8 := Lib.hid (HO_x_7.out.old hb8)
  clear HO_x_7
  have HO_g_8 := Lib.hid (HO_g_7.out.old hb8)
  clear HO_g_7
  have HB_8 := Lib.hid (bt HB_7.out hb8)
  clear hb8
  go_wp2_with fail
  refine (toSendS_any A _ cap l _ HL.out (HR_a.out.below HB_8.out) (by omega)).mono ?_
  rintro e w9 ⟨A_y, n_y, cap_y, rfl, ho_y, hb9⟩
  have HN_y := Lib.hid ho_y.len
  have HO_y_9 := Lib.hid ho_y
  clear ho_y
  have z9 := hb9.size
  (try simp at z9)
  have HK_b_9 : Hid (Bk w9 (w.heap.size) 23 #[.int .i64 r, .int .i64 c, .int .i64 t]) := Lib.hid (HK_b_8.out.old hb9)
  clear HK_b_8
  clear cb_b_0 cb_b_1 cb_b_2 zb_b
  have zb_b : w.heap.size < w9.heap.size := HK_b_9.out.lt
  have cb_b_0 : w9.cell? ⟨w.heap.size, 0, none⟩ = some (.int .i64 r) := HK_b_9.out.cell 0
  have cb_b_1 : w9.cell? ⟨w.heap.size, 1, none⟩ = some (.int .i64 c) := HK_b_9.out.cell 1
  have cb_b_2 : w9.cell? ⟨w.heap.size, 2, none⟩ = some (.int .i64 t) := HK_b_9.out.cell 2
  have HK_w0_9 : Hid (Bk w9 (w3.heap.size) 25 #[.int .i64 xr, .int .i64 xc, .int .i64 xt]) := Lib.hid (HK_w0_8.out.old hb9)
  clear HK_w0_8
  clear cb_w0_0 cb_w0_1 cb_w0_2 zb_w0
  have zb_w0 : w3.heap.size < w9.heap.size := HK_w0_9.out.lt
  have cb_w0_0 : w9.cell? ⟨w3.heap.size, 0, none⟩ = some (.int .i64 xr) := HK_w0_9.out.cell 0
  have cb_w0_1 : w9.cell? ⟨w3.heap.size, 1, none⟩ = some (.int .i64 xc) := HK_w0_9.out.cell 1
  have cb_w0_2 : w9.cell? ⟨w3.heap.size, 2, none⟩ = some (.int .i64 xt) := HK_w0_9.out.cell 2
  have HK_g0_9 : Hid (Bk w9 (w6.heap.size) 25 #[.int .i64 xr, .int .i64 xc, .int .i64 xt]) := Lib.hid (HK_g0_8.out.old hb9)
  clear HK_g0_8
  clear cb_g0_0 cb_g0_1 cb_g0_2 zb_g0
  have zb_g0 : w6.heap.size < w9.heap.size := HK_g0_9.out.lt
  have cb_g0_0 : w9.cell? ⟨w6.heap.size, 0, none⟩ = some (.int .i64 xr) := HK_g0_9.out.cell 0
  have cb_g0_1 : w9.cell? ⟨w6.heap.size, 1, none⟩ = some (.int .i64 xc) := HK_g0_9.out.cell 1
  have cb_g0_2 : w9.cell? ⟨w6.heap.size, 2, none⟩ = some (.int .i64 xt) := HK_g0_9.out.cell 2
  have HO_s_9 := Lib.hid (HO_s_8.out.old hb9)
  clear HO_s_8
  have HO_v_9 := Lib.hid (HO_v_8.out.old hb9)
  clear HO_v_8
  have HO_x_9 := Lib.hid (HO_x_8.out.old hb9)
  clear HO_x_8
  have HO_g_9 := Lib.hid (HO_g_8.out.old hb9)
  clear HO_g_8
  have HB_9 := Lib.hid (bt HB_8.out hb9)
  clear hb9
  obtain rfl : n_y = n_x := by have := HN_y.out; have := HL.out; omega
  go_wp2_with fail
  refine (eqSendS_any _ _ _ _ _ l _ HL.out (by omega) HO_x_9.out.row HO_y_9.out.row).mono ?_
  rintro e w10 ⟨rfl, hb10⟩
  have z10 := hb10.size
  (try simp at z10)
  have HK_b_10 : Hid (Bk w10 (w.heap.size) 23 #[.int .i64 r, .int .i64 c, .int .i64 t]) := Lib.hid (HK_b_9.out.old hb10)
  clear HK_b_9
  clear cb_b_0 cb_b_1 cb_b_2 zb_b
  have zb_b : w.heap.size < w10.heap.size := HK_b_10.out.lt
  have cb_b_0 : w10.cell? ⟨w.heap.size, 0, none⟩ = some (.int .i64 r) := HK_b_10.out.cell 0
  have cb_b_1 : w10.cell? ⟨w.heap.size, 1, none⟩ = some (.int .i64 c) := HK_b_10.out.cell 1
  have cb_b_2 : w10.cell? ⟨w.heap.size, 2, none⟩ = some (.int .i64 t) := HK_b_10.out.cell 2
  have HK_w0_10 : Hid (Bk w10 (w3.heap.size) 25 #[.int .i64 xr, .int .i64 xc, .int .i64 xt]) := Lib.hid (HK_w0_9.out.old hb10)
  clear HK_w0_9
  clear cb_w0_0 cb_w0_1 cb_w0_2 zb_w0
  have zb_w0 : w3.heap.size < w10.heap.size := HK_w0_10.out.lt
  have cb_w0_0 : w10.cell? ⟨w3.heap.size, 0, none⟩ = some (.int .i64 xr) := HK_w0_10.out.cell 0
  have cb_w0_1 : w10.cell? ⟨w3.heap.size, 1, none⟩ = some (.int .i64 xc) := HK_w0_10.out.cell 1
  have cb_w0_2 : w10.cell? ⟨w3.heap.size, 2, none⟩ = some (.int .i64 xt) := HK_w0_10.out.cell 2
  have HK_g0_10 : Hid (Bk w10 (w6.heap.size) 25 #[.int .i64 xr, .int .i64 xc, .int .i64 xt]) := Lib.hid (HK_g0_9.out.old hb10)
  clear HK_g0_9
  clear cb_g0_0 cb_g0_1 cb_g0_2 zb_g0
  have zb_g0 : w6.heap.size < w10.heap.size := HK_g0_10.out.lt
  have cb_g0_0 : w10.cell? ⟨w6.heap.size, 0, none⟩ = some (.int .i64 xr) := HK_g0_10.out.cell 0
  have cb_g0_1 : w10.cell? ⟨w6.heap.size, 1, none⟩ = some (.int .i64 xc) := HK_g0_10.out.cell 1
  have cb_g0_2 : w10.cell? ⟨w6.heap.size, 2, none⟩ = some (.int .i64 xt) := HK_g0_10.out.cell 2
  have HO_s_10 := Lib.hid (HO_s_9.out.old hb10)
  clear HO_s_9
  have HO_v_10 := Lib.hid (HO_v_9.out.old hb10)
  clear HO_v_9
  have HO_x_10 := Lib.hid (HO_x_9.out.old hb10)
  clear HO_x_9
  have HO_g_10 := Lib.hid (HO_g_9.out.old hb10)
  clear HO_g_9
  have HO_y_10 := Lib.hid (HO_y_9.out.old hb10)
  clear HO_y_9
  have HB_10 := Lib.hid (bt HB_9.out hb10)
  clear hb10
  go_wp2_with fail
  refine (markSendS_any _ _ _ l 1 _ _ _ HO_x_10.out (by omega) (by omega) (by omega)).mono ?_
  rintro e w11 ⟨rfl, ho11, hb11⟩
  have HO_x_11 := Lib.hid ho11
  clear ho11
  have z11 := hb11.size
  (try simp at z11)
  have HK_b_11 : Hid (Bk w11 (w.heap.size) 23 #[.int .i64 r, .int .i64 c, .int .i64 t]) := Lib.hid (HK_b_10.out.chg hb11 (by first | omega | (simp; done) | (simp; omega)))
  clear HK_b_10
  clear cb_b_0 cb_b_1 cb_b_2 zb_b
  have zb_b : w.heap.size < w11.heap.size := HK_b_11.out.lt
  have cb_b_0 : w11.cell? ⟨w.heap.size, 0, none⟩ = some (.int .i64 r) := HK_b_11.out.cell 0
  have cb_b_1 : w11.cell? ⟨w.heap.size, 1, none⟩ = some (.int .i64 c) := HK_b_11.out.cell 1
  have cb_b_2 : w11.cell? ⟨w.heap.size, 2, none⟩ = some (.int .i64 t) := HK_b_11.out.cell 2
  have HK_w0_11 : Hid (Bk w11 (w3.heap.size) 25 #[.int .i64 xr, .int .i64 xc, .int .i64 xt]) := Lib.hid (HK_w0_10.out.chg hb11 (by first | omega | (simp; done) | (simp; omega)))
  clear HK_w0_10
  clear cb_w0_0 cb_w0_1 cb_w0_2 zb_w0
  have zb_w0 : w3.heap.size < w11.heap.size := HK_w0_11.out.lt
  have cb_w0_0 : w11.cell? ⟨w3.heap.size, 0, none⟩ = some (.int .i64 xr) := HK_w0_11.out.cell 0
  have cb_w0_1 : w11.cell? ⟨w3.heap.size, 1, none⟩ = some (.int .i64 xc) := HK_w0_11.out.cell 1
  have cb_w0_2 : w11.cell? ⟨w3.heap.size, 2, none⟩ = some (.int .i64 xt) := HK_w0_11.out.cell 2
  have HK_g0_11 : Hid (Bk w11 (w6.heap.size) 25 #[.int .i64 xr, .int .i64 xc, .int .i64 xt]) := Lib.hid (HK_g0_10.out.chg hb11 (by first | omega | (simp; done) | (simp; omega)))
  clear HK_g0_10
  clear cb_g0_0 cb_g0_1 cb_g0_2 zb_g0
  have zb_g0 : w6.heap.size < w11.heap.size := HK_g0_11.out.lt
  have cb_g0_0 : w11.cell? ⟨w6.heap.size, 0, none⟩ = some (.int .i64 xr) := HK_g0_11.out.cell 0
  have cb_g0_1 : w11.cell? ⟨w6.heap.size, 1, none⟩ = some (.int .i64 xc) := HK_g0_11.out.cell 1
  have cb_g0_2 : w11.cell? ⟨w6.heap.size, 2, none⟩ = some (.int .i64 xt) := HK_g0_11.out.cell 2
  have HO_s_11 := Lib.hid (HO_s_10.out.chg hb11 (by first | omega | (simp; done) | (simp; omega)))
  clear HO_s_10
  have HO_v_11 := Lib.hid (HO_v_10.out.chg hb11 (by first | omega | (simp; done) | (simp; omega)))
  clear HO_v_10
  have HO_g_11 := Lib.hid (HO_g_10.out.chg hb11 (by first | omega | (simp; done) | (simp; omega)))
  clear HO_g_10
  have HO_y_11 := Lib.hid (HO_y_10.out.chg hb11 (by first | omega | (simp; done) | (simp; omega)))
  clear HO_y_10
  have HB_11 := Lib.hid (Chg.below HB_10.out hb11 (by first | omega | (simp; done) | (simp; omega)))
  clear hb11
  clear HO_x_10
  go_wp2_with fail
  refine (eqBucket_any _ _ _ _).mono ?_
  rintro e w12 ⟨rfl, hb12⟩
  have z12 := hb12.size
  (try simp at z12)
  have HK_b_12 : Hid (Bk w12 (w.heap.size) 23 #[.int .i64 r, .int .i64 c, .int .i64 t]) := Lib.hid (HK_b_11.out.old hb12)
  clear HK_b_11
  clear cb_b_0 cb_b_1 cb_b_2 zb_b
  have zb_b : w.heap.size < w12.heap.size := HK_b_12.out.lt
  have cb_b_0 : w12.cell? ⟨w.heap.size, 0, none⟩ = some (.int .i64 r) := HK_b_12.out.cell 0
  have cb_b_1 : w12.cell? ⟨w.heap.size, 1, none⟩ = some (.int .i64 c) := HK_b_12.out.cell 1
  have cb_b_2 : w12.cell? ⟨w.heap.size, 2, none⟩ = some (.int .i64 t) := HK_b_12.out.cell 2
  have HK_w0_12 : Hid (Bk w12 (w3.heap.size) 25 #[.int .i64 xr, .int .i64 xc, .int .i64 xt]) := Lib.hid (HK_w0_11.out.old hb12)
  clear HK_w0_11
  clear cb_w0_0 cb_w0_1 cb_w0_2 zb_w0
  have zb_w0 : w3.heap.size < w12.heap.size := HK_w0_12.out.lt
  have cb_w0_0 : w12.cell? ⟨w3.heap.size, 0, none⟩ = some (.int .i64 xr) := HK_w0_12.out.cell 0
  have cb_w0_1 : w12.cell? ⟨w3.heap.size, 1, none⟩ = some (.int .i64 xc) := HK_w0_12.out.cell 1
  have cb_w0_2 : w12.cell? ⟨w3.heap.size, 2, none⟩ = some (.int .i64 xt) := HK_w0_12.out.cell 2
  have HK_g0_12 : Hid (Bk w12 (w6.heap.size) 25 #[.int .i64 xr, .int .i64 xc, .int .i64 xt]) := Lib.hid (HK_g0_11.out.old hb12)
  clear HK_g0_11
  clear cb_g0_0 cb_g0_1 cb_g0_2 zb_g0
  have zb_g0 : w6.heap.size < w12.heap.size := HK_g0_12.out.lt
  have cb_g0_0 : w12.cell? ⟨w6.heap.size, 0, none⟩ = some (.int .i64 xr) := HK_g0_12.out.cell 0
  have cb_g0_1 : w12.cell? ⟨w6.heap.size, 1, none⟩ = some (.int .i64 xc) := HK_g0_12.out.cell 1
  have cb_g0_2 : w12.cell? ⟨w6.heap.size, 2, none⟩ = some (.int .i64 xt) := HK_g0_12.out.cell 2
  have HO_s_12 := Lib.hid (HO_s_11.out.old hb12)
  clear HO_s_11
  have HO_v_12 := Lib.hid (HO_v_11.out.old hb12)
  clear HO_v_11
  have HO_x_12 := Lib.hid (HO_x_11.out.old hb12)
  clear HO_x_11
  have HO_g_12 := Lib.hid (HO_g_11.out.old hb12)
  clear HO_g_11
  have HO_y_12 := Lib.hid (HO_y_11.out.old hb12)
  clear HO_y_11
  have HB_12 := Lib.hid (bt HB_11.out hb12)
  clear hb12
  go_wp2_with fail
  refine (eqBoolS_any _ _ _ _ _ lb _ HLB.out (by omega) HO_g_12.out.row HO_v_12.out.row).mono ?_
  rintro e w13 ⟨rfl, hb13⟩
  have z13 := hb13.size
  (try simp at z13)
  have HK_b_13 : Hid (Bk w13 (w.heap.size) 23 #[.int .i64 r, .int .i64 c, .int .i64 t]) := Lib.hid (HK_b_12.out.old hb13)
  clear HK_b_12
  clear cb_b_0 cb_b_1 cb_b_2 zb_b
  have zb_b : w.heap.size < w13.heap.size := HK_b_13.out.lt
  have cb_b_0 : w13.cell? ⟨w.heap.size, 0, none⟩ = some (.int .i64 r) := HK_b_13.out.cell 0
  have cb_b_1 : w13.cell? ⟨w.heap.size, 1, none⟩ = some (.int .i64 c) := HK_b_13.out.cell 1
  have cb_b_2 : w13.cell? ⟨w.heap.size, 2, none⟩ = some (.int .i64 t) := HK_b_13.out.cell 2
  have HK_w0_13 : Hid (Bk w13 (w3.heap.size) 25 #[.int .i64 xr, .int .i64 xc, .int .i64 xt]) := Lib.hid (HK_w0_12.out.old hb13)
  clear HK_w0_12
  clear cb_w0_0 cb_w0_1 cb_w0_2 zb_w0
  have zb_w0 : w3.heap.size < w13.heap.size := HK_w0_13.out.lt
  have cb_w0_0 : w13.cell? ⟨w3.heap.size, 0, none⟩ = some (.int .i64 xr) := HK_w0_13.out.cell 0
  have cb_w0_1 : w13.cell? ⟨w3.heap.size, 1, none⟩ = some (.int .i64 xc) := HK_w0_13.out.cell 1
  have cb_w0_2 : w13.cell? ⟨w3.heap.size, 2, none⟩ = some (.int .i64 xt) := HK_w0_13.out.cell 2
  have HK_g0_13 : Hid (Bk w13 (w6.heap.size) 25 #[.int .i64 xr, .int .i64 xc, .int .i64 xt]) := Lib.hid (HK_g0_12.out.old hb13)
  clear HK_g0_12
  clear cb_g0_0 cb_g0_1 cb_g0_2 zb_g0
  have zb_g0 : w6.heap.size < w13.heap.size := HK_g0_13.out.lt
  have cb_g0_0 : w13.cell? ⟨w6.heap.size, 0, none⟩ = some (.int .i64 xr) := HK_g0_13.out.cell 0
  have cb_g0_1 : w13.cell? ⟨w6.heap.size, 1, none⟩ = some (.int .i64 xc) := HK_g0_13.out.cell 1
  have cb_g0_2 : w13.cell? ⟨w6.heap.size, 2, none⟩ = some (.int .i64 xt) := HK_g0_13.out.cell 2
  have HO_s_13 := Lib.hid (HO_s_12.out.old hb13)
  clear HO_s_12
  have HO_v_13 := Lib.hid (HO_v_12.out.old hb13)
  clear HO_v_12
  have HO_x_13 := Lib.hid (HO_x_12.out.old hb13)
  clear HO_x_12
  have HO_g_13 := Lib.hid (HO_g_12.out.old hb13)
  clear HO_g_12
  have HO_y_13 := Lib.hid (HO_y_12.out.old hb13)
  clear HO_y_12
  have HB_13 := Lib.hid (bt HB_12.out hb13)
  clear hb13
  go_wp2_with fail
  refine (markBoolS_any _ _ _ lb 1 _ _ _ HO_g_13.out (by omega) (by omega) (by omega)).mono ?_
  rintro e w14 ⟨rfl, ho14, hb14⟩
  have HO_g_14 := Lib.hid ho14
  clear ho14
  have z14 := hb14.size
  (try simp at z14)
  have HK_b_14 : Hid (Bk w14 (w.heap.size) 23 #[.int .i64 r, .int .i64 c, .int .i64 t]) := Lib.hid (HK_b_13.out.chg hb14 (by first | omega | (simp; done) | (simp; omega)))
  clear HK_b_13
  clear cb_b_0 cb_b_1 cb_b_2 zb_b
  have zb_b : w.heap.size < w14.heap.size := HK_b_14.out.lt
  have cb_b_0 : w14.cell? ⟨w.heap.size, 0, none⟩ = some (.int .i64 r) := HK_b_14.out.cell 0
  have cb_b_1 : w14.cell? ⟨w.heap.size, 1, none⟩ = some (.int .i64 c) := HK_b_14.out.cell 1
  have cb_b_2 : w14.cell? ⟨w.heap.size, 2, none⟩ = some (.int .i64 t) := HK_b_14.out.cell 2
  have HK_w0_14 : Hid (Bk w14 (w3.heap.size) 25 #[.int .i64 xr, .int .i64 xc, .int .i64 xt]) := Lib.hid (HK_w0_13.out.chg hb14 (by first | omega | (simp; done) | (simp; omega)))
  clear HK_w0_13
  clear cb_w0_0 cb_w0_1 cb_w0_2 zb_w0
  have zb_w0 : w3.heap.size < w14.heap.size := HK_w0_14.out.lt
  have cb_w0_0 : w14.cell? ⟨w3.heap.size, 0, none⟩ = some (.int .i64 xr) := HK_w0_14.out.cell 0
  have cb_w0_1 : w14.cell? ⟨w3.heap.size, 1, none⟩ = some (.int .i64 xc) := HK_w0_14.out.cell 1
  have cb_w0_2 : w14.cell? ⟨w3.heap.size, 2, none⟩ = some (.int .i64 xt) := HK_w0_14.out.cell 2
  have HK_g0_14 : Hid (Bk w14 (w6.heap.size) 25 #[.int .i64 xr, .int .i64 xc, .int .i64 xt]) := Lib.hid (HK_g0_13.out.chg hb14 (by first | omega | (simp; done) | (simp; omega)))
  clear HK_g0_13
  clear cb_g0_0 cb_g0_1 cb_g0_2 zb_g0
  have zb_g0 : w6.heap.size < w14.heap.size := HK_g0_14.out.lt
  have cb_g0_0 : w14.cell? ⟨w6.heap.size, 0, none⟩ = some (.int .i64 xr) := HK_g0_14.out.cell 0
  have cb_g0_1 : w14.cell? ⟨w6.heap.size, 1, none⟩ = some (.int .i64 xc) := HK_g0_14.out.cell 1
  have cb_g0_2 : w14.cell? ⟨w6.heap.size, 2, none⟩ = some (.int .i64 xt) := HK_g0_14.out.cell 2
  have HO_s_14 := Lib.hid (HO_s_13.out.chg hb14 (by first | omega | (simp; done) | (simp; omega)))
  clear HO_s_13
  have HO_v_14 := Lib.hid (HO_v_13.out.chg hb14 (by first | omega | (simp; done) | (simp; omega)))
  clear HO_v_13
  have HO_x_14 := Lib.hid (HO_x_13.out.chg hb14 (by first | omega | (simp; done) | (simp; omega)))
  clear HO_x_13
  have HO_y_14 := Lib.hid (HO_y_13.out.chg hb14 (by first | omega | (simp; done) | (simp; omega)))
  clear HO_y_13
  have HB_14 := Lib.hid (Chg.below HB_13.out hb14 (by first | omega | (simp; done) | (simp; omega)))
  clear hb14
  clear HO_g_13
  go_wp2_with fail
  refine (heldBoolS_any _ _ _ 1 _ HO_g_14.out.row (by omega) (by omega) (by omega)).mono ?_
  rintro e w15 ⟨rfl, hb15⟩
  have z15 := hb15.size
  (try simp at z15)
  have HK_b_15 : Hid (Bk w15 (w.heap.size) 23 #[.int .i64 r, .int .i64 c, .int .i64 t]) := Lib.hid (HK_b_14.out.old hb15)
  clear HK_b_14
  clear cb_b_0 cb_b_1 cb_b_2 zb_b
  have zb_b : w.heap.size < w15.heap.size := HK_b_15.out.lt
  have cb_b_0 : w15.cell? ⟨w.heap.size, 0, none⟩ = some (.int .i64 r) := HK_b_15.out.cell 0
  have cb_b_1 : w15.cell? ⟨w.heap.size, 1, none⟩ = some (.int .i64 c) := HK_b_15.out.cell 1
  have cb_b_2 : w15.cell? ⟨w.heap.size, 2, none⟩ = some (.int .i64 t) := HK_b_15.out.cell 2
  have HK_w0_15 : Hid (Bk w15 (w3.heap.size) 25 #[.int .i64 xr, .int .i64 xc, .int .i64 xt]) := Lib.hid (HK_w0_14.out.old hb15)
  clear HK_w0_14
  clear cb_w0_0 cb_w0_1 cb_w0_2 zb_w0
  have zb_w0 : w3.heap.size < w15.heap.size := HK_w0_15.out.lt
  have cb_w0_0 : w15.cell? ⟨w3.heap.size, 0, none⟩ = some (.int .i64 xr) := HK_w0_15.out.cell 0
  have cb_w0_1 : w15.cell? ⟨w3.heap.size, 1, none⟩ = some (.int .i64 xc) := HK_w0_15.out.cell 1
  have cb_w0_2 : w15.cell? ⟨w3.heap.size, 2, none⟩ = some (.int .i64 xt) := HK_w0_15.out.cell 2
  have HK_g0_15 : Hid (Bk w15 (w6.heap.size) 25 #[.int .i64 xr, .int .i64 xc, .int .i64 xt]) := Lib.hid (HK_g0_14.out.old hb15)
  clear HK_g0_14
  clear cb_g0_0 cb_g0_1 cb_g0_2 zb_g0
  have zb_g0 : w6.heap.size < w15.heap.size := HK_g0_15.out.lt
  have cb_g0_0 : w15.cell? ⟨w6.heap.size, 0, none⟩ = some (.int .i64 xr) := HK_g0_15.out.cell 0
  have cb_g0_1 : w15.cell? ⟨w6.heap.size, 1, none⟩ = some (.int .i64 xc) := HK_g0_15.out.cell 1
  have cb_g0_2 : w15.cell? ⟨w6.heap.size, 2, none⟩ = some (.int .i64 xt) := HK_g0_15.out.cell 2
  have HO_s_15 := Lib.hid (HO_s_14.out.old hb15)
  clear HO_s_14
  have HO_v_15 := Lib.hid (HO_v_14.out.old hb15)
  clear HO_v_14
  have HO_x_15 := Lib.hid (HO_x_14.out.old hb15)
  clear HO_x_14
  have HO_g_15 := Lib.hid (HO_g_14.out.old hb15)
  clear HO_g_14
  have HO_y_15 := Lib.hid (HO_y_14.out.old hb15)
  clear HO_y_14
  have HB_15 := Lib.hid (bt HB_14.out hb15)
  clear hb15
  go_wp2_with fail
  refine (toBucket_any _ _ _ _).mono ?_
  rintro e w16 ⟨rfl, hb16⟩
  have z16 := hb16.size
  (try simp at z16)
  have HK_b_16 : Hid (Bk w16 (w.heap.size) 23 #[.int .i64 r, .int .i64 c, .int .i64 t]) := Lib.hid (HK_b_15.out.old hb16)
  clear HK_b_15
  clear cb_b_0 cb_b_1 cb_b_2 zb_b
  have zb_b : w.heap.size < w16.heap.size := HK_b_16.out.lt
  have cb_b_0 : w16.cell? ⟨w.heap.size, 0, none⟩ = some (.int .i64 r) := HK_b_16.out.cell 0
  have cb_b_1 : w16.cell? ⟨w.heap.size, 1, none⟩ = some (.int .i64 c) := HK_b_16.out.cell 1
  have cb_b_2 : w16.cell? ⟨w.heap.size, 2, none⟩ = some (.int .i64 t) := HK_b_16.out.cell 2
  have HK_w0_16 : Hid (Bk w16 (w3.heap.size) 25 #[.int .i64 xr, .int .i64 xc, .int .i64 xt]) := Lib.hid (HK_w0_15.out.old hb16)
  clear HK_w0_15
  clear cb_w0_0 cb_w0_1 cb_w0_2 zb_w0
  have zb_w0 : w3.heap.size < w16.heap.size := HK_w0_16.out.lt
  have cb_w0_0 : w16.cell? ⟨w3.heap.size, 0, none⟩ = some (.int .i64 xr) := HK_w0_16.out.cell 0
  have cb_w0_1 : w16.cell? ⟨w3.heap.size, 1, none⟩ = some (.int .i64 xc) := HK_w0_16.out.cell 1
  have cb_w0_2 : w16.cell? ⟨w3.heap.size, 2, none⟩ = some (.int .i64 xt) := HK_w0_16.out.cell 2
  have HK_g0_16 : Hid (Bk w16 (w6.heap.size) 25 #[.int .i64 xr, .int .i64 xc, .int .i64 xt]) := Lib.hid (HK_g0_15.out.old hb16)
  clear HK_g0_15
  clear cb_g0_0 cb_g0_1 cb_g0_2 zb_g0
  have zb_g0 : w6.heap.size < w16.heap.size := HK_g0_16.out.lt
  have cb_g0_0 : w16.cell? ⟨w6.heap.size, 0, none⟩ = some (.int .i64 xr) := HK_g0_16.out.cell 0
  have cb_g0_1 : w16.cell? ⟨w6.heap.size, 1, none⟩ = some (.int .i64 xc) := HK_g0_16.out.cell 1
  have cb_g0_2 : w16.cell? ⟨w6.heap.size, 2, none⟩ = some (.int .i64 xt) := HK_g0_16.out.cell 2
  have HO_s_16 := Lib.hid (HO_s_15.out.old hb16)
  clear HO_s_15
  have HO_v_16 := Lib.hid (HO_v_15.out.old hb16)
  clear HO_v_15
  have HO_x_16 := Lib.hid (HO_x_15.out.old hb16)
  clear HO_x_15
  have HO_g_16 := Lib.hid (HO_g_15.out.old hb16)
  clear HO_g_15
  have HO_y_16 := Lib.hid (HO_y_15.out.old hb16)
  clear HO_y_15
  have HB_16 := Lib.hid (bt HB_15.out hb16)
  clear hb16
  go_wp2_with fail
  refine (toSendS_any A _ cap l _ HL.out (HR_a.out.below HB_16.out) (by omega)).mono ?_
  rintro e w17 ⟨A_u, n_u, cap_u, rfl, ho_u, hb17⟩
  have HN_u := Lib.hid ho_u.len
  have HO_u_17 := Lib.hid ho_u
  clear ho_u
  have z17 := hb17.size
  (try simp at z17)
  have HK_b_17 : Hid (Bk w17 (w.heap.size) 23 #[.int .i64 r, .int .i64 c, .int .i64 t]) := Lib.hid (HK_b_16.out.old hb17)
  clear HK_b_16
  clear cb_b_0 cb_b_1 cb_b_2 zb_b
  have zb_b : w.heap.size < w17.heap.size := HK_b_17.out.lt
  have cb_b_0 : w17.cell? ⟨w.heap.size, 0, none⟩ = some (.int .i64 r) := HK_b_17.out.cell 0
  have cb_b_1 : w17.cell? ⟨w.heap.size, 1, none⟩ = some (.int .i64 c) := HK_b_17.out.cell 1
  have cb_b_2 : w17.cell? ⟨w.heap.size, 2, none⟩ = some (.int .i64 t) := HK_b_17.out.cell 2
  have HK_w0_17 : Hid (Bk w17 (w3.heap.size) 25 #[.int .i64 xr, .int .i64 xc, .int .i64 xt]) := Lib.hid (HK_w0_16.out.old hb17)
  clear HK_w0_16
  clear cb_w0_0 cb_w0_1 cb_w0_2 zb_w0
  have zb_w0 : w3.heap.size < w17.heap.size := HK_w0_17.out.lt
  have cb_w0_0 : w17.cell? ⟨w3.heap.size, 0, none⟩ = some (.int .i64 xr) := HK_w0_17.out.cell 0
  have cb_w0_1 : w17.cell? ⟨w3.heap.size, 1, none⟩ = some (.int .i64 xc) := HK_w0_17.out.cell 1
  have cb_w0_2 : w17.cell? ⟨w3.heap.size, 2, none⟩ = some (.int .i64 xt) := HK_w0_17.out.cell 2
  have HK_g0_17 : Hid (Bk w17 (w6.heap.size) 25 #[.int .i64 xr, .int .i64 xc, .int .i64 xt]) := Lib.hid (HK_g0_16.out.old hb17)
  clear HK_g0_16
  clear cb_g0_0 cb_g0_1 cb_g0_2 zb_g0
  have zb_g0 : w6.heap.size < w17.heap.size := HK_g0_17.out.lt
  have cb_g0_0 : w17.cell? ⟨w6.heap.size, 0, none⟩ = some (.int .i64 xr) := HK_g0_17.out.cell 0
  have cb_g0_1 : w17.cell? ⟨w6.heap.size, 1, none⟩ = some (.int .i64 xc) := HK_g0_17.out.cell 1
  have cb_g0_2 : w17.cell? ⟨w6.heap.size, 2, none⟩ = some (.int .i64 xt) := HK_g0_17.out.cell 2
  have HO_s_17 := Lib.hid (HO_s_16.out.old hb17)
  clear HO_s_16
  have HO_v_17 := Lib.hid (HO_v_16.out.old hb17)
  clear HO_v_16
  have HO_x_17 := Lib.hid (HO_x_16.out.old hb17)
  clear HO_x_16
  have HO_g_17 := Lib.hid (HO_g_16.out.old hb17)
  clear HO_g_16
  have HO_y_17 := Lib.hid (HO_y_16.out.old hb17)
  clear HO_y_16
  have HB_17 := Lib.hid (bt HB_16.out hb17)
  clear hb17
  obtain rfl : n_u = n_y := by have := HN_u.out; have := HL.out; omega
  go_wp2_with fail
  refine (HIM.out _ _ _ HO_u_17.out.row (by omega)).mono ?_
  rintro e w18 ⟨A_h, cap_h, rfl, ho_h, hb18⟩
  have HN_h := Lib.hid ho_h.len
  have HO_h_18 := Lib.hid ho_h
  clear ho_h
  have z18 := hb18.size
  (try simp at z18)
  have HK_b_18 : Hid (Bk w18 (w.heap.size) 23 #[.int .i64 r, .int .i64 c, .int .i64 t]) := Lib.hid (HK_b_17.out.old hb18)
  clear HK_b_17
  clear cb_b_0 cb_b_1 cb_b_2 zb_b
  have zb_b : w.heap.size < w18.heap.size := HK_b_18.out.lt
  have cb_b_0 : w18.cell? ⟨w.heap.size, 0, none⟩ = some (.int .i64 r) := HK_b_18.out.cell 0
  have cb_b_1 : w18.cell? ⟨w.heap.size, 1, none⟩ = some (.int .i64 c) := HK_b_18.out.cell 1
  have cb_b_2 : w18.cell? ⟨w.heap.size, 2, none⟩ = some (.int .i64 t) := HK_b_18.out.cell 2
  have HK_w0_18 : Hid (Bk w18 (w3.heap.size) 25 #[.int .i64 xr, .int .i64 xc, .int .i64 xt]) := Lib.hid (HK_w0_17.out.old hb18)
  clear HK_w0_17
  clear cb_w0_0 cb_w0_1 cb_w0_2 zb_w0
  have zb_w0 : w3.heap.size < w18.heap.size := HK_w0_18.out.lt
  have cb_w0_0 : w18.cell? ⟨w3.heap.size, 0, none⟩ = some (.int .i64 xr) := HK_w0_18.out.cell 0
  have cb_w0_1 : w18.cell? ⟨w3.heap.size, 1, none⟩ = some (.int .i64 xc) := HK_w0_18.out.cell 1
  have cb_w0_2 : w18.cell? ⟨w3.heap.size, 2, none⟩ = some (.int .i64 xt) := HK_w0_18.out.cell 2
  have HK_g0_18 : Hid (Bk w18 (w6.heap.size) 25 #[.int .i64 xr, .int .i64 xc, .int .i64 xt]) := Lib.hid (HK_g0_17.out.old hb18)
  clear HK_g0_17
  clear cb_g0_0 cb_g0_1 cb_g0_2 zb_g0
  have zb_g0 : w6.heap.size < w18.heap.size := HK_g0_18.out.lt
  have cb_g0_0 : w18.cell? ⟨w6.heap.size, 0, none⟩ = some (.int .i64 xr) := HK_g0_18.out.cell 0
  have cb_g0_1 : w18.cell? ⟨w6.heap.size, 1, none⟩ = some (.int .i64 xc) := HK_g0_18.out.cell 1
  have cb_g0_2 : w18.cell? ⟨w6.heap.size, 2, none⟩ = some (.int .i64 xt) := HK_g0_18.out.cell 2
  have HO_s_18 := Lib.hid (HO_s_17.out.old hb18)
  clear HO_s_17
  have HO_v_18 := Lib.hid (HO_v_17.out.old hb18)
  clear HO_v_17
  have HO_x_18 := Lib.hid (HO_x_17.out.old hb18)
  clear HO_x_17
  have HO_g_18 := Lib.hid (HO_g_17.out.old hb18)
  clear HO_g_17
  have HO_y_18 := Lib.hid (HO_y_17.out.old hb18)
  clear HO_y_17
  have HO_u_18 := Lib.hid (HO_u_17.out.old hb18)
  clear HO_u_17
  have HB_18 := Lib.hid (bt HB_17.out hb18)
  clear hb18
  go_wp2_with fail
  refine (eqBucket_any _ _ _ _).mono ?_
  rintro e w19 ⟨rfl, hb19⟩
  have z19 := hb19.size
  (try simp at z19)
  have HK_b_19 : Hid (Bk w19 (w.heap.size) 23 #[.int .i64 r, .int .i64 c, .int .i64 t]) := Lib.hid ((HK_b_18.out.alloc _).old hb19)
  clear HK_b_18
  clear cb_b_0 cb_b_1 cb_b_2 zb_b
  have zb_b : w.heap.size < w19.heap.size := HK_b_19.out.lt
  have cb_b_0 : w19.cell? ⟨w.heap.size, 0, none⟩ = some (.int .i64 r) := HK_b_19.out.cell 0
  have cb_b_1 : w19.cell? ⟨w.heap.size, 1, none⟩ = some (.int .i64 c) := HK_b_19.out.cell 1
  have cb_b_2 : w19.cell? ⟨w.heap.size, 2, none⟩ = some (.int .i64 t) := HK_b_19.out.cell 2
  have HK_w0_19 : Hid (Bk w19 (w3.heap.size) 25 #[.int .i64 xr, .int .i64 xc, .int .i64 xt]) := Lib.hid ((HK_w0_18.out.alloc _).old hb19)
  clear HK_w0_18
  clear cb_w0_0 cb_w0_1 cb_w0_2 zb_w0
  have zb_w0 : w3.heap.size < w19.heap.size := HK_w0_19.out.lt
  have cb_w0_0 : w19.cell? ⟨w3.heap.size, 0, none⟩ = some (.int .i64 xr) := HK_w0_19.out.cell 0
  have cb_w0_1 : w19.cell? ⟨w3.heap.size, 1, none⟩ = some (.int .i64 xc) := HK_w0_19.out.cell 1
  have cb_w0_2 : w19.cell? ⟨w3.heap.size, 2, none⟩ = some (.int .i64 xt) := HK_w0_19.out.cell 2
  have HK_g0_19 : Hid (Bk w19 (w6.heap.size) 25 #[.int .i64 xr, .int .i64 xc, .int .i64 xt]) := Lib.hid ((HK_g0_18.out.alloc _).old hb19)
  clear HK_g0_18
  clear cb_g0_0 cb_g0_1 cb_g0_2 zb_g0
  have zb_g0 : w6.heap.size < w19.heap.size := HK_g0_19.out.lt
  have cb_g0_0 : w19.cell? ⟨w6.heap.size, 0, none⟩ = some (.int .i64 xr) := HK_g0_19.out.cell 0
  have cb_g0_1 : w19.cell? ⟨w6.heap.size, 1, none⟩ = some (.int .i64 xc) := HK_g0_19.out.cell 1
  have cb_g0_2 : w19.cell? ⟨w6.heap.size, 2, none⟩ = some (.int .i64 xt) := HK_g0_19.out.cell 2
  have HK_h0_19 : Hid (Bk w19 (w18.heap.size) 25 #[.int .i64 xr, .int .i64 xc, .int .i64 xt]) := Lib.hid ((Bk.new_ (by simp) : Bk _ (w18.heap.size) 25 #[.int .i64 xr, .int .i64 xc, .int .i64 xt]).old hb19)
  have zb_h0 : w18.heap.size < w19.heap.size := HK_h0_19.out.lt
  have cb_h0_0 : w19.cell? ⟨w18.heap.size, 0, none⟩ = some (.int .i64 xr) := HK_h0_19.out.cell 0
  have cb_h0_1 : w19.cell? ⟨w18.heap.size, 1, none⟩ = some (.int .i64 xc) := HK_h0_19.out.cell 1
  have cb_h0_2 : w19.cell? ⟨w18.heap.size, 2, none⟩ = some (.int .i64 xt) := HK_h0_19.out.cell 2
  have HO_s_19 := Lib.hid ((HO_s_18.out.alloc _).old hb19)
  clear HO_s_18
  have HO_v_19 := Lib.hid ((HO_v_18.out.alloc _).old hb19)
  clear HO_v_18
  have HO_x_19 := Lib.hid ((HO_x_18.out.alloc _).old hb19)
  clear HO_x_18
  have HO_g_19 := Lib.hid ((HO_g_18.out.alloc _).old hb19)
  clear HO_g_18
  have HO_y_19 := Lib.hid ((HO_y_18.out.alloc _).old hb19)
  clear HO_y_18
  have HO_u_19 := Lib.hid ((HO_u_18.out.alloc _).old hb19)
  clear HO_u_18
  have HO_h_19 := Lib.hid ((HO_h_18.out.alloc _).old hb19)
  clear HO_h_18
  have HB_19 := Lib.hid (bt (ba HB_18.out _) hb19)
  clear hb19
  go_wp2_with fail
  refine (eqBoolS_any _ _ _ _ _ lb _ HLB.out (by omega) HO_h_19.out.row HO_v_19.out.row).mono ?_
  rintro e w20 ⟨rfl, hb20⟩
  have z20 := hb20.size
  (try simp at z20)
  have HK_b_20 : Hid (Bk w20 (w.heap.size) 23 #[.int .i64 r, .int .i64 c, .int .i64 t]) := Lib.hid (HK_b_19.out.old hb20)
  clear HK_b_19
  clear cb_b_0 cb_b_1 cb_b_2 zb_b
  have zb_b : w.heap.size < w20.heap.size := HK_b_20.out.lt
  have cb_b_0 : w20.cell? ⟨w.heap.size, 0, none⟩ = some (.int .i64 r) := HK_b_20.out.cell 0
  have cb_b_1 : w20.cell? ⟨w.heap.size, 1, none⟩ = some (.int .i64 c) := HK_b_20.out.cell 1
  have cb_b_2 : w20.cell? ⟨w.heap.size, 2, none⟩ = some (.int .i64 t) := HK_b_20.out.cell 2
  have HK_w0_20 : Hid (Bk w20 (w3.heap.size) 25 #[.int .i64 xr, .int .i64 xc, .int .i64 xt]) := Lib.hid (HK_w0_19.out.old hb20)
  clear HK_w0_19
  clear cb_w0_0 cb_w0_1 cb_w0_2 zb_w0
  have zb_w0 : w3.heap.size < w20.heap.size := HK_w0_20.out.lt
  have cb_w0_0 : w20.cell? ⟨w3.heap.size, 0, none⟩ = some (.int .i64 xr) := HK_w0_20.out.cell 0
  have cb_w0_1 : w20.cell? ⟨w3.heap.size, 1, none⟩ = some (.int .i64 xc) := HK_w0_20.out.cell 1
  have cb_w0_2 : w20.cell? ⟨w3.heap.size, 2, none⟩ = some (.int .i64 xt) := HK_w0_20.out.cell 2
  have HK_g0_20 : Hid (Bk w20 (w6.heap.size) 25 #[.int .i64 xr, .int .i64 xc, .int .i64 xt]) := Lib.hid (HK_g0_19.out.old hb20)
  clear HK_g0_19
  clear cb_g0_0 cb_g0_1 cb_g0_2 zb_g0
  have zb_g0 : w6.heap.size < w20.heap.size := HK_g0_20.out.lt
  have cb_g0_0 : w20.cell? ⟨w6.heap.size, 0, none⟩ = some (.int .i64 xr) := HK_g0_20.out.cell 0
  have cb_g0_1 : w20.cell? ⟨w6.heap.size, 1, none⟩ = some (.int .i64 xc) := HK_g0_20.out.cell 1
  have cb_g0_2 : w20.cell? ⟨w6.heap.size, 2, none⟩ = some (.int .i64 xt) := HK_g0_20.out.cell 2
  have HK_h0_20 : Hid (Bk w20 (w18.heap.size) 25 #[.int .i64 xr, .int .i64 xc, .int .i64 xt]) := Lib.hid (HK_h0_19.out.old hb20)
  clear HK_h0_19
  clear cb_h0_0 cb_h0_1 cb_h0_2 zb_h0
  have zb_h0 : w18.heap.size < w20.heap.size := HK_h0_20.out.lt
  have cb_h0_0 : w20.cell? ⟨w18.heap.size, 0, none⟩ = some (.int .i64 xr) := HK_h0_20.out.cell 0
  have cb_h0_1 : w20.cell? ⟨w18.heap.size, 1, none⟩ = some (.int .i64 xc) := HK_h0_20.out.cell 1
  have cb_h0_2 : w20.cell? ⟨w18.heap.size, 2, none⟩ = some (.int .i64 xt) := HK_h0_20.out.cell 2
  have HO_s_20 := Lib.hid (HO_s_19.out.old hb20)
  clear HO_s_19
  have HO_v_20 := Lib.hid (HO_v_19.out.old hb20)
  clear HO_v_19
  have HO_x_20 := Lib.hid (HO_x_19.out.old hb20)
  clear HO_x_19
  have HO_g_20 := Lib.hid (HO_g_19.out.old hb20)
  clear HO_g_19
  have HO_y_20 := Lib.hid (HO_y_19.out.old hb20)
  clear HO_y_19
  have HO_u_20 := Lib.hid (HO_u_19.out.old hb20)
  clear HO_u_19
  have HO_h_20 := Lib.hid (HO_h_19.out.old hb20)
  clear HO_h_19
  have HB_20 := Lib.hid (bt HB_19.out hb20)
  clear hb20
  go_wp2_with fail
  refine (heldBoolS_any _ _ _ 1 _ HO_g_20.out.row (by omega) (by omega) (by omega)).mono ?_
  rintro e w21 ⟨rfl, hb21⟩
  have z21 := hb21.size
  (try simp at z21)
  have HK_b_21 : Hid (Bk w21 (w.heap.size) 23 #[.int .i64 r, .int .i64 c, .int .i64 t]) := Lib.hid (HK_b_20.out.old hb21)
  clear HK_b_20
  clear cb_b_0 cb_b_1 cb_b_2 zb_b
  have zb_b : w.heap.size < w21.heap.size := HK_b_21.out.lt
  have cb_b_0 : w21.cell? ⟨w.heap.size, 0, none⟩ = some (.int .i64 r) := HK_b_21.out.cell 0
  have cb_b_1 : w21.cell? ⟨w.heap.size, 1, none⟩ = some (.int .i64 c) := HK_b_21.out.cell 1
  have cb_b_2 : w21.cell? ⟨w.heap.size, 2, none⟩ = some (.int .i64 t) := HK_b_21.out.cell 2
  have HK_w0_21 : Hid (Bk w21 (w3.heap.size) 25 #[.int .i64 xr, .int .i64 xc, .int .i64 xt]) := Lib.hid (HK_w0_20.out.old hb21)
  clear HK_w0_20
  clear cb_w0_0 cb_w0_1 cb_w0_2 zb_w0
  have zb_w0 : w3.heap.size < w21.heap.size := HK_w0_21.out.lt
  have cb_w0_0 : w21.cell? ⟨w3.heap.size, 0, none⟩ = some (.int .i64 xr) := HK_w0_21.out.cell 0
  have cb_w0_1 : w21.cell? ⟨w3.heap.size, 1, none⟩ = some (.int .i64 xc) := HK_w0_21.out.cell 1
  have cb_w0_2 : w21.cell? ⟨w3.heap.size, 2, none⟩ = some (.int .i64 xt) := HK_w0_21.out.cell 2
  have HK_g0_21 : Hid (Bk w21 (w6.heap.size) 25 #[.int .i64 xr, .int .i64 xc, .int .i64 xt]) := Lib.hid (HK_g0_20.out.old hb21)
  clear HK_g0_20
  clear cb_g0_0 cb_g0_1 cb_g0_2 zb_g0
  have zb_g0 : w6.heap.size < w21.heap.size := HK_g0_21.out.lt
  have cb_g0_0 : w21.cell? ⟨w6.heap.size, 0, none⟩ = some (.int .i64 xr) := HK_g0_21.out.cell 0
  have cb_g0_1 : w21.cell? ⟨w6.heap.size, 1, none⟩ = some (.int .i64 xc) := HK_g0_21.out.cell 1
  have cb_g0_2 : w21.cell? ⟨w6.heap.size, 2, none⟩ = some (.int .i64 xt) := HK_g0_21.out.cell 2
  have HK_h0_21 : Hid (Bk w21 (w18.heap.size) 25 #[.int .i64 xr, .int .i64 xc, .int .i64 xt]) := Lib.hid (HK_h0_20.out.old hb21)
  clear HK_h0_20
  clear cb_h0_0 cb_h0_1 cb_h0_2 zb_h0
  have zb_h0 : w18.heap.size < w21.heap.size := HK_h0_21.out.lt
  have cb_h0_0 : w21.cell? ⟨w18.heap.size, 0, none⟩ = some (.int .i64 xr) := HK_h0_21.out.cell 0
  have cb_h0_1 : w21.cell? ⟨w18.heap.size, 1, none⟩ = some (.int .i64 xc) := HK_h0_21.out.cell 1
  have cb_h0_2 : w21.cell? ⟨w18.heap.size, 2, none⟩ = some (.int .i64 xt) := HK_h0_21.out.cell 2
  have HO_s_21 := Lib.hid (HO_s_20.out.old hb21)
  clear HO_s_20
  have HO_v_21 := Lib.hid (HO_v_20.out.old hb21)
  clear HO_v_20
  have HO_x_21 := Lib.hid (HO_x_20.out.old hb21)
  clear HO_x_20
  have HO_g_21 := Lib.hid (HO_g_20.out.old hb21)
  clear HO_g_20
  have HO_y_21 := Lib.hid (HO_y_20.out.old hb21)
  clear HO_y_20
  have HO_u_21 := Lib.hid (HO_u_20.out.old hb21)
  clear HO_u_20
  have HO_h_21 := Lib.hid (HO_h_20.out.old hb21)
  clear HO_h_20
  have HB_21 := Lib.hid (bt HB_20.out hb21)
  clear hb21
  go_wp2_with fail
  go_ret
  exact ⟨rfl, HB_21.out⟩
theorem own : ownKnob Try.prog.godebug = none := by kernel_rfl
theorem laidOut : laidOutB Try.prog = true := by kernel_rfl
set_option maxRecDepth 100000 in
theorem lifted (os : Os) (started : os.Started) (H : Type) (enc : TypeId × Value → H) :
    ReturnsInHanded {} Try.checked os 13 .any (Rows.fnExactRunBucketSpec.pre6 enc Try.prog Try.f13 Rows.fnExactRunBucketRow.domain false) (Rows.fnExactRunBucketSpec.post enc Try.prog Try.f13 false true false false) := by
  refine returnsInHanded_of_change (C := Try.checked) own started (by kernel_rfl) Try.func13
    (ChangeSpec.witness6 (enc := enc) (C := Try.checked) false ⟨#[], #[.agg #[.int .i64 0, .int .i64 0, .int .i64 0], .slice none 0 0], []⟩ 8 (by kernel_rfl) (by kernel_rfl) (by kernel_rfl) (by kernel_rfl)) ?_
  intro W base args ds gs before hval0 hW hcnd _
  have hval : ∀ (j : Nat) t v, Try.f13.params[j]? = some t → args[j]? = some v → Value.okWide Try.prog W .any base t v := hval0
  have hW' := hW
  obtain ⟨p, q, hA0, hV, rfl, hfz, hnd⟩ := hW
  have hA : DataW.TrodAll enc Try.prog W 0 (fun _ => true) true Try.f13.params.toList args.toList ds p := hA0
  rw [Try.params13] at hA hval
  obtain ⟨v0, vs0, d0, ds0, p0, q0, hargs, rfl, rfl, h0, r0⟩ := trodAll_cons hA
  obtain ⟨v1, vs1, d1, ds1, p1, q1, rfl, rfl, rfl, h1, r1⟩ := trodAll_cons r0
  obtain ⟨rfl, rfl, rfl⟩ := trodAll_nil r1
  obtain rfl : args = #[v0, v1] := by cases args; simp_all
  obtain ⟨rfl, rfl⟩ := trodVars_none hV
  have k0 := h0
  have lt0 : ∀ x ∈ p0, x.block < W.heap.size := by obtain ⟨m, hm⟩ := k0; exact DataW.trod_lt m _ _ _ hm
  have k1 := h1
  have lt1 : ∀ x ∈ p1, x.block < W.heap.size := by obtain ⟨m, hm⟩ := k1; exact DataW.trod_lt m _ _ _ hm
  obtain ⟨cs0, rfl, hsz0⟩ := okWide_struct Try.underlying23 (hval 0 23 v0 rfl rfl)
  obtain ⟨c0_0, c0_1, c0_2, rfl⟩ := arr3 (hsz0.trans (by kernel_rfl))
  have hf0 := h0
  obtain ⟨fu0, hf0⟩ := hf0
  simp only [Value.cells] at hf0
  obtain ⟨a0_0, ea0_0⟩ := leaf_int Try.underlying23 hf0 0 _ rfl Try.underlying3 (by kernel_rfl) rfl
  obtain ⟨ea0_0, wa0_0⟩ := ea0_0
  subst ea0_0
  obtain ⟨a0_1, ea0_1⟩ := leaf_int Try.underlying23 hf0 1 _ rfl Try.underlying3 (by kernel_rfl) rfl
  obtain ⟨ea0_1, wa0_1⟩ := ea0_1
  subst ea0_1
  obtain ⟨a0_2, ea0_2⟩ := leaf_int Try.underlying23 hf0 2 _ rfl Try.underlying3 (by kernel_rfl) rfl
  obtain ⟨ea0_2, wa0_2⟩ := ea0_2
  subst ea0_2
  obtain ⟨A1, len1, cap1, rfl⟩ := okWide_slice Try.underlying39 (hval 1 39 v1 rfl rfl)
  obtain ⟨l1, hr1⟩ := rows_row (s := 2) Try.underlying39 (by kernel_rfl) (by decide) (flatSend enc W) h1
  clear hA0 hval0
  refine (walk W a0_0 (ibounds wa0_0) a0_1 (ibounds wa0_1) a0_2 (ibounds wa0_2) A1 len1 cap1 l1 hr1).mono fun e W' ⟨he, bel⟩ => ?_
  subst he
  exact ⟨_, rfl, _, _, _, [], _, [], hW', trodAll_mk1 (shut_bool Try.underlying4 _), (trodAll_cons_mk (Below.trod laidOut (by kernel_rfl) (of_decide_eq_true (by kernel_rfl)) k0 bel lt0) (trodAll_cons_mk (Below.trod laidOut (by kernel_rfl) (of_decide_eq_true (by kernel_rfl)) k1 bel lt1) trodAll_mk0)), rfl, bel.frame _, fun h => by cases h⟩
theorem over : Rows.fnExactRunBucketRow.holds Try.pinned (OpenSpec.ofChange Rows.fnExactRunBucketSpec) :=
  OpenClaim.holds_of_wide 13 Try.f13 rfl rfl rfl rfl rfl rfl rfl ⟨rfl, rfl, rfl, rfl, rfl⟩ rfl rfl rfl rfl rfl (by kernel_rfl) Try.func13 (by kernel_rfl)
    (of_decide_eq_true (by kernel_rfl)) (by unfold Func.isWrapper; first | (rw [if_pos (by decide +kernel)]; kernel_rfl) | (rw [if_neg (by decide +kernel)]; exact ⟨rfl, rfl⟩))
    (fun os started H enc _ => lifted os started H enc)
/-- The given statement. -/
theorem proved : Rows.FnExactRunBucketSaid := over
#print axioms proved
end Go.Proofs.Ytleknfigikpacaa.lawRunBucket
