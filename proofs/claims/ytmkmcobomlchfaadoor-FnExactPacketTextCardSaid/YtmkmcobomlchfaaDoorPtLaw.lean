/- The walk of the law FnExactPacketText: the two functions answer alike. -/
import Derived.Test.YtmkmcobomlchfaaDoorPtImpl
namespace Go.Proofs.YtmkmcobomlchfaaDoor
open Go.ChangeShapes Go.WideShapes Go.ChangeAt Go.RowKit
set_option linter.unusedVariables false
theorem specPt_v (p0 p1 p2 p3 p4 p5 : Int) (t : ByteArray) (b : Bool) (ht : t = if (⟨p0, p1, p2, p3, p4, p5⟩ : Pk).ok then ⟨(ptx ⟨p0, p1, p2, p3, p4, p5⟩).toArray⟩ else ⟨#[]⟩) (hb : b = (⟨p0, p1, p2, p3, p4, p5⟩ : Pk).ok) (w : World) :
    Calls Tryd.prog 5 #[.agg #[.int .i64 p0, .int .i64 p1, .int .i64 p2, .int .i64 p3, .int .i64 p4, .int .i64 p5]] w fun e w' => e = .returned (.tuple #[.string t, .bool b]) ∧ Below w.heap.size w w' := by
  subst ht hb
  exact specPacketText_any ⟨p0, p1, p2, p3, p4, p5⟩ w
theorem implPt_v (p0 p1 p2 p3 p4 p5 : Int) (t : ByteArray) (b : Bool) (ht : t = if (⟨p0, p1, p2, p3, p4, p5⟩ : Pk).ok then ⟨(ptx ⟨p0, p1, p2, p3, p4, p5⟩).toArray⟩ else ⟨#[]⟩) (hb : b = (⟨p0, p1, p2, p3, p4, p5⟩ : Pk).ok) (w : World) (htab : Lib.TabBelow Tryd.prog w.heap.size w "internal/strconv.uint64pow10" .u64 Lib.pow10Tab) :
    Calls Tryd.prog 7 #[.agg #[.int .i64 p0, .int .i64 p1, .int .i64 p2, .int .i64 p3, .int .i64 p4, .int .i64 p5]] w fun e w' => e = .returned (.tuple #[.string t, .bool b]) ∧ Below w.heap.size w w' := by
  subst ht hb
  exact implPacketText_any ⟨p0, p1, p2, p3, p4, p5⟩ w htab
set_option maxHeartbeats 2000000 in
theorem lawPt_walk (w : World) (p0 p1 p2 p3 p4 p5 : Int) (htab : Lib.TabBelow Tryd.prog w.heap.size w "internal/strconv.uint64pow10" .u64 Lib.pow10Tab) :
    Calls Tryd.prog 3 #[.agg #[.int .i64 p0, .int .i64 p1, .int .i64 p2, .int .i64 p3, .int .i64 p4, .int .i64 p5]] w fun e w' => e = .returned (.bool true) ∧ Below w.heap.size w w' := by
  obtain ⟨t, ht⟩ : ∃ t : ByteArray, t = if (⟨p0, p1, p2, p3, p4, p5⟩ : Pk).ok then ⟨(ptx ⟨p0, p1, p2, p3, p4, p5⟩).toArray⟩ else ⟨#[]⟩ := ⟨_, rfl⟩
  obtain ⟨b, hb⟩ : ∃ b : Bool, b = (⟨p0, p1, p2, p3, p4, p5⟩ : Pk).ok := ⟨_, rfl⟩
  have HSP := Lib.hid (specPt_v p0 p1 p2 p3 p4 p5 t b ht hb)
  have HIM := Lib.hid (implPt_v p0 p1 p2 p3 p4 p5 t b ht hb)
  have HT := Lib.hid htab
  clear ht hb htab
  have hee : (t.toList == t.toList) = true := beq_self_eq_true _
  go_enter Tryd.func3, Tryd.ntmps3
  go_wp2_with fail
  refine (toPacket_any _ _ _ _ _ _ _).mono ?_
  rintro e w1 ⟨rfl, hb1⟩
  have HB1 := Lib.hid (bt (ba (b0 w) _) hb1)
  have q : Bk w1 (w.heap.size) 23 #[.int .i64 p0, .int .i64 p1, .int .i64 p2, .int .i64 p3, .int .i64 p4, .int .i64 p5] := (Bk.new w _ _).old hb1
  have zq : w.heap.size < w1.heap.size := q.lt
  have q_0 : w1.cell? ⟨w.heap.size, 0, none⟩ = some (.int .i64 p0) := q.cell 0
  have q_1 : w1.cell? ⟨w.heap.size, 1, none⟩ = some (.int .i64 p1) := q.cell 1
  have q_2 : w1.cell? ⟨w.heap.size, 2, none⟩ = some (.int .i64 p2) := q.cell 2
  have q_3 : w1.cell? ⟨w.heap.size, 3, none⟩ = some (.int .i64 p3) := q.cell 3
  have q_4 : w1.cell? ⟨w.heap.size, 4, none⟩ = some (.int .i64 p4) := q.cell 4
  have q_5 : w1.cell? ⟨w.heap.size, 5, none⟩ = some (.int .i64 p5) := q.cell 5
  have qf := q.free
  have Hq := Lib.hid q
  clear q
  clear hb1
  go_wp2_with fail
  refine (HSP.out _).mono ?_
  rintro e w2 ⟨rfl, hb2⟩
  have HB2 := Lib.hid (bt HB1.out hb2)
  have HQ2 := Lib.hid (Hq.out.old hb2)
  clear hb2 q_0 q_1 q_2 q_3 q_4 q_5 qf zq
  have q : Bk w2 (w.heap.size) 23 #[.int .i64 p0, .int .i64 p1, .int .i64 p2, .int .i64 p3, .int .i64 p4, .int .i64 p5] := HQ2.out
  have zq : w.heap.size < w2.heap.size := q.lt
  have q_0 : w2.cell? ⟨w.heap.size, 0, none⟩ = some (.int .i64 p0) := q.cell 0
  have q_1 : w2.cell? ⟨w.heap.size, 1, none⟩ = some (.int .i64 p1) := q.cell 1
  have q_2 : w2.cell? ⟨w.heap.size, 2, none⟩ = some (.int .i64 p2) := q.cell 2
  have q_3 : w2.cell? ⟨w.heap.size, 3, none⟩ = some (.int .i64 p3) := q.cell 3
  have q_4 : w2.cell? ⟨w.heap.size, 4, none⟩ = some (.int .i64 p4) := q.cell 4
  have q_5 : w2.cell? ⟨w.heap.size, 5, none⟩ = some (.int .i64 p5) := q.cell 5
  have qf := q.free
  have Hq := Lib.hid q
  clear q
  go_wp2_with fail
  refine (toPacket_any _ _ _ _ _ _ _).mono ?_
  rintro e w3 ⟨rfl, hb3⟩
  have HB3 := Lib.hid (bt HB2.out hb3)
  clear hb3 q_0 q_1 q_2 q_3 q_4 q_5 qf zq
  go_wp2_with fail
  refine (HIM.out w3 (fun w' hb => HT.out w' (HB3.out.trans (hb.mono HB3.out.size)))).mono ?_
  rintro e w4 ⟨rfl, hb4⟩
  have HB4 := Lib.hid (bt HB3.out hb4)
  clear hb4
  go_wp2_with fail
  go_ret
  exact ⟨rfl, HB4.out⟩
end Go.Proofs.YtmkmcobomlchfaaDoor
