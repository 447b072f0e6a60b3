/- The contracts of what copies a queue and puts a packet into it, for greater counts. -/
import Derived.Test.YtgdldmeeaejjpaaPutTail
import Derived.Deep.RegionHeld3
namespace Go.Proofs.Ytgdldmeeaejjpaa
open Go.ChangeShapes Go.WideShapes Go.ChangeAt Go.RowKit
set_option linter.unusedVariables false
set_option maxRecDepth 100000 in
set_option maxHeartbeats 2000000 in
theorem quWithB_any (li by_ : Int) (A : Option Addr) (n cap : Nat) (se dr : Int) (X : Option Addr) (m c : Nat) (M : List Pk) (ds dd : Int) (w : World) (hm : M.length = m) (hr : IRow w X (fl M)) (hX : X = none → c = 0) (hmb : m ≤ 1048576)
    (s1 : 0 ≤ se ∧ se ≤ 4000000) (d1 : 0 ≤ dr ∧ dr ≤ 4000000) (s2 : 0 ≤ ds ∧ ds ≤ 4000000) (d2 : 0 ≤ dd ∧ dd ≤ 4000000) :
    Calls Try.prog 49 #[.agg #[.int .i64 li, .int .i64 by_, .slice A n cap, .int .i64 se, .int .i64 dr], .slice X m c, .int .i64 ds, .int .i64 dd] w (NewQ w li by_ m M (se + ds) (dr + dd)) := by
  have HM := Lib.hid (show (fl M).length = m * 6 by rw [fl_len, hm])
  have HR := Lib.hid (fun (W : World) (hb : Below w.heap.size w W) => hr.below hb)
  clear hm hr
  have HX := Lib.hid hX
  clear hX
  obtain ⟨i0, hi, hz0, hz1, hz2⟩ := info_parts tPacket
  have HI := Lib.hid hi
  have HZ0 := Lib.hid hz0
  have HZ1 := Lib.hid hz1
  have HZ2 := Lib.hid hz2
  clear hi hz0 hz1 hz2
  have ws : IntKind.i64.wrap (se + ds) = se + ds := IntWalk.i64_in _ (by omega)
  have wd : IntKind.i64.wrap (dr + dd) = dr + dd := IntWalk.i64_in _ (by omega)
  go_enter Try.func49, Try.ntmps49
  go_wp2_with fail
  obtain ⟨W, hW⟩ : ∃ W, W = ((w.alloc (.cells #[.int .i64 li, .int .i64 by_, .slice A n cap, .int .i64 se, .int .i64 dr] 30)).alloc (.cells #[.int .i64 0, .int .i64 0, .slice none 0 0, .int .i64 0, .int .i64 0] 30)) := ⟨_, rfl⟩
  rw [← hW]
  have b1 : Bk W w.heap.size 30 #[.int .i64 li, .int .i64 by_, .slice A n cap, .int .i64 se, .int .i64 dr] := by rw [hW]; exact (Bk.new w _ _).alloc _
  have b2 : Bk W (w.heap.size + 1) 30 #[.int .i64 0, .int .i64 0, .slice none 0 0, .int .i64 0, .int .i64 0] := by rw [hW]; exact Bk.new_ (by simp)
  have HBW := Lib.hid (show Below w.heap.size w W by rw [hW]; exact ba (ba (b0 w) _) _)
  have zW : W.heap.size = w.heap.size + 1 + 1 := by rw [hW]; simp
  have HZW := Lib.hid zW
  have zW1 : w.heap.size + 1 < W.heap.size := by omega
  have zW0 : w.heap.size < W.heap.size := by omega
  clear hW zW
  have k0 := b1.cell 0
  have k1 := b1.cell 1
  have k3 := b1.cell 3
  have k4 := b1.cell 4
  have l0 := b2.cell 0
  have l1 := b2.cell 1
  have l2 := b2.cell 2
  have l3 := b2.cell 3
  have l4 := b2.cell 4
  simp at k0 k1 k3 k4 l0 l1 l2 l3 l4
  have lf := b2.free
  have HB2 := Lib.hid b2
  clear b1 b2
  go_region_held3 (fun w' => w'.cell? ⟨w.heap.size, 0, none⟩ = some (.int .i64 li) ∧ w'.cell? ⟨w.heap.size, 1, none⟩ = some (.int .i64 by_) ∧ w'.cell? ⟨w.heap.size, 3, none⟩ = some (.int .i64 se) ∧ w'.cell? ⟨w.heap.size, 4, none⟩ = some (.int .i64 dr)) (first | go_keep | (go_split_ands; refine ⟨?_, ?_, ?_, ?_⟩ <;> first | exact (hb3.cell (p := ⟨w.heap.size, _, none⟩) zW0).trans (by assumption) | (rw [hb3.cell (p := ⟨w.heap.size, _, none⟩) zW0]; simp [k0, k1, k3, k4, zW0])))
    (first
      | (refine step_append_many (by rfl) _ _ _ (by rfl) _ i0 _ 6 48 Try.underlying28 HI.out HZ0.out HZ1.out HZ2.out rfl (by decide) (lo := W.heap.size) (hh := W.heap.size + 1) (l := []) (by rfl) (IOwn.lit0 W.drew _ _ _ (Nat.le_refl _)) (fl M) (by rfl) HX.out HM.out (HR.out _ (ba HBW.out.drew _)) (by omega) (by omega) (by simp) ?_; intro A' c' w4 ho3 hb3; have r3 := fun o => hb3.cell (p := ⟨w.heap.size + 1, o, none⟩) zW1; have rf3 := fun o => hb3.frozen (p := ⟨w.heap.size + 1, o, none⟩) zW1))
  have b4 := (HB2.out.alloc (.cells #[] 35)).drew.below hb3 zW1
  have n0 := b4.cell 0
  have n1 := b4.cell 1
  have n2 := b4.cell 2
  have n3 := b4.cell 3
  have n4 := b4.cell 4
  simp at n0 n1 n2 n3 n4
  have HB4 := Lib.hid ((ba HBW.out (.cells #[] 35)).drew.trans (hb3.mono (Nat.le_of_lt zW0)))
  simp only [Nat.zero_add, List.nil_append] at ho3
  have HO4 := Lib.hid (ho3.lo_le (lo' := w.heap.size + 1 + 1) (Nat.le_of_eq HZW.out.symm))
  clear ws wd b4 ho3 hb3 r3 rf3
  go_wp2_with fail
  refine bodyPost_ret (v := .agg #[.int .i64 li, .int .i64 by_, .slice A' m c', .int .i64 (se + ds), .int .i64 (dr + dd)]) (by simp [results, Try.results49, go_sem, n0, n1, n2, n3, n4]) rfl ⟨A', c', rfl, ?_, ?_⟩
  · exact (by refine IOw.here (lo := w.heap.size + 1 + 1) ?_ (by omega); repeat (first | (with_reducible exact IOw.of HO4.out) | (with_reducible refine IOw.alloc ?_ _) | (with_reducible refine IOw.farB ?_ (by omega)) | (with_reducible refine IOw.drewN ?_ _) | (with_reducible refine IOw.drew ?_)))
  · exact (by repeat (first | (with_reducible exact HB4.out) | (with_reducible refine ba ?_ _) | (with_reducible refine bsB ?_ (by omega)) | (with_reducible refine bd ?_ _) | (with_reducible refine Below.drew ?_)))
set_option maxHeartbeats 2000000 in
theorem quPutB_no (li by_ : Int) (A : Option Addr) (n cap : Nat) (se dr : Int) (L : List Pk) (p : Pk) (w : World) (hl : L.length = n) (hr : IRow w A (fl L)) (hA : A = none → cap = 0) (hn6 : n ≤ 1000) (hz : SzOk L) (ps : 0 ≤ p.si ∧ p.si ≤ 1500) (s1 : 0 ≤ se ∧ se ≤ 3000000) (d1 : 0 ≤ dr ∧ dr ≤ 3000000) (hro : room li by_ L p = false) :
    Calls Try.prog 52 #[.agg #[.int .i64 li, .int .i64 by_, .slice A n cap, .int .i64 se, .int .i64 dr], .agg #[.int .i64 (p.id), .int .i64 (p.so), .int .i64 (p.de), .int .i64 (p.po), .int .i64 (p.ma), .int .i64 (p.si)]] w (NewQB w li by_ n L se (dr + 1) false) := by
  have HL := Lib.hid hl; have HR := Lib.hid (fun (W : World) (hb : Below w.heap.size w W) => hr.below hb); have HA := Lib.hid hA; have HZ := Lib.hid hz; clear hl hr hA hz
  go_enter Try.func52, Try.ntmps52
  go_wp2_with fail
  refine (quRoom_any _ _ _ _ _ _ _ L _ _ HL.out (HR.out _ (ba (ba (ba (b0 w) _) _) _)) (by omega) HZ.out (by omega) ps).mono ?_
  rw [hro]
  rintro e w1 ⟨rfl, hg⟩
  have q : Bk w1 (w.heap.size) 30 #[.int .i64 li, .int .i64 by_, .slice A n cap, .int .i64 se, .int .i64 dr] := (((Bk.new w _ _).alloc _).alloc _).old hg
  have zq : w.heap.size < w1.heap.size := q.lt
  have q_0 : w1.cell? ⟨w.heap.size, 0, none⟩ = some (.int .i64 li) := q.cell 0
  have q_1 : w1.cell? ⟨w.heap.size, 1, none⟩ = some (.int .i64 by_) := q.cell 1
  have q_2 : w1.cell? ⟨w.heap.size, 2, none⟩ = some (.slice A n cap) := q.cell 2
  have q_3 : w1.cell? ⟨w.heap.size, 3, none⟩ = some (.int .i64 se) := q.cell 3
  have q_4 : w1.cell? ⟨w.heap.size, 4, none⟩ = some (.int .i64 dr) := q.cell 4
  have qf := q.free
  have Hq := Lib.hid q
  clear q
  have HB1 := Lib.hid (bt (ba (ba (ba (b0 w) _) _) _) hg)
  have R1 := Lib.hid (show Bk w1 (w.heap.size + 1 + 1) 30 #[.int .i64 0, .int .i64 0, .slice none 0 0, .int .i64 0, .int .i64 0] from (Bk.new_ (by simp)).old hg)
  have zz := hg.size
  simp at zz
  clear hg
  go_wp2_with fail
  refine (quWithB_any _ _ _ _ _ _ _ _ _ _ L _ _ _ HL.out (HR.out _ HB1.out) HA.out (by omega) (by omega) (by omega) (by omega) (by omega)).mono ?_
  rintro e w2 ⟨A2, c2, rfl, ho2, hg2⟩
  rw [Int.add_zero]
  have r : Bk w2 (w.heap.size + 1 + 1) 30 #[.int .i64 0, .int .i64 0, .slice none 0 0, .int .i64 0, .int .i64 0] := R1.out.old hg2
  have zr : w.heap.size + 1 + 1 < w2.heap.size := r.lt
  have r_0 : w2.cell? ⟨w.heap.size + 1 + 1, 0, none⟩ = some (.int .i64 0) := r.cell 0
  have r_1 : w2.cell? ⟨w.heap.size + 1 + 1, 1, none⟩ = some (.int .i64 0) := r.cell 1
  have r_2 : w2.cell? ⟨w.heap.size + 1 + 1, 2, none⟩ = some (.slice none 0 0) := r.cell 2
  have r_3 : w2.cell? ⟨w.heap.size + 1 + 1, 3, none⟩ = some (.int .i64 0) := r.cell 3
  have r_4 : w2.cell? ⟨w.heap.size + 1 + 1, 4, none⟩ = some (.int .i64 0) := r.cell 4
  have rf := r.free
  have Hr := Lib.hid r
  clear r
  have HO := Lib.hid (ho2.lo_le (lo' := w.heap.size + 1 + 1 + 1) (by omega))
  have HB := Lib.hid (bt HB1.out hg2)
  clear ho2 hg2 q_0 q_1 q_2 q_3 q_4 qf
  go_wp2_with fail
  refine bodyPost_ret (v := .tuple #[.agg #[.int .i64 li, .int .i64 by_, .slice A2 n c2, .int .i64 se, .int .i64 (dr + 1)], .bool false]) (by simp [results, Try.results52, go_sem, r_0, r_1, r_2, r_3, r_4]) rfl ⟨A2, c2, rfl, ?_, ?_⟩
  · exact (by refine IOw.here (lo := w.heap.size + 1 + 1 + 1) ?_ (by omega); repeat (first | (with_reducible exact IOw.of HO.out) | (with_reducible refine IOw.alloc ?_ _) | (with_reducible refine IOw.farB ?_ (by omega)) | (with_reducible refine IOw.drewN ?_ _) | (with_reducible refine IOw.drew ?_)))
  · exact (by repeat (first | (with_reducible exact HB.out) | (with_reducible refine ba ?_ _) | (with_reducible refine bsB ?_ (by omega)) | (with_reducible refine bd ?_ _) | (with_reducible refine Below.drew ?_)))
set_option maxHeartbeats 2000000 in
theorem quPutB_yes (li by_ : Int) (A : Option Addr) (n cap : Nat) (se dr : Int) (L : List Pk) (p : Pk) (w : World) (hl : L.length = n) (hr : IRow w A (fl L)) (hA : A = none → cap = 0) (hn6 : n ≤ 1000) (hz : SzOk L) (ps : 0 ≤ p.si ∧ p.si ≤ 1500) (s1 : 0 ≤ se ∧ se ≤ 3000000) (d1 : 0 ≤ dr ∧ dr ≤ 3000000) (hro : room li by_ L p = true) :
    Calls Try.prog 52 #[.agg #[.int .i64 li, .int .i64 by_, .slice A n cap, .int .i64 se, .int .i64 dr], .agg #[.int .i64 (p.id), .int .i64 (p.so), .int .i64 (p.de), .int .i64 (p.po), .int .i64 (p.ma), .int .i64 (p.si)]] w (NewQB w li by_ (n + 1) (L ++ [p]) se dr true) := by
  have HL := Lib.hid hl; have HR := Lib.hid (fun (W : World) (hb : Below w.heap.size w W) => hr.below hb); have HA := Lib.hid hA; have HZ := Lib.hid hz; clear hl hr hA hz
  go_enter Try.func52, Try.ntmps52
  go_wp2_with fail
  refine (quRoom_any _ _ _ _ _ _ _ L _ _ HL.out (HR.out _ (ba (ba (ba (b0 w) _) _) _)) (by omega) HZ.out (by omega) ps).mono ?_
  rw [hro]
  rintro e w1 ⟨rfl, hg⟩
  have q : Bk w1 (w.heap.size) 30 #[.int .i64 li, .int .i64 by_, .slice A n cap, .int .i64 se, .int .i64 dr] := (((Bk.new w _ _).alloc _).alloc _).old hg
  have zq : w.heap.size < w1.heap.size := q.lt
  have q_0 : w1.cell? ⟨w.heap.size, 0, none⟩ = some (.int .i64 li) := q.cell 0
  have q_1 : w1.cell? ⟨w.heap.size, 1, none⟩ = some (.int .i64 by_) := q.cell 1
  have q_2 : w1.cell? ⟨w.heap.size, 2, none⟩ = some (.slice A n cap) := q.cell 2
  have q_3 : w1.cell? ⟨w.heap.size, 3, none⟩ = some (.int .i64 se) := q.cell 3
  have q_4 : w1.cell? ⟨w.heap.size, 4, none⟩ = some (.int .i64 dr) := q.cell 4
  have qf := q.free
  have Hq := Lib.hid q
  clear q
  have HB1 := Lib.hid (bt (ba (ba (ba (b0 w) _) _) _) hg)
  have R1 := Lib.hid (show Bk w1 (w.heap.size + 1 + 1) 30 #[.int .i64 0, .int .i64 0, .slice none 0 0, .int .i64 0, .int .i64 0] from (Bk.new_ (by simp)).old hg)
  have P1 := Lib.hid (show Bk w1 (w.heap.size + 1) 35 #[.int .i64 p.id, .int .i64 p.so, .int .i64 p.de, .int .i64 p.po, .int .i64 p.ma, .int .i64 p.si] from ((Bk.new_ (by simp)).alloc _).old hg)
  have zz := hg.size
  simp at zz
  clear hg
  go_wp2_with fail
  refine (quWithB_any _ _ _ _ _ _ _ _ _ _ L _ _ _ HL.out (HR.out _ HB1.out) HA.out (by omega) (by omega) (by omega) (by omega) (by omega)).mono ?_
  rintro e w2 ⟨A2, c2, rfl, ho2, hg2⟩
  rw [Int.add_zero, Int.add_zero]
  have x : Bk w2 (w.heap.size + 1) 35 #[.int .i64 p.id, .int .i64 p.so, .int .i64 p.de, .int .i64 p.po, .int .i64 p.ma, .int .i64 p.si] := P1.out.old hg2
  have zx : w.heap.size + 1 < w2.heap.size := x.lt
  have x_0 : w2.cell? ⟨w.heap.size + 1, 0, none⟩ = some (.int .i64 p.id) := x.cell 0
  have x_1 : w2.cell? ⟨w.heap.size + 1, 1, none⟩ = some (.int .i64 p.so) := x.cell 1
  have x_2 : w2.cell? ⟨w.heap.size + 1, 2, none⟩ = some (.int .i64 p.de) := x.cell 2
  have x_3 : w2.cell? ⟨w.heap.size + 1, 3, none⟩ = some (.int .i64 p.po) := x.cell 3
  have x_4 : w2.cell? ⟨w.heap.size + 1, 4, none⟩ = some (.int .i64 p.ma) := x.cell 4
  have x_5 : w2.cell? ⟨w.heap.size + 1, 5, none⟩ = some (.int .i64 p.si) := x.cell 5
  have xf := x.free
  have Hx := Lib.hid x
  clear x
  have R2 := Lib.hid (R1.out.old hg2)
  have zz2 := hg2.size
  have HO := Lib.hid (ho2.lo_le (lo' := w.heap.size + 1 + 1 + 1) (by omega))
  have HB := Lib.hid (bt HB1.out hg2)
  clear ho2 hg2 q_0 q_1 q_2 q_3 q_4 qf
  have zx : w.heap.size + 1 < w2.heap.size := by omega
  go_wp2_with (at_builtin; refine append_pkC rfl _ _ rfl (lo := w.heap.size + 1 + 1 + 1) (hh := w2.heap.size) (L := L) rfl ((HO.out.alloc _).alloc _) (w2.heap.size + 1) p rfl (Bk.new_ (by simp)) (by omega) (by simp; omega) ?_; intro A3 c3 w4 ho3 hc3; obtain ⟨ta, tb, t1, t2, t3, t4, ho4⟩ := ho3.apart (g := w2.heap.size) (t := 30) (((Bk.new_ rfl).alloc _).chg hc3 (by omega)) (by decide) (by have := hc3.size; simp at this; omega); have HO4 := Lib.hid ho4; have HC := Lib.hid hc3; have HK := Lib.hid (show Bk w4 w2.heap.size 30 #[.int .i64 li, .int .i64 by_, .slice A2 n c2, .int .i64 se, .int .i64 dr] from ((Bk.new_ rfl).alloc _).chg hc3 (by omega)); have kf := HK.out.free; have kz := HK.out.lt; have k0 := HK.out.cell 0; have k1 := HK.out.cell 1; have k2 := HK.out.cell 2; have k3 := HK.out.cell 3; have k4 := HK.out.cell 4; have HR4 := Lib.hid (((R2.out.alloc _).alloc _).chg hc3 (by omega)); have rf := HR4.out.free; have rz := HR4.out.lt; have r0 := HR4.out.cell 0; have r1 := HR4.out.cell 1; have r2 := HR4.out.cell 2; have r3 := HR4.out.cell 3; have r4 := HR4.out.cell 4; simp at k0 k1 k2 k3 k4 r0 r1 r2 r3 r4; clear ho3 hc3 ho4 x_0 x_1 x_2 x_3 x_4 x_5 xf)
  have tl : w.heap.size + 1 + 1 < ta ∨ tb ≤ w.heap.size + 1 + 1 := by omega
  refine bodyPost_ret (v := .tuple #[.agg #[.int .i64 li, .int .i64 by_, .slice A3 (n + 1) c3, .int .i64 se, .int .i64 dr], .bool true]) (by simp [results, Try.results52, go_sem, r0, r1, r2, r3, r4]) rfl ⟨A3, c3, rfl, ?_, ?_⟩
  · exact (((((((HO4.out.far (p := ⟨w2.heap.size, 2, none⟩) t4 _).far (p := ⟨w.heap.size + 1 + 1, 0, none⟩) tl _).far (p := ⟨w.heap.size + 1 + 1, 1, none⟩) tl _).far (p := ⟨w.heap.size + 1 + 1, 2, none⟩) tl _).far (p := ⟨w.heap.size + 1 + 1, 3, none⟩) tl _).far (p := ⟨w.heap.size + 1 + 1, 4, none⟩) tl _).lo_le (by omega)).here
  · have HB4 := Lib.hid (Chg.below (ba (ba HB.out _) _) HC.out (by omega))
    exact (by repeat (first | (with_reducible exact HB4.out) | (with_reducible refine ba ?_ _) | (with_reducible refine bsB ?_ (by omega)) | (with_reducible refine bd ?_ _) | (with_reducible refine Below.drew ?_)))
end Go.Proofs.Ytgdldmeeaejjpaa
