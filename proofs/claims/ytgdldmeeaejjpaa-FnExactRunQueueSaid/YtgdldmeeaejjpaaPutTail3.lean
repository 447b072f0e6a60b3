/- The contracts of the program's PutTail. -/
import Derived.Test.YtgdldmeeaejjpaaPutTail2
namespace Go.Proofs.Ytgdldmeeaejjpaa
open Go.ChangeShapes Go.WideShapes Go.ChangeAt Go.RowKit
set_option linter.unusedVariables false
set_option maxHeartbeats 4000000 in
theorem implPutTail_put (li by_ : Int) (A : Option Addr) (n cap : Nat) (se dr : Int) (L : List Pk) (p : Pk) (w : World) (hl : L.length = n) (hr : IRow w A (fl L)) (hn : n ≤ 1048576) (hcap : n ≤ cap) (hA : A = none → cap = 0) (h : askd li by_ L se dr p = true) (hro : room li by_ L p = true) :
    Calls Try.prog 67 #[.agg #[.int .i64 li, .int .i64 by_, .slice A n cap, .int .i64 se, .int .i64 dr], .agg #[.int .i64 (p.id), .int .i64 (p.so), .int .i64 (p.de), .int .i64 (p.po), .int .i64 (p.ma), .int .i64 (p.si)]] w (PtP w li by_ L se dr p) := by
  rw [PtP_put h hro]
  have HR := Lib.hid (fun (W : World) (hb : Below w.heap.size w W) => hr.below hb)
  have HH := Lib.hid h
  have g := qok_iff.1 (askd_iff.1 h).1
  have HQ := Lib.hid (askd_iff.1 h).1
  have pg := Pk.ok_iff.1 (askd_iff.1 h).2.1
  have ps : 0 ≤ p.si ∧ p.si ≤ 1500 := by omega
  have HZ := Lib.hid (apart_sz g.2.2.2.2.2.1)
  have hn6 : n ≤ 60 := by omega
  have hse := cnt_iff.2 g.2.2.2.1
  have hdr := cnt_iff.2 g.2.2.2.2.1
  have d1 : 0 ≤ dr ∧ dr ≤ 1000000 := g.2.2.2.2.1
  clear g pg hr hA
  subst hl
  go_enter Try.func67, Try.ntmps67
  go_wp2_with fail
  refine (canPut_any _ _ _ _ _ _ _ L _ _ rfl (HR.out _ (ba (ba (ba (b0 w) _) _) _)) hn hcap).mono ?_
  rw [h]
  rintro e w1 ⟨rfl, hg⟩
  clear h
  have q : Bk w1 (w.heap.size) 30 #[.int .i64 li, .int .i64 by_, .slice A L.length cap, .int .i64 se, .int .i64 dr] := (((Bk.new w _ _).alloc _).alloc _).old hg
  have zq : w.heap.size < w1.heap.size := q.lt
  have q_0 : w1.cell? ⟨w.heap.size, 0, none⟩ = some (.int .i64 li) := q.cell 0
  have q_1 : w1.cell? ⟨w.heap.size, 1, none⟩ = some (.int .i64 by_) := q.cell 1
  have q_2 : w1.cell? ⟨w.heap.size, 2, none⟩ = some (.slice A L.length cap) := q.cell 2
  have q_3 : w1.cell? ⟨w.heap.size, 3, none⟩ = some (.int .i64 se) := q.cell 3
  have q_4 : w1.cell? ⟨w.heap.size, 4, none⟩ = some (.int .i64 dr) := q.cell 4
  have qf := q.free
  have Hq := Lib.hid q
  clear q
  have X1 := Lib.hid (show Bk w1 (w.heap.size + 1) 35 #[.int .i64 p.id, .int .i64 p.so, .int .i64 p.de, .int .i64 p.po, .int .i64 p.ma, .int .i64 p.si] from ((Bk.new_ (by simp)).alloc _).old hg)
  have R1 := Lib.hid (show Bk w1 (w.heap.size + 1 + 1) 30 #[.int .i64 0, .int .i64 0, .slice none 0 0, .int .i64 0, .int .i64 0] from (Bk.new_ (by simp)).old hg)
  have HB1 := Lib.hid (bt (ba (ba (ba (b0 w) _) _) _) hg)
  have zz := hg.size
  simp at zz
  clear hg
  go_wp2_with fail
  refine (copyQueue_any _ _ _ _ _ _ _ L _ rfl (HR.out _ HB1.out) hn).mono ?_
  rintro e w2 ⟨A2, c2, rfl, ho2, hg2⟩
  have zz2 := hg2.size
  have X2 := Lib.hid (X1.out.old hg2)
  have R2 := Lib.hid (R1.out.old hg2)
  have HO2 := Lib.hid (ho2.lo_le (lo' := w.heap.size + 1 + 1 + 1) (by omega))
  have HB2 := Lib.hid (bt HB1.out hg2)
  have Q2 := Lib.hid (Hq.out.old hg2)
  clear ho2 hg2 q_0 q_1 q_2 q_3 q_4 qf zq
  have q : Bk w2 (w.heap.size) 30 #[.int .i64 li, .int .i64 by_, .slice A L.length cap, .int .i64 se, .int .i64 dr] := Q2.out
  have zq : w.heap.size < w2.heap.size := q.lt
  have q_0 : w2.cell? ⟨w.heap.size, 0, none⟩ = some (.int .i64 li) := q.cell 0
  have q_1 : w2.cell? ⟨w.heap.size, 1, none⟩ = some (.int .i64 by_) := q.cell 1
  have q_2 : w2.cell? ⟨w.heap.size, 2, none⟩ = some (.slice A L.length cap) := q.cell 2
  have q_3 : w2.cell? ⟨w.heap.size, 3, none⟩ = some (.int .i64 se) := q.cell 3
  have q_4 : w2.cell? ⟨w.heap.size, 4, none⟩ = some (.int .i64 dr) := q.cell 4
  have qf := q.free
  have Hq := Lib.hid q
  clear q
  have x : Bk w2 (w.heap.size + 1) 35 #[.int .i64 p.id, .int .i64 p.so, .int .i64 p.de, .int .i64 p.po, .int .i64 p.ma, .int .i64 p.si] := X2.out
  have zx : w.heap.size + 1 < w2.heap.size := x.lt
  have x_0 : w2.cell? ⟨w.heap.size + 1, 0, none⟩ = some (.int .i64 p.id) := x.cell 0
  have x_1 : w2.cell? ⟨w.heap.size + 1, 1, none⟩ = some (.int .i64 p.so) := x.cell 1
  have x_2 : w2.cell? ⟨w.heap.size + 1, 2, none⟩ = some (.int .i64 p.de) := x.cell 2
  have x_3 : w2.cell? ⟨w.heap.size + 1, 3, none⟩ = some (.int .i64 p.po) := x.cell 3
  have x_4 : w2.cell? ⟨w.heap.size + 1, 4, none⟩ = some (.int .i64 p.ma) := x.cell 4
  have x_5 : w2.cell? ⟨w.heap.size + 1, 5, none⟩ = some (.int .i64 p.si) := x.cell 5
  have xf := x.free
  have Hx := Lib.hid x
  clear x
  go_wp2_with fail
  refine (hasRoom_any _ _ _ _ _ _ _ L _ _ rfl (HR.out _ (ba HB2.out _)) hn HZ.out (by omega) ps).mono ?_
  rw [hro]
  rintro e w3 ⟨rfl, hg3⟩
  have zz3 := hg3.size
  simp at zz3
  have HO3 := Lib.hid ((HO2.out.alloc _).old hg3)
  have HB3 := Lib.hid (bt (ba HB2.out _) hg3)
  have X3 := Lib.hid ((X2.out.alloc _).old hg3)
  have R3 := Lib.hid ((R2.out.alloc _).old hg3)
  have O3 := Lib.hid (show Bk w3 w2.heap.size 30 #[.int .i64 li, .int .i64 by_, .slice A2 L.length c2, .int .i64 se, .int .i64 dr] from (Bk.new_ rfl).old hg3)
  clear hg3 q_0 q_1 q_2 q_3 q_4 qf zq x_0 x_1 x_2 x_3 x_4 x_5 xf zx
  have o : Bk w3 (w2.heap.size) 30 #[.int .i64 li, .int .i64 by_, .slice A2 L.length c2, .int .i64 se, .int .i64 dr] := O3.out
  have zo : w2.heap.size < w3.heap.size := o.lt
  have o_0 : w3.cell? ⟨w2.heap.size, 0, none⟩ = some (.int .i64 li) := o.cell 0
  have o_1 : w3.cell? ⟨w2.heap.size, 1, none⟩ = some (.int .i64 by_) := o.cell 1
  have o_2 : w3.cell? ⟨w2.heap.size, 2, none⟩ = some (.slice A2 L.length c2) := o.cell 2
  have o_3 : w3.cell? ⟨w2.heap.size, 3, none⟩ = some (.int .i64 se) := o.cell 3
  have o_4 : w3.cell? ⟨w2.heap.size, 4, none⟩ = some (.int .i64 dr) := o.cell 4
  have of := o.free
  have Ho := Lib.hid o
  clear o
  have x : Bk w3 (w.heap.size + 1) 35 #[.int .i64 p.id, .int .i64 p.so, .int .i64 p.de, .int .i64 p.po, .int .i64 p.ma, .int .i64 p.si] := X3.out
  have zx : w.heap.size + 1 < w3.heap.size := x.lt
  have x_0 : w3.cell? ⟨w.heap.size + 1, 0, none⟩ = some (.int .i64 p.id) := x.cell 0
  have x_1 : w3.cell? ⟨w.heap.size + 1, 1, none⟩ = some (.int .i64 p.so) := x.cell 1
  have x_2 : w3.cell? ⟨w.heap.size + 1, 2, none⟩ = some (.int .i64 p.de) := x.cell 2
  have x_3 : w3.cell? ⟨w.heap.size + 1, 3, none⟩ = some (.int .i64 p.po) := x.cell 3
  have x_4 : w3.cell? ⟨w.heap.size + 1, 4, none⟩ = some (.int .i64 p.ma) := x.cell 4
  have x_5 : w3.cell? ⟨w.heap.size + 1, 5, none⟩ = some (.int .i64 p.si) := x.cell 5
  have xf := x.free
  have Hx := Lib.hid x
  clear x
  go_wp2_with (at_builtin; refine append_pkC rfl _ _ rfl (lo := w.heap.size + 1 + 1 + 1) (hh := w2.heap.size) (L := L) rfl (HO3.out.alloc _) w3.heap.size p rfl (Bk.new_ rfl) (by omega) (by simp; omega) ?_; intro A3 c3 w4 ho4 hc4; have HO4 := Lib.hid ho4; have zz4 := hc4.size; simp at zz4; have HB4 := Lib.hid (Chg.below (ba HB3.out _) hc4 (by omega)); have O4 := Lib.hid ((O3.out.alloc _).chg hc4 (by omega)); have R4 := Lib.hid ((R3.out.alloc _).chg hc4 (by omega)); have kf := O4.out.free; have kz := O4.out.lt; have k0 := O4.out.cell 0; have k1 := O4.out.cell 1; have k2 := O4.out.cell 2; have k3 := O4.out.cell 3; have k4 := O4.out.cell 4; simp at k0 k1 k2 k3 k4; clear ho4 hc4 o_0 o_1 o_2 o_3 o_4 of x_0 x_1 x_2 x_3 x_4 x_5 xf)
  refine (ifQueue_any _ _ _ _ _ _ _ _).mono ?_
  rw [hse, hdr]
  rintro e w5 ⟨rfl, hg5⟩
  obtain ⟨ta, tb, t1, t2, t3, t4, ho5⟩ := HO4.out.apart (g := w2.heap.size) O4.out (by decide) (by omega)
  have tl : w.heap.size + 1 + 1 < ta ∨ tb ≤ w.heap.size + 1 + 1 := by omega
  have HO5 := Lib.hid ((ho5.far (p := ⟨w2.heap.size, 2, none⟩) t4 _).old hg5)
  have HB5 := Lib.hid (bt (bsB (o := 2) (u := .slice A3 (L.length + 1) c3) HB4.out (show w.heap.size ≤ w2.heap.size by omega)) hg5)
  have O5 := Lib.hid (show Bk w5 w2.heap.size 30 #[.int .i64 li, .int .i64 by_, .slice A3 (L.length + 1) c3, .int .i64 se, .int .i64 dr] from (O4.out.set 2 _).old hg5)
  have R5 := Lib.hid (show Bk w5 (w.heap.size + 1 + 1) 30 #[.int .i64 0, .int .i64 0, .slice none 0 0, .int .i64 0, .int .i64 0] from (R4.out.farB (by omega)).old hg5)
  clear hg5 ho5 k0 k1 k2 k3 k4 kf kz
  have o : Bk w5 (w2.heap.size) 30 #[.int .i64 li, .int .i64 by_, .slice A3 (L.length + 1) c3, .int .i64 se, .int .i64 dr] := O5.out
  have zo : w2.heap.size < w5.heap.size := o.lt
  have o_0 : w5.cell? ⟨w2.heap.size, 0, none⟩ = some (.int .i64 li) := o.cell 0
  have o_1 : w5.cell? ⟨w2.heap.size, 1, none⟩ = some (.int .i64 by_) := o.cell 1
  have o_2 : w5.cell? ⟨w2.heap.size, 2, none⟩ = some (.slice A3 (L.length + 1) c3) := o.cell 2
  have o_3 : w5.cell? ⟨w2.heap.size, 3, none⟩ = some (.int .i64 se) := o.cell 3
  have o_4 : w5.cell? ⟨w2.heap.size, 4, none⟩ = some (.int .i64 dr) := o.cell 4
  have of := o.free
  have Ho := Lib.hid o
  clear o
  have r : Bk w5 (w.heap.size + 1 + 1) 30 #[.int .i64 0, .int .i64 0, .slice none 0 0, .int .i64 0, .int .i64 0] := R5.out
  have zr : w.heap.size + 1 + 1 < w5.heap.size := r.lt
  have r_0 : w5.cell? ⟨w.heap.size + 1 + 1, 0, none⟩ = some (.int .i64 0) := r.cell 0
  have r_1 : w5.cell? ⟨w.heap.size + 1 + 1, 1, none⟩ = some (.int .i64 0) := r.cell 1
  have r_2 : w5.cell? ⟨w.heap.size + 1 + 1, 2, none⟩ = some (.slice none 0 0) := r.cell 2
  have r_3 : w5.cell? ⟨w.heap.size + 1 + 1, 3, none⟩ = some (.int .i64 0) := r.cell 3
  have r_4 : w5.cell? ⟨w.heap.size + 1 + 1, 4, none⟩ = some (.int .i64 0) := r.cell 4
  have rf := r.free
  have Hr := Lib.hid r
  clear r
  go_wp2_with fail
  refine bodyPost_ret (v := .tuple #[.agg #[.int .i64 li, .int .i64 by_, .slice A3 (L.length + 1) c3, .int .i64 se, .int .i64 dr], .bool true, .bool true]) (by simp [results, Try.results67, go_sem, r_0, r_1, r_2, r_3, r_4]) rfl ⟨_, _, rfl, ?_, ?_⟩
  · exact ((((((HO5.out.far (p := ⟨w.heap.size + 1 + 1, 0, none⟩) tl _).far (p := ⟨w.heap.size + 1 + 1, 1, none⟩) tl _).far (p := ⟨w.heap.size + 1 + 1, 2, none⟩) tl _).far (p := ⟨w.heap.size + 1 + 1, 3, none⟩) tl _).far (p := ⟨w.heap.size + 1 + 1, 4, none⟩) tl _).lo_le (by omega)).here
  · exact (by repeat (first | (with_reducible exact HB5.out) | (with_reducible refine ba ?_ _) | (with_reducible refine bsB ?_ (by omega)) | (with_reducible refine bd ?_ _) | (with_reducible refine Below.drew ?_)))
set_option maxHeartbeats 4000000 in
theorem implPutTail_full (li by_ : Int) (A : Option Addr) (n cap : Nat) (se dr : Int) (L : List Pk) (p : Pk) (w : World) (hl : L.length = n) (hr : IRow w A (fl L)) (hn : n ≤ 1048576) (hcap : n ≤ cap) (hA : A = none → cap = 0) (h : askd li by_ L se dr p = true) (hro : room li by_ L p = false) (hc : cnt (dr + 1) = true) :
    Calls Try.prog 67 #[.agg #[.int .i64 li, .int .i64 by_, .slice A n cap, .int .i64 se, .int .i64 dr], .agg #[.int .i64 (p.id), .int .i64 (p.so), .int .i64 (p.de), .int .i64 (p.po), .int .i64 (p.ma), .int .i64 (p.si)]] w (PtP w li by_ L se dr p) := by
  rw [PtP_full h hro hc]
  have HR := Lib.hid (fun (W : World) (hb : Below w.heap.size w W) => hr.below hb)
  have HH := Lib.hid h
  have g := qok_iff.1 (askd_iff.1 h).1
  have HQ := Lib.hid (askd_iff.1 h).1
  have pg := Pk.ok_iff.1 (askd_iff.1 h).2.1
  have ps : 0 ≤ p.si ∧ p.si ≤ 1500 := by omega
  have HZ := Lib.hid (apart_sz g.2.2.2.2.2.1)
  have hn6 : n ≤ 60 := by omega
  have hse := cnt_iff.2 g.2.2.2.1
  have hdr := cnt_iff.2 g.2.2.2.2.1
  have d1 : 0 ≤ dr ∧ dr ≤ 1000000 := g.2.2.2.2.1
  clear g pg hr hA
  subst hl
  go_enter Try.func67, Try.ntmps67
  go_wp2_with fail
  refine (canPut_any _ _ _ _ _ _ _ L _ _ rfl (HR.out _ (ba (ba (ba (b0 w) _) _) _)) hn hcap).mono ?_
  rw [h]
  rintro e w1 ⟨rfl, hg⟩
  clear h
  have q : Bk w1 (w.heap.size) 30 #[.int .i64 li, .int .i64 by_, .slice A L.length cap, .int .i64 se, .int .i64 dr] := (((Bk.new w _ _).alloc _).alloc _).old hg
  have zq : w.heap.size < w1.heap.size := q.lt
  have q_0 : w1.cell? ⟨w.heap.size, 0, none⟩ = some (.int .i64 li) := q.cell 0
  have q_1 : w1.cell? ⟨w.heap.size, 1, none⟩ = some (.int .i64 by_) := q.cell 1
  have q_2 : w1.cell? ⟨w.heap.size, 2, none⟩ = some (.slice A L.length cap) := q.cell 2
  have q_3 : w1.cell? ⟨w.heap.size, 3, none⟩ = some (.int .i64 se) := q.cell 3
  have q_4 : w1.cell? ⟨w.heap.size, 4, none⟩ = some (.int .i64 dr) := q.cell 4
  have qf := q.free
  have Hq := Lib.hid q
  clear q
  have X1 := Lib.hid (show Bk w1 (w.heap.size + 1) 35 #[.int .i64 p.id, .int .i64 p.so, .int .i64 p.de, .int .i64 p.po, .int .i64 p.ma, .int .i64 p.si] from ((Bk.new_ (by simp)).alloc _).old hg)
  have R1 := Lib.hid (show Bk w1 (w.heap.size + 1 + 1) 30 #[.int .i64 0, .int .i64 0, .slice none 0 0, .int .i64 0, .int .i64 0] from (Bk.new_ (by simp)).old hg)
  have HB1 := Lib.hid (bt (ba (ba (ba (b0 w) _) _) _) hg)
  have zz := hg.size
  simp at zz
  clear hg
  go_wp2_with fail
  refine (copyQueue_any _ _ _ _ _ _ _ L _ rfl (HR.out _ HB1.out) hn).mono ?_
  rintro e w2 ⟨A2, c2, rfl, ho2, hg2⟩
  have zz2 := hg2.size
  have X2 := Lib.hid (X1.out.old hg2)
  have R2 := Lib.hid (R1.out.old hg2)
  have HO2 := Lib.hid (ho2.lo_le (lo' := w.heap.size + 1 + 1 + 1) (by omega))
  have HB2 := Lib.hid (bt HB1.out hg2)
  have Q2 := Lib.hid (Hq.out.old hg2)
  clear ho2 hg2 q_0 q_1 q_2 q_3 q_4 qf zq
  have q : Bk w2 (w.heap.size) 30 #[.int .i64 li, .int .i64 by_, .slice A L.length cap, .int .i64 se, .int .i64 dr] := Q2.out
  have zq : w.heap.size < w2.heap.size := q.lt
  have q_0 : w2.cell? ⟨w.heap.size, 0, none⟩ = some (.int .i64 li) := q.cell 0
  have q_1 : w2.cell? ⟨w.heap.size, 1, none⟩ = some (.int .i64 by_) := q.cell 1
  have q_2 : w2.cell? ⟨w.heap.size, 2, none⟩ = some (.slice A L.length cap) := q.cell 2
  have q_3 : w2.cell? ⟨w.heap.size, 3, none⟩ = some (.int .i64 se) := q.cell 3
  have q_4 : w2.cell? ⟨w.heap.size, 4, none⟩ = some (.int .i64 dr) := q.cell 4
  have qf := q.free
  have Hq := Lib.hid q
  clear q
  have x : Bk w2 (w.heap.size + 1) 35 #[.int .i64 p.id, .int .i64 p.so, .int .i64 p.de, .int .i64 p.po, .int .i64 p.ma, .int .i64 p.si] := X2.out
  have zx : w.heap.size + 1 < w2.heap.size := x.lt
  have x_0 : w2.cell? ⟨w.heap.size + 1, 0, none⟩ = some (.int .i64 p.id) := x.cell 0
  have x_1 : w2.cell? ⟨w.heap.size + 1, 1, none⟩ = some (.int .i64 p.so) := x.cell 1
  have x_2 : w2.cell? ⟨w.heap.size + 1, 2, none⟩ = some (.int .i64 p.de) := x.cell 2
  have x_3 : w2.cell? ⟨w.heap.size + 1, 3, none⟩ = some (.int .i64 p.po) := x.cell 3
  have x_4 : w2.cell? ⟨w.heap.size + 1, 4, none⟩ = some (.int .i64 p.ma) := x.cell 4
  have x_5 : w2.cell? ⟨w.heap.size + 1, 5, none⟩ = some (.int .i64 p.si) := x.cell 5
  have xf := x.free
  have Hx := Lib.hid x
  clear x
  go_wp2_with fail
  refine (hasRoom_any _ _ _ _ _ _ _ L _ _ rfl (HR.out _ (ba HB2.out _)) hn HZ.out (by omega) ps).mono ?_
  rw [hro]
  rintro e w3 ⟨rfl, hg3⟩
  have zz3 := hg3.size
  simp at zz3
  have HO3 := Lib.hid ((HO2.out.alloc _).old hg3)
  have HB3 := Lib.hid (bt (ba HB2.out _) hg3)
  have X3 := Lib.hid ((X2.out.alloc _).old hg3)
  have R3 := Lib.hid ((R2.out.alloc _).old hg3)
  have O3 := Lib.hid (show Bk w3 w2.heap.size 30 #[.int .i64 li, .int .i64 by_, .slice A2 L.length c2, .int .i64 se, .int .i64 dr] from (Bk.new_ rfl).old hg3)
  clear hg3 q_0 q_1 q_2 q_3 q_4 qf zq x_0 x_1 x_2 x_3 x_4 x_5 xf zx
  have o : Bk w3 (w2.heap.size) 30 #[.int .i64 li, .int .i64 by_, .slice A2 L.length c2, .int .i64 se, .int .i64 dr] := O3.out
  have zo : w2.heap.size < w3.heap.size := o.lt
  have o_0 : w3.cell? ⟨w2.heap.size, 0, none⟩ = some (.int .i64 li) := o.cell 0
  have o_1 : w3.cell? ⟨w2.heap.size, 1, none⟩ = some (.int .i64 by_) := o.cell 1
  have o_2 : w3.cell? ⟨w2.heap.size, 2, none⟩ = some (.slice A2 L.length c2) := o.cell 2
  have o_3 : w3.cell? ⟨w2.heap.size, 3, none⟩ = some (.int .i64 se) := o.cell 3
  have o_4 : w3.cell? ⟨w2.heap.size, 4, none⟩ = some (.int .i64 dr) := o.cell 4
  have of := o.free
  have Ho := Lib.hid o
  clear o
  have x : Bk w3 (w.heap.size + 1) 35 #[.int .i64 p.id, .int .i64 p.so, .int .i64 p.de, .int .i64 p.po, .int .i64 p.ma, .int .i64 p.si] := X3.out
  have zx : w.heap.size + 1 < w3.heap.size := x.lt
  have x_0 : w3.cell? ⟨w.heap.size + 1, 0, none⟩ = some (.int .i64 p.id) := x.cell 0
  have x_1 : w3.cell? ⟨w.heap.size + 1, 1, none⟩ = some (.int .i64 p.so) := x.cell 1
  have x_2 : w3.cell? ⟨w.heap.size + 1, 2, none⟩ = some (.int .i64 p.de) := x.cell 2
  have x_3 : w3.cell? ⟨w.heap.size + 1, 3, none⟩ = some (.int .i64 p.po) := x.cell 3
  have x_4 : w3.cell? ⟨w.heap.size + 1, 4, none⟩ = some (.int .i64 p.ma) := x.cell 4
  have x_5 : w3.cell? ⟨w.heap.size + 1, 5, none⟩ = some (.int .i64 p.si) := x.cell 5
  have xf := x.free
  have Hx := Lib.hid x
  clear x
  go_wp2_with fail
  refine (ifQueue_any _ _ _ _ _ _ _ _).mono ?_
  rw [hse, hc]
  rintro e w5 ⟨rfl, hg5⟩
  obtain ⟨ta, tb, t1, t2, t3, t4, ho5⟩ := HO3.out.apart (g := w2.heap.size) O3.out (by decide) (by omega)
  have tl : w.heap.size + 1 + 1 < ta ∨ tb ≤ w.heap.size + 1 + 1 := by omega
  have HO5 := Lib.hid ((ho5.far (p := ⟨w2.heap.size, 4, none⟩) t4 _).old hg5)
  have HB5 := Lib.hid (bt (bsB (o := 4) (u := .int .i64 (dr + 1)) HB3.out (show w.heap.size ≤ w2.heap.size by omega)) hg5)
  have O5 := Lib.hid (show Bk w5 w2.heap.size 30 #[.int .i64 li, .int .i64 by_, .slice A2 L.length c2, .int .i64 se, .int .i64 (dr + 1)] from (O3.out.set 4 _).old hg5)
  have R5 := Lib.hid (show Bk w5 (w.heap.size + 1 + 1) 30 #[.int .i64 0, .int .i64 0, .slice none 0 0, .int .i64 0, .int .i64 0] from (R3.out.farB (by omega)).old hg5)
  clear hg5 ho5 o_0 o_1 o_2 o_3 o_4 of zo x_0 x_1 x_2 x_3 x_4 x_5 xf
  have o : Bk w5 (w2.heap.size) 30 #[.int .i64 li, .int .i64 by_, .slice A2 L.length c2, .int .i64 se, .int .i64 (dr + 1)] := O5.out
  have zo : w2.heap.size < w5.heap.size := o.lt
  have o_0 : w5.cell? ⟨w2.heap.size, 0, none⟩ = some (.int .i64 li) := o.cell 0
  have o_1 : w5.cell? ⟨w2.heap.size, 1, none⟩ = some (.int .i64 by_) := o.cell 1
  have o_2 : w5.cell? ⟨w2.heap.size, 2, none⟩ = some (.slice A2 L.length c2) := o.cell 2
  have o_3 : w5.cell? ⟨w2.heap.size, 3, none⟩ = some (.int .i64 se) := o.cell 3
  have o_4 : w5.cell? ⟨w2.heap.size, 4, none⟩ = some (.int .i64 (dr + 1)) := o.cell 4
  have of := o.free
  have Ho := Lib.hid o
  clear o
  have r : Bk w5 (w.heap.size + 1 + 1) 30 #[.int .i64 0, .int .i64 0, .slice none 0 0, .int .i64 0, .int .i64 0] := R5.out
  have zr : w.heap.size + 1 + 1 < w5.heap.size := r.lt
  have r_0 : w5.cell? ⟨w.heap.size + 1 + 1, 0, none⟩ = some (.int .i64 0) := r.cell 0
  have r_1 : w5.cell? ⟨w.heap.size + 1 + 1, 1, none⟩ = some (.int .i64 0) := r.cell 1
  have r_2 : w5.cell? ⟨w.heap.size + 1 + 1, 2, none⟩ = some (.slice none 0 0) := r.cell 2
  have r_3 : w5.cell? ⟨w.heap.size + 1 + 1, 3, none⟩ = some (.int .i64 0) := r.cell 3
  have r_4 : w5.cell? ⟨w.heap.size + 1 + 1, 4, none⟩ = some (.int .i64 0) := r.cell 4
  have rf := r.free
  have Hr := Lib.hid r
  clear r
  go_wp2_with fail
  refine bodyPost_ret (v := .tuple #[.agg #[.int .i64 li, .int .i64 by_, .slice A2 L.length c2, .int .i64 se, .int .i64 (dr + 1)], .bool false, .bool true]) (by simp [results, Try.results67, go_sem, r_0, r_1, r_2, r_3, r_4]) rfl ⟨_, _, rfl, ?_, ?_⟩
  · exact ((((((HO5.out.far (p := ⟨w.heap.size + 1 + 1, 0, none⟩) tl _).far (p := ⟨w.heap.size + 1 + 1, 1, none⟩) tl _).far (p := ⟨w.heap.size + 1 + 1, 2, none⟩) tl _).far (p := ⟨w.heap.size + 1 + 1, 3, none⟩) tl _).far (p := ⟨w.heap.size + 1 + 1, 4, none⟩) tl _).lo_le (by omega)).here
  · exact (by repeat (first | (with_reducible exact HB5.out) | (with_reducible refine ba ?_ _) | (with_reducible refine bsB ?_ (by omega)) | (with_reducible refine bd ?_ _) | (with_reducible refine Below.drew ?_)))
set_option maxHeartbeats 4000000 in
theorem implPutTail_over (li by_ : Int) (A : Option Addr) (n cap : Nat) (se dr : Int) (L : List Pk) (p : Pk) (w : World) (hl : L.length = n) (hr : IRow w A (fl L)) (hn : n ≤ 1048576) (hcap : n ≤ cap) (hA : A = none → cap = 0) (h : askd li by_ L se dr p = true) (hro : room li by_ L p = false) (hc : cnt (dr + 1) = false) :
    Calls Try.prog 67 #[.agg #[.int .i64 li, .int .i64 by_, .slice A n cap, .int .i64 se, .int .i64 dr], .agg #[.int .i64 (p.id), .int .i64 (p.so), .int .i64 (p.de), .int .i64 (p.po), .int .i64 (p.ma), .int .i64 (p.si)]] w (PtP w li by_ L se dr p) := by
  rw [PtP_no (show ptOk li by_ L se dr p = false by simp [ptOk, hro, hc])]
  have HR := Lib.hid (fun (W : World) (hb : Below w.heap.size w W) => hr.below hb)
  have HH := Lib.hid h
  have g := qok_iff.1 (askd_iff.1 h).1
  have HQ := Lib.hid (askd_iff.1 h).1
  have pg := Pk.ok_iff.1 (askd_iff.1 h).2.1
  have ps : 0 ≤ p.si ∧ p.si ≤ 1500 := by omega
  have HZ := Lib.hid (apart_sz g.2.2.2.2.2.1)
  have hn6 : n ≤ 60 := by omega
  have hse := cnt_iff.2 g.2.2.2.1
  have hdr := cnt_iff.2 g.2.2.2.2.1
  have d1 : 0 ≤ dr ∧ dr ≤ 1000000 := g.2.2.2.2.1
  clear g pg hr hA
  subst hl
  go_enter Try.func67, Try.ntmps67
  go_wp2_with fail
  refine (canPut_any _ _ _ _ _ _ _ L _ _ rfl (HR.out _ (ba (ba (ba (b0 w) _) _) _)) hn hcap).mono ?_
  rw [h]
  rintro e w1 ⟨rfl, hg⟩
  clear h
  have q : Bk w1 (w.heap.size) 30 #[.int .i64 li, .int .i64 by_, .slice A L.length cap, .int .i64 se, .int .i64 dr] := (((Bk.new w _ _).alloc _).alloc _).old hg
  have zq : w.heap.size < w1.heap.size := q.lt
  have q_0 : w1.cell? ⟨w.heap.size, 0, none⟩ = some (.int .i64 li) := q.cell 0
  have q_1 : w1.cell? ⟨w.heap.size, 1, none⟩ = some (.int .i64 by_) := q.cell 1
  have q_2 : w1.cell? ⟨w.heap.size, 2, none⟩ = some (.slice A L.length cap) := q.cell 2
  have q_3 : w1.cell? ⟨w.heap.size, 3, none⟩ = some (.int .i64 se) := q.cell 3
  have q_4 : w1.cell? ⟨w.heap.size, 4, none⟩ = some (.int .i64 dr) := q.cell 4
  have qf := q.free
  have Hq := Lib.hid q
  clear q
  have X1 := Lib.hid (show Bk w1 (w.heap.size + 1) 35 #[.int .i64 p.id, .int .i64 p.so, .int .i64 p.de, .int .i64 p.po, .int .i64 p.ma, .int .i64 p.si] from ((Bk.new_ (by simp)).alloc _).old hg)
  have R1 := Lib.hid (show Bk w1 (w.heap.size + 1 + 1) 30 #[.int .i64 0, .int .i64 0, .slice none 0 0, .int .i64 0, .int .i64 0] from (Bk.new_ (by simp)).old hg)
  have HB1 := Lib.hid (bt (ba (ba (ba (b0 w) _) _) _) hg)
  have zz := hg.size
  simp at zz
  clear hg
  go_wp2_with fail
  refine (copyQueue_any _ _ _ _ _ _ _ L _ rfl (HR.out _ HB1.out) hn).mono ?_
  rintro e w2 ⟨A2, c2, rfl, ho2, hg2⟩
  have zz2 := hg2.size
  have X2 := Lib.hid (X1.out.old hg2)
  have R2 := Lib.hid (R1.out.old hg2)
  have HO2 := Lib.hid (ho2.lo_le (lo' := w.heap.size + 1 + 1 + 1) (by omega))
  have HB2 := Lib.hid (bt HB1.out hg2)
  have Q2 := Lib.hid (Hq.out.old hg2)
  clear ho2 hg2 q_0 q_1 q_2 q_3 q_4 qf zq
  have q : Bk w2 (w.heap.size) 30 #[.int .i64 li, .int .i64 by_, .slice A L.length cap, .int .i64 se, .int .i64 dr] := Q2.out
  have zq : w.heap.size < w2.heap.size := q.lt
  have q_0 : w2.cell? ⟨w.heap.size, 0, none⟩ = some (.int .i64 li) := q.cell 0
  have q_1 : w2.cell? ⟨w.heap.size, 1, none⟩ = some (.int .i64 by_) := q.cell 1
  have q_2 : w2.cell? ⟨w.heap.size, 2, none⟩ = some (.slice A L.length cap) := q.cell 2
  have q_3 : w2.cell? ⟨w.heap.size, 3, none⟩ = some (.int .i64 se) := q.cell 3
  have q_4 : w2.cell? ⟨w.heap.size, 4, none⟩ = some (.int .i64 dr) := q.cell 4
  have qf := q.free
  have Hq := Lib.hid q
  clear q
  have x : Bk w2 (w.heap.size + 1) 35 #[.int .i64 p.id, .int .i64 p.so, .int .i64 p.de, .int .i64 p.po, .int .i64 p.ma, .int .i64 p.si] := X2.out
  have zx : w.heap.size + 1 < w2.heap.size := x.lt
  have x_0 : w2.cell? ⟨w.heap.size + 1, 0, none⟩ = some (.int .i64 p.id) := x.cell 0
  have x_1 : w2.cell? ⟨w.heap.size + 1, 1, none⟩ = some (.int .i64 p.so) := x.cell 1
  have x_2 : w2.cell? ⟨w.heap.size + 1, 2, none⟩ = some (.int .i64 p.de) := x.cell 2
  have x_3 : w2.cell? ⟨w.heap.size + 1, 3, none⟩ = some (.int .i64 p.po) := x.cell 3
  have x_4 : w2.cell? ⟨w.heap.size + 1, 4, none⟩ = some (.int .i64 p.ma) := x.cell 4
  have x_5 : w2.cell? ⟨w.heap.size + 1, 5, none⟩ = some (.int .i64 p.si) := x.cell 5
  have xf := x.free
  have Hx := Lib.hid x
  clear x
  go_wp2_with fail
  refine (hasRoom_any _ _ _ _ _ _ _ L _ _ rfl (HR.out _ (ba HB2.out _)) hn HZ.out (by omega) ps).mono ?_
  rw [hro]
  rintro e w3 ⟨rfl, hg3⟩
  have zz3 := hg3.size
  simp at zz3
  have HO3 := Lib.hid ((HO2.out.alloc _).old hg3)
  have HB3 := Lib.hid (bt (ba HB2.out _) hg3)
  have X3 := Lib.hid ((X2.out.alloc _).old hg3)
  have R3 := Lib.hid ((R2.out.alloc _).old hg3)
  have O3 := Lib.hid (show Bk w3 w2.heap.size 30 #[.int .i64 li, .int .i64 by_, .slice A2 L.length c2, .int .i64 se, .int .i64 dr] from (Bk.new_ rfl).old hg3)
  clear hg3 q_0 q_1 q_2 q_3 q_4 qf zq x_0 x_1 x_2 x_3 x_4 x_5 xf zx
  have o : Bk w3 (w2.heap.size) 30 #[.int .i64 li, .int .i64 by_, .slice A2 L.length c2, .int .i64 se, .int .i64 dr] := O3.out
  have zo : w2.heap.size < w3.heap.size := o.lt
  have o_0 : w3.cell? ⟨w2.heap.size, 0, none⟩ = some (.int .i64 li) := o.cell 0
  have o_1 : w3.cell? ⟨w2.heap.size, 1, none⟩ = some (.int .i64 by_) := o.cell 1
  have o_2 : w3.cell? ⟨w2.heap.size, 2, none⟩ = some (.slice A2 L.length c2) := o.cell 2
  have o_3 : w3.cell? ⟨w2.heap.size, 3, none⟩ = some (.int .i64 se) := o.cell 3
  have o_4 : w3.cell? ⟨w2.heap.size, 4, none⟩ = some (.int .i64 dr) := o.cell 4
  have of := o.free
  have Ho := Lib.hid o
  clear o
  have x : Bk w3 (w.heap.size + 1) 35 #[.int .i64 p.id, .int .i64 p.so, .int .i64 p.de, .int .i64 p.po, .int .i64 p.ma, .int .i64 p.si] := X3.out
  have zx : w.heap.size + 1 < w3.heap.size := x.lt
  have x_0 : w3.cell? ⟨w.heap.size + 1, 0, none⟩ = some (.int .i64 p.id) := x.cell 0
  have x_1 : w3.cell? ⟨w.heap.size + 1, 1, none⟩ = some (.int .i64 p.so) := x.cell 1
  have x_2 : w3.cell? ⟨w.heap.size + 1, 2, none⟩ = some (.int .i64 p.de) := x.cell 2
  have x_3 : w3.cell? ⟨w.heap.size + 1, 3, none⟩ = some (.int .i64 p.po) := x.cell 3
  have x_4 : w3.cell? ⟨w.heap.size + 1, 4, none⟩ = some (.int .i64 p.ma) := x.cell 4
  have x_5 : w3.cell? ⟨w.heap.size + 1, 5, none⟩ = some (.int .i64 p.si) := x.cell 5
  have xf := x.free
  have Hx := Lib.hid x
  clear x
  go_wp2_with fail
  refine (ifQueue_any _ _ _ _ _ _ _ _).mono ?_
  rw [hse, hc]
  rintro e w5 ⟨rfl, hg5⟩
  obtain ⟨ta, tb, t1, t2, t3, t4, ho5⟩ := HO3.out.apart (g := w2.heap.size) O3.out (by decide) (by omega)
  have tl : w.heap.size + 1 + 1 < ta ∨ tb ≤ w.heap.size + 1 + 1 := by omega
  have HO5 := Lib.hid ((ho5.far (p := ⟨w2.heap.size, 4, none⟩) t4 _).old hg5)
  have HB5 := Lib.hid (bt (bsB (o := 4) (u := .int .i64 (dr + 1)) HB3.out (show w.heap.size ≤ w2.heap.size by omega)) hg5)
  have O5 := Lib.hid (show Bk w5 w2.heap.size 30 #[.int .i64 li, .int .i64 by_, .slice A2 L.length c2, .int .i64 se, .int .i64 (dr + 1)] from (O3.out.set 4 _).old hg5)
  have R5 := Lib.hid (show Bk w5 (w.heap.size + 1 + 1) 30 #[.int .i64 0, .int .i64 0, .slice none 0 0, .int .i64 0, .int .i64 0] from (R3.out.farB (by omega)).old hg5)
  clear hg5 ho5 o_0 o_1 o_2 o_3 o_4 of zo x_0 x_1 x_2 x_3 x_4 x_5 xf
  have o : Bk w5 (w2.heap.size) 30 #[.int .i64 li, .int .i64 by_, .slice A2 L.length c2, .int .i64 se, .int .i64 (dr + 1)] := O5.out
  have zo : w2.heap.size < w5.heap.size := o.lt
  have o_0 : w5.cell? ⟨w2.heap.size, 0, none⟩ = some (.int .i64 li) := o.cell 0
  have o_1 : w5.cell? ⟨w2.heap.size, 1, none⟩ = some (.int .i64 by_) := o.cell 1
  have o_2 : w5.cell? ⟨w2.heap.size, 2, none⟩ = some (.slice A2 L.length c2) := o.cell 2
  have o_3 : w5.cell? ⟨w2.heap.size, 3, none⟩ = some (.int .i64 se) := o.cell 3
  have o_4 : w5.cell? ⟨w2.heap.size, 4, none⟩ = some (.int .i64 (dr + 1)) := o.cell 4
  have of := o.free
  have Ho := Lib.hid o
  clear o
  have r : Bk w5 (w.heap.size + 1 + 1) 30 #[.int .i64 0, .int .i64 0, .slice none 0 0, .int .i64 0, .int .i64 0] := R5.out
  have zr : w.heap.size + 1 + 1 < w5.heap.size := r.lt
  have r_0 : w5.cell? ⟨w.heap.size + 1 + 1, 0, none⟩ = some (.int .i64 0) := r.cell 0
  have r_1 : w5.cell? ⟨w.heap.size + 1 + 1, 1, none⟩ = some (.int .i64 0) := r.cell 1
  have r_2 : w5.cell? ⟨w.heap.size + 1 + 1, 2, none⟩ = some (.slice none 0 0) := r.cell 2
  have r_3 : w5.cell? ⟨w.heap.size + 1 + 1, 3, none⟩ = some (.int .i64 0) := r.cell 3
  have r_4 : w5.cell? ⟨w.heap.size + 1 + 1, 4, none⟩ = some (.int .i64 0) := r.cell 4
  have rf := r.free
  have Hr := Lib.hid r
  clear r
  go_wp2_with fail
  refine bodyPost_ret (v := .tuple #[.agg #[.int .i64 0, .int .i64 0, .slice none 0 0, .int .i64 0, .int .i64 0], .bool false, .bool false]) (by simp [results, Try.results67, go_sem, r_0, r_1, r_2, r_3, r_4]) rfl (NewQBB.none_ rfl ?_)
  exact (by repeat (first | (with_reducible exact HB5.out) | (with_reducible refine ba ?_ _) | (with_reducible refine bsB ?_ (by omega)) | (with_reducible refine bd ?_ _) | (with_reducible refine Below.drew ?_)))
set_option maxHeartbeats 1000000 in
theorem implPutTail_any (li by_ : Int) (A : Option Addr) (n cap : Nat) (se dr : Int) (L : List Pk) (p : Pk) (w : World) (hl : L.length = n) (hr : IRow w A (fl L)) (hn : n ≤ 1048576) (hcap : n ≤ cap) (hA : A = none → cap = 0) :
    Calls Try.prog 67 #[.agg #[.int .i64 li, .int .i64 by_, .slice A n cap, .int .i64 se, .int .i64 dr], .agg #[.int .i64 (p.id), .int .i64 (p.so), .int .i64 (p.de), .int .i64 (p.po), .int .i64 (p.ma), .int .i64 (p.si)]] w (PtP w li by_ L se dr p) := by
  rcases h : askd li by_ L se dr p with _ | _
  · rw [PtP_no (show ptOk li by_ L se dr p = false by simp [ptOk, h])]
    have HL := Lib.hid hl
    have HR := Lib.hid (fun (W : World) (hb : Below w.heap.size w W) => hr.below hb)
    clear hl hr hA
    go_enter Try.func67, Try.ntmps67
    go_wp2_with fail
    refine (canPut_any _ _ _ _ _ _ _ L _ _ HL.out (HR.out _ (ba (ba (ba (b0 w) _) _) _)) hn hcap).mono ?_
    rw [h]
    rintro e w1 ⟨rfl, hg⟩
    have zhg := hg.size; (try simp at zhg); have c2hg := fun o => bkeep hg (w.heap.size + 1 + 1) o (by first | omega | (simp; done) | (simp; omega)); have f2hg := fun o => bfree hg (w.heap.size + 1 + 1) o (by first | omega | (simp; done) | (simp; omega))
    have HB := Lib.hid (bt (ba (ba (ba (b0 w) _) _) _) hg)
    go_wp2_with fail
    exact bodyPost_ret (v := .tuple #[.agg #[.int .i64 0, .int .i64 0, .slice none 0 0, .int .i64 0, .int .i64 0], .bool false, .bool false]) (by simp [results, Try.results67, go_sem, c2hg]) rfl (NewQBB.none_ rfl (by repeat (first | (with_reducible exact HB.out) | (with_reducible refine ba ?_ _) | (with_reducible refine bsB ?_ (by omega)) | (with_reducible refine bd ?_ _) | (with_reducible refine Below.drew ?_))))
  rcases hro : room li by_ L p with _ | _
  · rcases hc : cnt (dr + 1) with _ | _
    · exact implPutTail_over li by_ A n cap se dr L p w hl hr hn hcap hA h hro hc
    · exact implPutTail_full li by_ A n cap se dr L p w hl hr hn hcap hA h hro hc
  · exact implPutTail_put li by_ A n cap se dr L p w hl hr hn hcap hA h hro
end Go.Proofs.Ytgdldmeeaejjpaa
