/- The contracts of PutTail. -/
import Derived.Test.YtgcbpooflecbpaaPutTail
namespace Go.Proofs.Ytgcbpooflecbpaa
open Go.ChangeShapes Go.WideShapes Go.ChangeAt Go.RowKit
set_option linter.unusedVariables false
def NewQBB (w : World) (li by_ : Int) (n : Nat) (L : List Pk) (se dr : Int) (put b : Bool) (e : Ending) (w' : World) : Prop :=
  ∃ A cap, e = .returned (.tuple #[.agg #[.int .i64 li, .int .i64 by_, .slice A n cap, .int .i64 se, .int .i64 dr], .bool put, .bool b]) ∧ IOwn w' w.heap.size w'.heap.size 49 6 A n cap (fl L) ∧ Below w.heap.size w w'
def ptOk (li by_ : Int) (L : List Pk) (se dr : Int) (p : Pk) : Bool := askd li by_ L se dr p && (room li by_ L p || cnt (dr + 1))
def ptL (ok rm : Bool) (L : List Pk) (p : Pk) : List Pk := if ok then (if rm then L ++ [p] else L) else []
def ptD (rm : Bool) (dr : Int) : Int := if rm then dr else dr + 1
def PtP (w : World) (li by_ : Int) (L : List Pk) (se dr : Int) (p : Pk) : Ending → World → Prop :=
  NewQBB w (ifz (ptOk li by_ L se dr p) li) (ifz (ptOk li by_ L se dr p) by_) (ptL (ptOk li by_ L se dr p) (room li by_ L p) L p).length (ptL (ptOk li by_ L se dr p) (room li by_ L p) L p) (ifz (ptOk li by_ L se dr p) se) (ifz (ptOk li by_ L se dr p) (ptD (room li by_ L p) dr)) (ptOk li by_ L se dr p && room li by_ L p) (ptOk li by_ L se dr p)
theorem PtP_no {w : World} {li by_ : Int} {L : List Pk} {se dr : Int} {p : Pk} (h : ptOk li by_ L se dr p = false) : PtP w li by_ L se dr p = NewQBB w 0 0 0 [] 0 0 false false := by simp [PtP, h, ifz, ptL]
theorem PtP_put {w : World} {li by_ : Int} {L : List Pk} {se dr : Int} {p : Pk} (h : askd li by_ L se dr p = true) (hr : room li by_ L p = true) : PtP w li by_ L se dr p = NewQBB w li by_ (L.length + 1) (L ++ [p]) se dr true true := by
  have h1 : ptOk li by_ L se dr p = true := by simp [ptOk, h, hr]
  simp [PtP, h1, hr, ifz, ptL, ptD]
theorem PtP_full {w : World} {li by_ : Int} {L : List Pk} {se dr : Int} {p : Pk} (h : askd li by_ L se dr p = true) (hr : room li by_ L p = false) (hc : cnt (dr + 1) = true) : PtP w li by_ L se dr p = NewQBB w li by_ L.length L se (dr + 1) false true := by
  have h1 : ptOk li by_ L se dr p = true := by simp [ptOk, h, hc]
  simp [PtP, h1, hr, ifz, ptL, ptD]
theorem NewQBB.none_ {w w' : World} {e : Ending} (he : e = .returned (.tuple #[.agg #[.int .i64 0, .int .i64 0, .slice none 0 0, .int .i64 0, .int .i64 0], .bool false, .bool false])) (hb : Below w.heap.size w w') : NewQBB w 0 0 0 [] 0 0 false false e w' := ⟨none, 0, he, IOwn.none_ _ _ _ _ _, hb⟩
set_option maxHeartbeats 2000000 in
theorem specPutTail_put (li by_ : Int) (A : Option Addr) (n cap : Nat) (se dr : Int) (L : List Pk) (p : Pk) (w : World) (hl : L.length = n) (hr : IRow w A (fl L)) (hn : n ≤ 1048576) (hcap : n ≤ cap) (hA : A = none → cap = 0) (h : askd li by_ L se dr p = true) (hro : room li by_ L p = true) :
    Calls Try.prog 34 #[.agg #[.int .i64 li, .int .i64 by_, .slice A n cap, .int .i64 se, .int .i64 dr], .agg #[.int .i64 (p.id), .int .i64 (p.so), .int .i64 (p.de), .int .i64 (p.po), .int .i64 (p.ma), .int .i64 (p.si)]] w (PtP w li by_ L se dr p) := by
  rw [PtP_put h hro]
  have HR := Lib.hid (fun (W : World) (hb : Below w.heap.size w W) => hr.below hb)
  have HA := Lib.hid hA
  have HH := Lib.hid h
  have g := qok_iff.1 (askd_iff.1 h).1
  have HQ := Lib.hid (askd_iff.1 h).1
  have hn6 : n ≤ 60 := by omega
  clear g hr hA
  subst hl
  go_enter Try.func34, Try.ntmps34
  go_wp2_with fail
  refine (quAsked_any _ _ _ _ _ _ _ L _ _ rfl (HR.out _ (ba (ba (ba (b0 w) _) _) _)) hn hcap).mono ?_
  rw [h]
  rintro e w1 ⟨rfl, hg⟩
  clear h
  have q : Bk w1 (w.heap.size) 36 #[.int .i64 li, .int .i64 by_, .slice A L.length cap, .int .i64 se, .int .i64 dr] := (((Bk.new w _ _).alloc _).alloc _).old hg
  have zq : w.heap.size < w1.heap.size := q.lt
  have q_0 : w1.cell? ⟨w.heap.size, 0, none⟩ = some (.int .i64 li) := q.cell 0
  have q_1 : w1.cell? ⟨w.heap.size, 1, none⟩ = some (.int .i64 by_) := q.cell 1
  have q_2 : w1.cell? ⟨w.heap.size, 2, none⟩ = some (.slice A L.length cap) := q.cell 2
  have q_3 : w1.cell? ⟨w.heap.size, 3, none⟩ = some (.int .i64 se) := q.cell 3
  have q_4 : w1.cell? ⟨w.heap.size, 4, none⟩ = some (.int .i64 dr) := q.cell 4
  have qf := q.free
  have Hq := Lib.hid q
  clear q
  have x : Bk w1 (w.heap.size + 1) 49 #[.int .i64 p.id, .int .i64 p.so, .int .i64 p.de, .int .i64 p.po, .int .i64 p.ma, .int .i64 p.si] := ((Bk.new_ (by simp)).alloc _).old hg
  have zx : w.heap.size + 1 < w1.heap.size := x.lt
  have x_0 : w1.cell? ⟨w.heap.size + 1, 0, none⟩ = some (.int .i64 p.id) := x.cell 0
  have x_1 : w1.cell? ⟨w.heap.size + 1, 1, none⟩ = some (.int .i64 p.so) := x.cell 1
  have x_2 : w1.cell? ⟨w.heap.size + 1, 2, none⟩ = some (.int .i64 p.de) := x.cell 2
  have x_3 : w1.cell? ⟨w.heap.size + 1, 3, none⟩ = some (.int .i64 p.po) := x.cell 3
  have x_4 : w1.cell? ⟨w.heap.size + 1, 4, none⟩ = some (.int .i64 p.ma) := x.cell 4
  have x_5 : w1.cell? ⟨w.heap.size + 1, 5, none⟩ = some (.int .i64 p.si) := x.cell 5
  have xf := x.free
  have Hx := Lib.hid x
  clear x
  have R1 := Lib.hid (show Bk w1 (w.heap.size + 1 + 1) 36 #[.int .i64 0, .int .i64 0, .slice none 0 0, .int .i64 0, .int .i64 0] from (Bk.new_ (by simp)).old hg)
  have HB1 := Lib.hid (bt (ba (ba (ba (b0 w) _) _) _) hg)
  have zz := hg.size
  simp at zz
  clear hg
  go_wp2_with fail
  refine (quPut_yes _ _ _ _ _ _ _ L p _ rfl (HR.out _ HB1.out) HA.out HH.out hro).mono ?_
  rintro e w2 ⟨A2, c2, rfl, ho2, hg2⟩
  have R2 := Lib.hid (R1.out.old hg2)
  have HO2 := Lib.hid ho2
  have HB2 := Lib.hid (bt HB1.out hg2)
  have zz2 := hg2.size
  clear ho2 hg2 q_0 q_1 q_2 q_3 q_4 qf x_0 x_1 x_2 x_3 x_4 x_5 xf
  go_wp2_with fail
  refine (quIf_yes _ _ _ _ _ _ _ (L ++ [p]) _ (by simp) ((HO2.out.alloc _).row) (by omega) (qok_put HH.out hro)).mono ?_
  rintro e w3 ⟨rfl, hg3⟩
  have o : Bk w3 (w2.heap.size) 36 #[.int .i64 li, .int .i64 by_, .slice A2 (L.length + 1) c2, .int .i64 se, .int .i64 dr] := (Bk.new_ rfl).old hg3
  have zo : w2.heap.size < w3.heap.size := o.lt
  have o_0 : w3.cell? ⟨w2.heap.size, 0, none⟩ = some (.int .i64 li) := o.cell 0
  have o_1 : w3.cell? ⟨w2.heap.size, 1, none⟩ = some (.int .i64 by_) := o.cell 1
  have o_2 : w3.cell? ⟨w2.heap.size, 2, none⟩ = some (.slice A2 (L.length + 1) c2) := o.cell 2
  have o_3 : w3.cell? ⟨w2.heap.size, 3, none⟩ = some (.int .i64 se) := o.cell 3
  have o_4 : w3.cell? ⟨w2.heap.size, 4, none⟩ = some (.int .i64 dr) := o.cell 4
  have of := o.free
  have Ho := Lib.hid o
  clear o
  have r : Bk w3 (w.heap.size + 1 + 1) 36 #[.int .i64 0, .int .i64 0, .slice none 0 0, .int .i64 0, .int .i64 0] := (R2.out.alloc _).old hg3
  have zr : w.heap.size + 1 + 1 < w3.heap.size := r.lt
  have r_0 : w3.cell? ⟨w.heap.size + 1 + 1, 0, none⟩ = some (.int .i64 0) := r.cell 0
  have r_1 : w3.cell? ⟨w.heap.size + 1 + 1, 1, none⟩ = some (.int .i64 0) := r.cell 1
  have r_2 : w3.cell? ⟨w.heap.size + 1 + 1, 2, none⟩ = some (.slice none 0 0) := r.cell 2
  have r_3 : w3.cell? ⟨w.heap.size + 1 + 1, 3, none⟩ = some (.int .i64 0) := r.cell 3
  have r_4 : w3.cell? ⟨w.heap.size + 1 + 1, 4, none⟩ = some (.int .i64 0) := r.cell 4
  have rf := r.free
  have Hr := Lib.hid r
  clear r
  have zz3 := hg3.size
  simp at zz3
  have HO := Lib.hid (((HO2.out.alloc _).old hg3).lo_le (lo' := w.heap.size + 1 + 1 + 1) (by omega))
  have HB := Lib.hid (bt (ba HB2.out _) hg3)
  clear hg3
  go_wp2_with fail
  refine bodyPost_ret (v := .tuple #[.agg #[.int .i64 li, .int .i64 by_, .slice A2 (L.length + 1) c2, .int .i64 se, .int .i64 dr], .bool true, .bool true]) (by simp [results, Try.results34, go_sem, r_0, r_1, r_2, r_3, r_4]) rfl ⟨A2, c2, rfl, ?_, ?_⟩
  · obtain ⟨ta, tb, t1, t2, t3, t4, ho4⟩ := HO.out.apart (g := w2.heap.size) Ho.out (by decide) (by omega)
    have tl : w.heap.size + 1 + 1 < ta ∨ tb ≤ w.heap.size + 1 + 1 := by omega
    exact (((((((((((ho4.far (p := ⟨w2.heap.size, 0, none⟩) t4 _).far (p := ⟨w2.heap.size, 1, none⟩) t4 _).far (p := ⟨w2.heap.size, 2, none⟩) t4 _).far (p := ⟨w2.heap.size, 3, none⟩) t4 _).far (p := ⟨w2.heap.size, 4, none⟩) t4 _).far (p := ⟨w.heap.size + 1 + 1, 0, none⟩) tl _).far (p := ⟨w.heap.size + 1 + 1, 1, none⟩) tl _).far (p := ⟨w.heap.size + 1 + 1, 2, none⟩) tl _).far (p := ⟨w.heap.size + 1 + 1, 3, none⟩) tl _).far (p := ⟨w.heap.size + 1 + 1, 4, none⟩) tl _).lo_le (by omega)).here
  · exact (by repeat (first | (with_reducible exact HB.out) | (with_reducible refine ba ?_ _) | (with_reducible refine bsB ?_ (by omega)) | (with_reducible refine bd ?_ _) | (with_reducible refine Below.drew ?_)))
set_option maxHeartbeats 2000000 in
theorem specPutTail_full (li by_ : Int) (A : Option Addr) (n cap : Nat) (se dr : Int) (L : List Pk) (p : Pk) (w : World) (hl : L.length = n) (hr : IRow w A (fl L)) (hn : n ≤ 1048576) (hcap : n ≤ cap) (hA : A = none → cap = 0) (h : askd li by_ L se dr p = true) (hro : room li by_ L p = false) (hc : cnt (dr + 1) = true) :
    Calls Try.prog 34 #[.agg #[.int .i64 li, .int .i64 by_, .slice A n cap, .int .i64 se, .int .i64 dr], .agg #[.int .i64 (p.id), .int .i64 (p.so), .int .i64 (p.de), .int .i64 (p.po), .int .i64 (p.ma), .int .i64 (p.si)]] w (PtP w li by_ L se dr p) := by
  rw [PtP_full h hro hc]
  have HR := Lib.hid (fun (W : World) (hb : Below w.heap.size w W) => hr.below hb)
  have HA := Lib.hid hA
  have HH := Lib.hid h
  have g := qok_iff.1 (askd_iff.1 h).1
  have HQ := Lib.hid (askd_iff.1 h).1
  have hn6 : n ≤ 60 := by omega
  clear g hr hA
  subst hl
  go_enter Try.func34, Try.ntmps34
  go_wp2_with fail
  refine (quAsked_any _ _ _ _ _ _ _ L _ _ rfl (HR.out _ (ba (ba (ba (b0 w) _) _) _)) hn hcap).mono ?_
  rw [h]
  rintro e w1 ⟨rfl, hg⟩
  clear h
  have q : Bk w1 (w.heap.size) 36 #[.int .i64 li, .int .i64 by_, .slice A L.length cap, .int .i64 se, .int .i64 dr] := (((Bk.new w _ _).alloc _).alloc _).old hg
  have zq : w.heap.size < w1.heap.size := q.lt
  have q_0 : w1.cell? ⟨w.heap.size, 0, none⟩ = some (.int .i64 li) := q.cell 0
  have q_1 : w1.cell? ⟨w.heap.size, 1, none⟩ = some (.int .i64 by_) := q.cell 1
  have q_2 : w1.cell? ⟨w.heap.size, 2, none⟩ = some (.slice A L.length cap) := q.cell 2
  have q_3 : w1.cell? ⟨w.heap.size, 3, none⟩ = some (.int .i64 se) := q.cell 3
  have q_4 : w1.cell? ⟨w.heap.size, 4, none⟩ = some (.int .i64 dr) := q.cell 4
  have qf := q.free
  have Hq := Lib.hid q
  clear q
  have x : Bk w1 (w.heap.size + 1) 49 #[.int .i64 p.id, .int .i64 p.so, .int .i64 p.de, .int .i64 p.po, .int .i64 p.ma, .int .i64 p.si] := ((Bk.new_ (by simp)).alloc _).old hg
  have zx : w.heap.size + 1 < w1.heap.size := x.lt
  have x_0 : w1.cell? ⟨w.heap.size + 1, 0, none⟩ = some (.int .i64 p.id) := x.cell 0
  have x_1 : w1.cell? ⟨w.heap.size + 1, 1, none⟩ = some (.int .i64 p.so) := x.cell 1
  have x_2 : w1.cell? ⟨w.heap.size + 1, 2, none⟩ = some (.int .i64 p.de) := x.cell 2
  have x_3 : w1.cell? ⟨w.heap.size + 1, 3, none⟩ = some (.int .i64 p.po) := x.cell 3
  have x_4 : w1.cell? ⟨w.heap.size + 1, 4, none⟩ = some (.int .i64 p.ma) := x.cell 4
  have x_5 : w1.cell? ⟨w.heap.size + 1, 5, none⟩ = some (.int .i64 p.si) := x.cell 5
  have xf := x.free
  have Hx := Lib.hid x
  clear x
  have R1 := Lib.hid (show Bk w1 (w.heap.size + 1 + 1) 36 #[.int .i64 0, .int .i64 0, .slice none 0 0, .int .i64 0, .int .i64 0] from (Bk.new_ (by simp)).old hg)
  have HB1 := Lib.hid (bt (ba (ba (ba (b0 w) _) _) _) hg)
  have zz := hg.size
  simp at zz
  clear hg
  go_wp2_with fail
  refine (quPut_no _ _ _ _ _ _ _ L p _ rfl (HR.out _ HB1.out) HA.out HH.out hro).mono ?_
  rintro e w2 ⟨A2, c2, rfl, ho2, hg2⟩
  have R2 := Lib.hid (R1.out.old hg2)
  have HO2 := Lib.hid ho2
  have HB2 := Lib.hid (bt HB1.out hg2)
  have zz2 := hg2.size
  clear ho2 hg2 q_0 q_1 q_2 q_3 q_4 qf x_0 x_1 x_2 x_3 x_4 x_5 xf
  go_wp2_with fail
  refine (quIf_yes _ _ _ _ _ _ _ L _ rfl ((HO2.out.alloc _).row) (by omega) ((qok_counts HQ.out).trans (by rw [hc, cnt_iff.2 (qok_iff.1 HQ.out).2.2.2.1]; rfl))).mono ?_
  rintro e w3 ⟨rfl, hg3⟩
  have o : Bk w3 (w2.heap.size) 36 #[.int .i64 li, .int .i64 by_, .slice A2 L.length c2, .int .i64 se, .int .i64 (dr + 1)] := (Bk.new_ rfl).old hg3
  have zo : w2.heap.size < w3.heap.size := o.lt
  have o_0 : w3.cell? ⟨w2.heap.size, 0, none⟩ = some (.int .i64 li) := o.cell 0
  have o_1 : w3.cell? ⟨w2.heap.size, 1, none⟩ = some (.int .i64 by_) := o.cell 1
  have o_2 : w3.cell? ⟨w2.heap.size, 2, none⟩ = some (.slice A2 L.length c2) := o.cell 2
  have o_3 : w3.cell? ⟨w2.heap.size, 3, none⟩ = some (.int .i64 se) := o.cell 3
  have o_4 : w3.cell? ⟨w2.heap.size, 4, none⟩ = some (.int .i64 (dr + 1)) := o.cell 4
  have of := o.free
  have Ho := Lib.hid o
  clear o
  have r : Bk w3 (w.heap.size + 1 + 1) 36 #[.int .i64 0, .int .i64 0, .slice none 0 0, .int .i64 0, .int .i64 0] := (R2.out.alloc _).old hg3
  have zr : w.heap.size + 1 + 1 < w3.heap.size := r.lt
  have r_0 : w3.cell? ⟨w.heap.size + 1 + 1, 0, none⟩ = some (.int .i64 0) := r.cell 0
  have r_1 : w3.cell? ⟨w.heap.size + 1 + 1, 1, none⟩ = some (.int .i64 0) := r.cell 1
  have r_2 : w3.cell? ⟨w.heap.size + 1 + 1, 2, none⟩ = some (.slice none 0 0) := r.cell 2
  have r_3 : w3.cell? ⟨w.heap.size + 1 + 1, 3, none⟩ = some (.int .i64 0) := r.cell 3
  have r_4 : w3.cell? ⟨w.heap.size + 1 + 1, 4, none⟩ = some (.int .i64 0) := r.cell 4
  have rf := r.free
  have Hr := Lib.hid r
  clear r
  have zz3 := hg3.size
  simp at zz3
  have HO := Lib.hid (((HO2.out.alloc _).old hg3).lo_le (lo' := w.heap.size + 1 + 1 + 1) (by omega))
  have HB := Lib.hid (bt (ba HB2.out _) hg3)
  clear hg3
  go_wp2_with fail
  refine bodyPost_ret (v := .tuple #[.agg #[.int .i64 li, .int .i64 by_, .slice A2 L.length c2, .int .i64 se, .int .i64 (dr + 1)], .bool false, .bool true]) (by simp [results, Try.results34, go_sem, r_0, r_1, r_2, r_3, r_4]) rfl ⟨A2, c2, rfl, ?_, ?_⟩
  · obtain ⟨ta, tb, t1, t2, t3, t4, ho4⟩ := HO.out.apart (g := w2.heap.size) Ho.out (by decide) (by omega)
    have tl : w.heap.size + 1 + 1 < ta ∨ tb ≤ w.heap.size + 1 + 1 := by omega
    exact (((((((((((ho4.far (p := ⟨w2.heap.size, 0, none⟩) t4 _).far (p := ⟨w2.heap.size, 1, none⟩) t4 _).far (p := ⟨w2.heap.size, 2, none⟩) t4 _).far (p := ⟨w2.heap.size, 3, none⟩) t4 _).far (p := ⟨w2.heap.size, 4, none⟩) t4 _).far (p := ⟨w.heap.size + 1 + 1, 0, none⟩) tl _).far (p := ⟨w.heap.size + 1 + 1, 1, none⟩) tl _).far (p := ⟨w.heap.size + 1 + 1, 2, none⟩) tl _).far (p := ⟨w.heap.size + 1 + 1, 3, none⟩) tl _).far (p := ⟨w.heap.size + 1 + 1, 4, none⟩) tl _).lo_le (by omega)).here
  · exact (by repeat (first | (with_reducible exact HB.out) | (with_reducible refine ba ?_ _) | (with_reducible refine bsB ?_ (by omega)) | (with_reducible refine bd ?_ _) | (with_reducible refine Below.drew ?_)))
set_option maxHeartbeats 2000000 in
theorem specPutTail_over (li by_ : Int) (A : Option Addr) (n cap : Nat) (se dr : Int) (L : List Pk) (p : Pk) (w : World) (hl : L.length = n) (hr : IRow w A (fl L)) (hn : n ≤ 1048576) (hcap : n ≤ cap) (hA : A = none → cap = 0) (h : askd li by_ L se dr p = true) (hro : room li by_ L p = false) (hc : cnt (dr + 1) = false) :
    Calls Try.prog 34 #[.agg #[.int .i64 li, .int .i64 by_, .slice A n cap, .int .i64 se, .int .i64 dr], .agg #[.int .i64 (p.id), .int .i64 (p.so), .int .i64 (p.de), .int .i64 (p.po), .int .i64 (p.ma), .int .i64 (p.si)]] w (PtP w li by_ L se dr p) := by
  rw [PtP_no (show ptOk li by_ L se dr p = false by simp [ptOk, hro, hc])]
  have HR := Lib.hid (fun (W : World) (hb : Below w.heap.size w W) => hr.below hb)
  have HA := Lib.hid hA
  have HH := Lib.hid h
  have g := qok_iff.1 (askd_iff.1 h).1
  have HQ := Lib.hid (askd_iff.1 h).1
  have hn6 : n ≤ 60 := by omega
  clear g hr hA
  subst hl
  go_enter Try.func34, Try.ntmps34
  go_wp2_with fail
  refine (quAsked_any _ _ _ _ _ _ _ L _ _ rfl (HR.out _ (ba (ba (ba (b0 w) _) _) _)) hn hcap).mono ?_
  rw [h]
  rintro e w1 ⟨rfl, hg⟩
  clear h
  have q : Bk w1 (w.heap.size) 36 #[.int .i64 li, .int .i64 by_, .slice A L.length cap, .int .i64 se, .int .i64 dr] := (((Bk.new w _ _).alloc _).alloc _).old hg
  have zq : w.heap.size < w1.heap.size := q.lt
  have q_0 : w1.cell? ⟨w.heap.size, 0, none⟩ = some (.int .i64 li) := q.cell 0
  have q_1 : w1.cell? ⟨w.heap.size, 1, none⟩ = some (.int .i64 by_) := q.cell 1
  have q_2 : w1.cell? ⟨w.heap.size, 2, none⟩ = some (.slice A L.length cap) := q.cell 2
  have q_3 : w1.cell? ⟨w.heap.size, 3, none⟩ = some (.int .i64 se) := q.cell 3
  have q_4 : w1.cell? ⟨w.heap.size, 4, none⟩ = some (.int .i64 dr) := q.cell 4
  have qf := q.free
  have Hq := Lib.hid q
  clear q
  have x : Bk w1 (w.heap.size + 1) 49 #[.int .i64 p.id, .int .i64 p.so, .int .i64 p.de, .int .i64 p.po, .int .i64 p.ma, .int .i64 p.si] := ((Bk.new_ (by simp)).alloc _).old hg
  have zx : w.heap.size + 1 < w1.heap.size := x.lt
  have x_0 : w1.cell? ⟨w.heap.size + 1, 0, none⟩ = some (.int .i64 p.id) := x.cell 0
  have x_1 : w1.cell? ⟨w.heap.size + 1, 1, none⟩ = some (.int .i64 p.so) := x.cell 1
  have x_2 : w1.cell? ⟨w.heap.size + 1, 2, none⟩ = some (.int .i64 p.de) := x.cell 2
  have x_3 : w1.cell? ⟨w.heap.size + 1, 3, none⟩ = some (.int .i64 p.po) := x.cell 3
  have x_4 : w1.cell? ⟨w.heap.size + 1, 4, none⟩ = some (.int .i64 p.ma) := x.cell 4
  have x_5 : w1.cell? ⟨w.heap.size + 1, 5, none⟩ = some (.int .i64 p.si) := x.cell 5
  have xf := x.free
  have Hx := Lib.hid x
  clear x
  have R1 := Lib.hid (show Bk w1 (w.heap.size + 1 + 1) 36 #[.int .i64 0, .int .i64 0, .slice none 0 0, .int .i64 0, .int .i64 0] from (Bk.new_ (by simp)).old hg)
  have HB1 := Lib.hid (bt (ba (ba (ba (b0 w) _) _) _) hg)
  have zz := hg.size
  simp at zz
  clear hg
  go_wp2_with fail
  refine (quPut_no _ _ _ _ _ _ _ L p _ rfl (HR.out _ HB1.out) HA.out HH.out hro).mono ?_
  rintro e w2 ⟨A2, c2, rfl, ho2, hg2⟩
  have R2 := Lib.hid (R1.out.old hg2)
  have HO2 := Lib.hid ho2
  have HB2 := Lib.hid (bt HB1.out hg2)
  have zz2 := hg2.size
  clear ho2 hg2 q_0 q_1 q_2 q_3 q_4 qf x_0 x_1 x_2 x_3 x_4 x_5 xf
  go_wp2_with fail
  refine (quIf_no _ _ _ _ _ _ _ L _ rfl ((HO2.out.alloc _).row) (by omega) ((qok_counts HQ.out).trans (by rw [hc, Bool.and_false]))).mono ?_
  rintro e w3 ⟨rfl, hg3⟩
  have o : Bk w3 (w2.heap.size) 36 #[.int .i64 li, .int .i64 by_, .slice A2 L.length c2, .int .i64 se, .int .i64 (dr + 1)] := (Bk.new_ rfl).old hg3
  have zo : w2.heap.size < w3.heap.size := o.lt
  have o_0 : w3.cell? ⟨w2.heap.size, 0, none⟩ = some (.int .i64 li) := o.cell 0
  have o_1 : w3.cell? ⟨w2.heap.size, 1, none⟩ = some (.int .i64 by_) := o.cell 1
  have o_2 : w3.cell? ⟨w2.heap.size, 2, none⟩ = some (.slice A2 L.length c2) := o.cell 2
  have o_3 : w3.cell? ⟨w2.heap.size, 3, none⟩ = some (.int .i64 se) := o.cell 3
  have o_4 : w3.cell? ⟨w2.heap.size, 4, none⟩ = some (.int .i64 (dr + 1)) := o.cell 4
  have of := o.free
  have Ho := Lib.hid o
  clear o
  have r : Bk w3 (w.heap.size + 1 + 1) 36 #[.int .i64 0, .int .i64 0, .slice none 0 0, .int .i64 0, .int .i64 0] := (R2.out.alloc _).old hg3
  have zr : w.heap.size + 1 + 1 < w3.heap.size := r.lt
  have r_0 : w3.cell? ⟨w.heap.size + 1 + 1, 0, none⟩ = some (.int .i64 0) := r.cell 0
  have r_1 : w3.cell? ⟨w.heap.size + 1 + 1, 1, none⟩ = some (.int .i64 0) := r.cell 1
  have r_2 : w3.cell? ⟨w.heap.size + 1 + 1, 2, none⟩ = some (.slice none 0 0) := r.cell 2
  have r_3 : w3.cell? ⟨w.heap.size + 1 + 1, 3, none⟩ = some (.int .i64 0) := r.cell 3
  have r_4 : w3.cell? ⟨w.heap.size + 1 + 1, 4, none⟩ = some (.int .i64 0) := r.cell 4
  have rf := r.free
  have Hr := Lib.hid r
  clear r
  have zz3 := hg3.size
  simp at zz3
  have HO := Lib.hid (((HO2.out.alloc _).old hg3).lo_le (lo' := w.heap.size + 1 + 1 + 1) (by omega))
  have HB := Lib.hid (bt (ba HB2.out _) hg3)
  clear hg3
  go_wp2_with fail
  refine bodyPost_ret (v := .tuple #[.agg #[.int .i64 0, .int .i64 0, .slice none 0 0, .int .i64 0, .int .i64 0], .bool false, .bool false]) (by simp [results, Try.results34, go_sem, r_0, r_1, r_2, r_3, r_4]) rfl (NewQBB.none_ rfl ?_)
  exact (by repeat (first | (with_reducible exact HB.out) | (with_reducible refine ba ?_ _) | (with_reducible refine bsB ?_ (by omega)) | (with_reducible refine bd ?_ _) | (with_reducible refine Below.drew ?_)))
set_option maxHeartbeats 1000000 in
theorem specPutTail_any (li by_ : Int) (A : Option Addr) (n cap : Nat) (se dr : Int) (L : List Pk) (p : Pk) (w : World) (hl : L.length = n) (hr : IRow w A (fl L)) (hn : n ≤ 1048576) (hcap : n ≤ cap) (hA : A = none → cap = 0) :
    Calls Try.prog 34 #[.agg #[.int .i64 li, .int .i64 by_, .slice A n cap, .int .i64 se, .int .i64 dr], .agg #[.int .i64 (p.id), .int .i64 (p.so), .int .i64 (p.de), .int .i64 (p.po), .int .i64 (p.ma), .int .i64 (p.si)]] w (PtP w li by_ L se dr p) := by
  rcases h : askd li by_ L se dr p with _ | _
  · rw [PtP_no (show ptOk li by_ L se dr p = false by simp [ptOk, h])]
    have HL := Lib.hid hl
    have HR := Lib.hid (fun (W : World) (hb : Below w.heap.size w W) => hr.below hb)
    clear hl hr hA
    go_enter Try.func34, Try.ntmps34
    go_wp2_with fail
    refine (quAsked_any _ _ _ _ _ _ _ L _ _ HL.out (HR.out _ (ba (ba (ba (b0 w) _) _) _)) hn hcap).mono ?_
    rw [h]
    rintro e w1 ⟨rfl, hg⟩
    have zhg := hg.size; (try simp at zhg); have c2hg := fun o => bkeep hg (w.heap.size + 1 + 1) o (by first | omega | (simp; done) | (simp; omega)); have f2hg := fun o => bfree hg (w.heap.size + 1 + 1) o (by first | omega | (simp; done) | (simp; omega))
    have HB := Lib.hid (bt (ba (ba (ba (b0 w) _) _) _) hg)
    go_wp2_with fail
    exact bodyPost_ret (v := .tuple #[.agg #[.int .i64 0, .int .i64 0, .slice none 0 0, .int .i64 0, .int .i64 0], .bool false, .bool false]) (by simp [results, Try.results34, go_sem, c2hg]) rfl (NewQBB.none_ rfl (by repeat (first | (with_reducible exact HB.out) | (with_reducible refine ba ?_ _) | (with_reducible refine bsB ?_ (by omega)) | (with_reducible refine bd ?_ _) | (with_reducible refine Below.drew ?_))))
  rcases hro : room li by_ L p with _ | _
  · rcases hc : cnt (dr + 1) with _ | _
    · exact specPutTail_over li by_ A n cap se dr L p w hl hr hn hcap hA h hro hc
    · exact specPutTail_full li by_ A n cap se dr L p w hl hr hn hcap hA h hro hc
  · exact specPutTail_put li by_ A n cap se dr L p w hl hr hn hcap hA h hro
end Go.Proofs.Ytgcbpooflecbpaa
