/- The contracts of TakeAll. -/
import Derived.Test.YtgcbpooflecbpaaQuOps
namespace Go.Proofs.Ytgcbpooflecbpaa
open Go.ChangeShapes Go.WideShapes Go.ChangeAt Go.RowKit
set_option linter.unusedVariables false
theorem IOwn.tight {w : World} {lo hi e s : Nat} {A : Option Addr} {n cap : Nat} {l : List Int} (h : IOwn w lo hi e s A n cap l) :
    (∀ a b, IOwn w a b e s A n cap l) ∨ ∃ g cur f, lo ≤ g ∧ g < hi ∧ w.heap[g]? = some (.cells cur e f) ∧ IOwn w g (g + 1) e s A n cap l := by
  rcases h.1.2 with ⟨hv, h0⟩ | ⟨g, cap', cur, hv, hb, hg, rest⟩
  · refine .inl fun a b => ⟨⟨h.1.1, .inl ⟨hv, h0⟩⟩, fun k hk => ?_⟩
    rw [hv] at hk
    cases hk
  · refine .inr ⟨g, cur, _, hb, h.2 g (by rw [hv]; rfl), hg, ⟨h.1.1, .inr ⟨g, cap', cur, hv, Nat.le_refl _, hg, rest⟩⟩, fun k hk => ?_⟩
    rw [hv] at hk
    have : g = k := by simpa [Value.ownBlock] using hk
    omega
theorem split2 {w : World} {lo hi e1 s1 : Nat} {A1 : Option Addr} {n1 c1 : Nat} {l1 : List Int} {e2 s2 : Nat} {A2 : Option Addr} {n2 c2 : Nat} {l2 : List Int} (h1 : IOwn w lo hi e1 s1 A1 n1 c1 l1) (h2 : IOwn w lo hi e2 s2 A2 n2 c2 l2) (he : e1 ≠ e2) (hlo : lo ≤ hi) :
    ∃ a1 b1 a2 b2, lo ≤ a1 ∧ b1 ≤ hi ∧ lo ≤ a2 ∧ b2 ≤ hi ∧ (b1 ≤ a2 ∨ b2 ≤ a1) ∧ IOwn w a1 b1 e1 s1 A1 n1 c1 l1 ∧ IOwn w a2 b2 e2 s2 A2 n2 c2 l2 := by
  rcases h1.tight with h1' | ⟨g1, cur1, f1, a1, b1, t1, h1'⟩
  · exact ⟨lo, lo, lo, hi, Nat.le_refl _, hlo, Nat.le_refl _, Nat.le_refl _, .inl (Nat.le_refl _), h1' _ _, h2⟩
  rcases h2.tight with h2' | ⟨g2, cur2, f2, a2, b2, t2, h2'⟩
  · exact ⟨lo, hi, lo, lo, Nat.le_refl _, Nat.le_refl _, Nat.le_refl _, hlo, .inr (Nat.le_refl _), h1, h2' _ _⟩
  have hne : g1 ≠ g2 := by
    rintro rfl
    rw [t1] at t2
    injection t2 with t2
    injection t2 with _ t2
    exact he t2
  exact ⟨g1, g1 + 1, g2, g2 + 1, a1, b1, a2, b2, by omega, h1', h2'⟩
/-- A queue and ids, all the call's own, and a bool. -/
def NewQI (w : World) (li by_ : Int) (n : Nat) (L : List Pk) (se dr : Int) (ids : List Int) (b : Bool) (e : Ending) (w' : World) : Prop :=
  ∃ A cap B m cap', ∃ a1 b1 a2 b2 : Nat, e = .returned (.tuple #[.agg #[.int .i64 li, .int .i64 by_, .slice A n cap, .int .i64 se, .int .i64 dr], .slice B m cap', .bool b]) ∧ IOwn w' a1 b1 49 6 A n cap (fl L) ∧ IOwn w' a2 b2 3 1 B m cap' ids ∧
    w.heap.size ≤ a1 ∧ b1 ≤ w'.heap.size ∧ w.heap.size ≤ a2 ∧ b2 ≤ w'.heap.size ∧ (b1 ≤ a2 ∨ b2 ≤ a1) ∧ Below w.heap.size w w'
theorem NewQI.mk {w w' : World} {li by_ : Int} {n : Nat} {L : List Pk} {se dr : Int} {ids : List Int} {b : Bool} {e : Ending} {A B : Option Addr} {cap m cap' : Nat}
    (he : e = .returned (.tuple #[.agg #[.int .i64 li, .int .i64 by_, .slice A n cap, .int .i64 se, .int .i64 dr], .slice B m cap', .bool b])) (h1 : IOwn w' w.heap.size w'.heap.size 49 6 A n cap (fl L)) (h2 : IOwn w' w.heap.size w'.heap.size 3 1 B m cap' ids) (hb : Below w.heap.size w w') : NewQI w li by_ n L se dr ids b e w' := by
  obtain ⟨a1, b1, a2, b2, q1, q2, q3, q4, q5, q6, q7⟩ := split2 h1 h2 (by decide) hb.size
  exact ⟨A, cap, B, m, cap', a1, b1, a2, b2, he, q6, q7, q1, q2, q3, q4, q5, hb⟩
theorem NewQI.none_ {w w' : World} {e : Ending} (he : e = .returned (.tuple #[.agg #[.int .i64 0, .int .i64 0, .slice none 0 0, .int .i64 0, .int .i64 0], .slice none 0 0, .bool false])) (hb : Below w.heap.size w w') : NewQI w 0 0 0 [] 0 0 [] false e w' := NewQI.mk he (IOwn.none_ _ _ _ _ _) (IOwn.none_ _ _ _ _ _) hb
def ifl (ok : Bool) (l : List Int) : List Int := if ok then l else []
def taOk (li by_ : Int) (L : List Pk) (se dr : Int) : Bool := qok li by_ L se dr && cnt (se + (L.length : Int))
def TaP (w : World) (li by_ : Int) (L : List Pk) (se dr : Int) : Ending → World → Prop := NewQI w (ifz (taOk li by_ L se dr) li) (ifz (taOk li by_ L se dr) by_) 0 [] (ifz (taOk li by_ L se dr) (se + (L.length : Int))) (ifz (taOk li by_ L se dr) dr) (ifl (taOk li by_ L se dr) (L.map Pk.id)) (taOk li by_ L se dr)
theorem TaP_no {w : World} {li by_ : Int} {L : List Pk} {se dr : Int} (h : taOk li by_ L se dr = false) : TaP w li by_ L se dr = NewQI w 0 0 0 [] 0 0 [] false := by simp [TaP, h, ifz, ifl]
theorem TaP_yes {w : World} {li by_ : Int} {L : List Pk} {se dr : Int} (h : taOk li by_ L se dr = true) : TaP w li by_ L se dr = NewQI w li by_ 0 [] (se + (L.length : Int)) dr (L.map Pk.id) true := by simp [TaP, h, ifz, ifl]
theorem qok_nil {li by_ : Int} {L : List Pk} {se dr s : Int} (h : qok li by_ L se dr = true) : qok li by_ [] s dr = cnt s := by
  have g := qok_iff.1 h
  have e1 : decide (1 ≤ li ∧ li ≤ 60) = true := decide_eq_true g.1
  have e2 : decide (1 ≤ by_ ∧ by_ ≤ 90000) = true := decide_eq_true g.2.1
  have e3 : decide ((([] : List Pk).length : Int) ≤ li) = true := decide_eq_true (by simp; omega)
  have e4 : cnt dr = true := cnt_iff.2 g.2.2.2.2.1
  have e5 : decide (szs [] ([] : List Pk).length ≤ by_) = true := decide_eq_true (by simp [szs]; omega)
  have e6 : apart [] = true := rfl
  simp only [qok, e1, e2, e3, e4, e5, e6, Bool.true_and, Bool.and_true]
set_option maxRecDepth 100000 in
set_option maxHeartbeats 2000000 in
theorem specTakeAll_any (li by_ : Int) (A : Option Addr) (n cap : Nat) (se dr : Int) (L : List Pk) (w : World) (hl : L.length = n) (hr : IRow w A (fl L)) (hn : n ≤ 1048576) :
    Calls Try.prog 37 #[.agg #[.int .i64 li, .int .i64 by_, .slice A n cap, .int .i64 se, .int .i64 dr]] w (TaP w li by_ L se dr) := by
  have HL := Lib.hid hl
  have HR := Lib.hid (fun (W : World) (hb : Below w.heap.size w W) => hr.below hb)
  rcases h : qok li by_ L se dr with _ | _
  · rw [TaP_no (show taOk li by_ L se dr = false by simp [taOk, h])]
    clear hl hr
    go_enter Try.func37, Try.ntmps37
    go_wp2_with fail
    refine (quGood_any _ _ _ _ _ _ _ L _ HL.out (HR.out _ (ba (ba (b0 w) _) _)) (by omega)).mono ?_
    rw [h]
    rintro e w1 ⟨rfl, hg⟩
    have zhg := hg.size; (try simp at zhg); have c0hg := fun o => bkeep hg (w.heap.size) o (by first | omega | (simp; done) | (simp; omega)); have f0hg := fun o => bfree hg (w.heap.size) o (by first | omega | (simp; done) | (simp; omega)); have c1hg := fun o => bkeep hg (w.heap.size + 1) o (by first | omega | (simp; done) | (simp; omega)); have f1hg := fun o => bfree hg (w.heap.size + 1) o (by first | omega | (simp; done) | (simp; omega))
    go_wp2_with fail
    exact bodyPost_ret (v := .tuple #[.agg #[.int .i64 0, .int .i64 0, .slice none 0 0, .int .i64 0, .int .i64 0], .slice none 0 0, .bool false]) (by simp [results, Try.results37, go_sem, c1hg]) rfl (NewQI.none_ rfl (by repeat (first | (with_reducible exact b0 _) | (with_reducible refine ba ?_ _) | (with_reducible refine bd ?_ _) | (with_reducible refine Below.drew ?_) | (with_reducible refine bs ?_ (by first | exact Nat.le_refl _ | exact Nat.le_add_right _ _ | omega) _) | (with_reducible refine bt ?_ (by assumption)))))
  have g := qok_iff.1 h
  have HG := Lib.hid g
  have hn6 : n ≤ 60 := by omega
  have s1 : 0 ≤ se ∧ se ≤ 1000000 := g.2.2.2.1
  have d1 : 0 ≤ dr ∧ dr ≤ 1000000 := g.2.2.2.2.1
  clear g
  have HN := Lib.hid (qok_nil (s := se + (n : Int)) h)
  rcases h2 : cnt (se + (n : Int)) with _ | _
  · rw [TaP_no (show taOk li by_ L se dr = false by simp only [taOk, hl, h2, Bool.and_false])]
    clear hl hr
    go_enter Try.func37, Try.ntmps37
    go_wp2_with fail
    refine (quGood_any _ _ _ _ _ _ _ L _ HL.out (HR.out _ (ba (ba (b0 w) _) _)) (by omega)).mono ?_
    rw [h]
    rintro e w1 ⟨rfl, hg⟩
    have zhg := hg.size; (try simp at zhg); have c0hg := fun o => bkeep hg (w.heap.size) o (by first | omega | (simp; done) | (simp; omega)); have f0hg := fun o => bfree hg (w.heap.size) o (by first | omega | (simp; done) | (simp; omega)); have c1hg := fun o => bkeep hg (w.heap.size + 1) o (by first | omega | (simp; done) | (simp; omega)); have f1hg := fun o => bfree hg (w.heap.size + 1) o (by first | omega | (simp; done) | (simp; omega))
    go_wp2_with fail
    refine (quWith_any _ _ _ _ _ _ _ none 0 0 [] _ _ _ rfl (IRow.nil _ _) (fun _ => rfl) (by omega) s1 d1 (by omega) (by omega)).mono ?_
    rintro e w2 ⟨A2, c2, rfl, ho2, hg2⟩
    rw [Int.add_zero]
    go_wp2_with fail
    refine (quIf_no _ _ _ 0 _ _ _ [] _ rfl (IRow.nil _ _) (by omega) (HN.out.trans h2)).mono ?_
    rintro e w3 ⟨rfl, hg3⟩
    have b3 : Bk w3 (w.heap.size + 1) 36 #[.int .i64 0, .int .i64 0, .slice none 0 0, .int .i64 0, .int .i64 0] := (((Bk.new_ (by simp)).old hg).old hg2).old hg3
    have z3 := b3.lt
    have l0 := b3.cell 0
    have l1 := b3.cell 1
    have l2 := b3.cell 2
    have l3 := b3.cell 3
    have l4 := b3.cell 4
    simp at l0 l1 l2 l3 l4
    have lf := b3.free
    have HB3 := Lib.hid (bt (bt (bt (ba (ba (b0 w) _) _) hg) hg2) hg3)
    clear b3 ho2 hg hg2 hg3 c0hg c1hg f0hg f1hg
    go_wp2_with fail
    exact bodyPost_ret (v := .tuple #[.agg #[.int .i64 0, .int .i64 0, .slice none 0 0, .int .i64 0, .int .i64 0], .slice none 0 0, .bool false]) (by simp [results, Try.results37, go_sem, l0, l1, l2, l3, l4, z3]) rfl (NewQI.none_ rfl (by repeat (first | (with_reducible exact HB3.out) | (with_reducible refine ba ?_ _) | (with_reducible refine bsB ?_ (by omega)) | (with_reducible refine bd ?_ _) | (with_reducible refine Below.drew ?_))))
  · rw [TaP_yes (show taOk li by_ L se dr = true by simp only [taOk, h, hl, h2, Bool.and_true]), hl]
    clear hl hr
    go_enter Try.func37, Try.ntmps37
    go_wp2_with fail
    refine (quGood_any _ _ _ _ _ _ _ L _ HL.out (HR.out _ (ba (ba (b0 w) _) _)) (by omega)).mono ?_
    rw [h]
    rintro e w1 ⟨rfl, hg⟩
    have zhg := hg.size; (try simp at zhg); have c0hg := fun o => bkeep hg (w.heap.size) o (by first | omega | (simp; done) | (simp; omega)); have f0hg := fun o => bfree hg (w.heap.size) o (by first | omega | (simp; done) | (simp; omega)); have c1hg := fun o => bkeep hg (w.heap.size + 1) o (by first | omega | (simp; done) | (simp; omega)); have f1hg := fun o => bfree hg (w.heap.size + 1) o (by first | omega | (simp; done) | (simp; omega))
    go_wp2_with fail
    refine (quWith_any _ _ _ _ _ _ _ none 0 0 [] _ _ _ rfl (IRow.nil _ _) (fun _ => rfl) (by omega) s1 d1 (by omega) (by omega)).mono ?_
    rintro e w2 ⟨A2, c2, rfl, ho2, hg2⟩
    rw [Int.add_zero]
    go_wp2_with fail
    refine (quIf_yes _ _ _ 0 _ _ _ [] _ rfl (IRow.nil _ _) (by omega) (HN.out.trans h2)).mono ?_
    rintro e w3 ⟨rfl, hg3⟩
    have b3 : Bk w3 (w.heap.size + 1) 36 #[.int .i64 0, .int .i64 0, .slice none 0 0, .int .i64 0, .int .i64 0] := (((Bk.new_ (by simp)).old hg).old hg2).old hg3
    have a3 : Bk w3 w.heap.size 36 #[.int .i64 li, .int .i64 by_, .slice A n cap, .int .i64 se, .int .i64 dr] := ((((Bk.new w _ _).alloc _).old hg).old hg2).old hg3
    have z3 := b3.lt
    have z30 := a3.lt
    have a2 := a3.cell 2
    have l0 := b3.cell 0
    have l1 := b3.cell 1
    have l2 := b3.cell 2
    have l3 := b3.cell 3
    have l4 := b3.cell 4
    simp at a2 l0 l1 l2 l3 l4
    have lf := b3.free
    have HB3 := Lib.hid (bt (bt (bt (ba (ba (b0 w) _) _) hg) hg2) hg3)
    have zz := hg.size
    have zz2 := hg2.size
    simp at zz
    have HO2 := Lib.hid ((ho2.lo_le (lo' := w.heap.size + 1 + 1) (by omega)).old hg3)
    have HBb := Lib.hid b3
    clear b3 a3 ho2 hg hg2 hg3 c0hg c1hg f0hg f1hg
    go_wp2_with fail
    have hne1 : ¬ w.heap.size + 1 = w3.heap.size := by omega
    have hne2 : ¬ w3.heap.size = w.heap.size + 1 := by omega
    go_region_held3 (fun w' => w'.cell? ⟨w3.heap.size, 0, none⟩ = some (.int .i64 li) ∧ w'.cell? ⟨w3.heap.size, 1, none⟩ = some (.int .i64 by_) ∧ w'.cell? ⟨w3.heap.size, 2, none⟩ = some (.slice A2 0 c2) ∧ w'.cell? ⟨w3.heap.size, 3, none⟩ = some (.int .i64 (se + (n : Int))) ∧ w'.cell? ⟨w3.heap.size, 4, none⟩ = some (.int .i64 dr) ∧ w'.cell? ⟨w.heap.size, 2, none⟩ = some (.slice A n cap)) (go_keep)
      (first
        | (go_at_call 72; refine (quIds_any _ _ _ L _ HL.out (HR.out _ (ba HB3.out _).drew) hn).mono ?_; rintro e w4 ⟨B, m, cB, rfl, ho4, hg4⟩; have x1 := fun o => bkeep hg4 w3.heap.size o (by simp); have x2 := fun o => bkeep hg4 w.heap.size o (by simp; omega); have x3 := fun o => bkeep hg4 (w.heap.size + 1) o (by simp; omega); have x4 := fun o => bfree hg4 (w.heap.size + 1) o (by simp; omega)))
    have b4 := ((HBb.out.alloc _).drew).old hg4
    have n0 := b4.cell 0
    have n1 := b4.cell 1
    have n2 := b4.cell 2
    have n3 := b4.cell 3
    have n4 := b4.cell 4
    simp at n0 n1 n2 n3 n4
    have z4 := b4.lt
    have zz4 := hg4.size
    simp at zz4
    have HO4 := Lib.hid (((HO2.out.alloc _).drew).old hg4)
    have HI4 := Lib.hid (ho4.lo_le (lo' := w.heap.size + 1 + 1) (by simp; omega))
    have HB4 := Lib.hid (bt (ba HB3.out _).drew hg4)
    clear b4 ho4 hg4 x1 x2 x3 x4
    go_wp2_with fail
    refine bodyPost_ret (v := .tuple #[.agg #[.int .i64 li, .int .i64 by_, .slice A2 0 c2, .int .i64 (se + (n : Int)), .int .i64 dr], .slice B m cB, .bool true]) (by simp [results, Try.results37, go_sem, n0, n1, n2, n3, n4]) rfl (NewQI.mk rfl ?_ ?_ ?_)
    · exact (by refine IOw.here (lo := w.heap.size + 1 + 1) ?_ (by omega); repeat (first | (with_reducible exact IOw.of HO4.out) | (with_reducible refine IOw.alloc ?_ _) | (with_reducible refine IOw.farB ?_ (by omega)) | (with_reducible refine IOw.drewN ?_ _) | (with_reducible refine IOw.drew ?_)))
    · exact (by refine IOw.here (lo := w.heap.size + 1 + 1) ?_ (by omega); repeat (first | (with_reducible exact IOw.of HI4.out) | (with_reducible refine IOw.alloc ?_ _) | (with_reducible refine IOw.farB ?_ (by omega)) | (with_reducible refine IOw.drewN ?_ _) | (with_reducible refine IOw.drew ?_)))
    · exact (by repeat (first | (with_reducible exact HB4.out) | (with_reducible refine ba ?_ _) | (with_reducible refine bsB ?_ (by omega)) | (with_reducible refine bd ?_ _) | (with_reducible refine Below.drew ?_)))
set_option maxHeartbeats 2000000 in
theorem implTakeAll_any (li by_ : Int) (A : Option Addr) (n cap : Nat) (se dr : Int) (L : List Pk) (w : World) (hl : L.length = n) (hr : IRow w A (fl L)) (hn : n ≤ 1048576) (hcap : n ≤ cap) :
    Calls Try.prog 38 #[.agg #[.int .i64 li, .int .i64 by_, .slice A n cap, .int .i64 se, .int .i64 dr]] w (TaP w li by_ L se dr) := by
  have HL := Lib.hid hl
  have HR := Lib.hid (fun (W : World) (hb : Below w.heap.size w W) => hr.below hb)
  rcases h : qok li by_ L se dr with _ | _
  · rw [TaP_no (show taOk li by_ L se dr = false by simp [taOk, h])]
    clear hl hr
    go_enter Try.func38, Try.ntmps38
    go_wp2_with fail
    refine (isQueue_b _ _ _ _ _ _ _ L _ HL.out (HR.out _ (ba (ba (b0 w) _) _)) (by omega) hcap h).mono ?_
    rintro e w1 ⟨rfl, hg⟩
    have zhg := hg.size; (try simp at zhg); have c0hg := fun o => bkeep hg (w.heap.size) o (by first | omega | (simp; done) | (simp; omega)); have f0hg := fun o => bfree hg (w.heap.size) o (by first | omega | (simp; done) | (simp; omega)); have c1hg := fun o => bkeep hg (w.heap.size + 1) o (by first | omega | (simp; done) | (simp; omega)); have f1hg := fun o => bfree hg (w.heap.size + 1) o (by first | omega | (simp; done) | (simp; omega))
    go_wp2_with fail
    exact bodyPost_ret (v := .tuple #[.agg #[.int .i64 0, .int .i64 0, .slice none 0 0, .int .i64 0, .int .i64 0], .slice none 0 0, .bool false]) (by simp [results, Try.results38, go_sem, c1hg]) rfl (NewQI.none_ rfl (by repeat (first | (with_reducible exact b0 _) | (with_reducible refine ba ?_ _) | (with_reducible refine bd ?_ _) | (with_reducible refine Below.drew ?_) | (with_reducible refine bs ?_ (by first | exact Nat.le_refl _ | exact Nat.le_add_right _ _ | omega) _) | (with_reducible refine bt ?_ (by assumption)))))
  have g := qok_iff.1 h
  have HG := Lib.hid g
  have hn6 : n ≤ 60 := by omega
  have s1 : 0 ≤ se ∧ se ≤ 1000000 := g.2.2.2.1
  have d1 : 0 ≤ dr ∧ dr ≤ 1000000 := g.2.2.2.2.1
  clear g
  by_cases h2 : 1000000 < se + (n : Int)
  · rw [TaP_no (show taOk li by_ L se dr = false by simp only [taOk, hl, cnt, decide_eq_false (show ¬ (0 ≤ se + (n : Int) ∧ se + (n : Int) ≤ 1000000) by omega), Bool.and_false])]
    clear hl hr
    go_enter Try.func38, Try.ntmps38
    go_wp2_with fail
    refine (isQueue_b _ _ _ _ _ _ _ L _ HL.out (HR.out _ (ba (ba (b0 w) _) _)) (by omega) hcap h).mono ?_
    rintro e w1 ⟨rfl, hg⟩
    have zhg := hg.size; (try simp at zhg); have c0hg := fun o => bkeep hg (w.heap.size) o (by first | omega | (simp; done) | (simp; omega)); have f0hg := fun o => bfree hg (w.heap.size) o (by first | omega | (simp; done) | (simp; omega)); have c1hg := fun o => bkeep hg (w.heap.size + 1) o (by first | omega | (simp; done) | (simp; omega)); have f1hg := fun o => bfree hg (w.heap.size + 1) o (by first | omega | (simp; done) | (simp; omega))
    go_wp2_with fail
    exact bodyPost_ret (v := .tuple #[.agg #[.int .i64 0, .int .i64 0, .slice none 0 0, .int .i64 0, .int .i64 0], .slice none 0 0, .bool false]) (by simp [results, Try.results38, go_sem, c1hg]) rfl (NewQI.none_ rfl (by repeat (first | (with_reducible exact b0 _) | (with_reducible refine ba ?_ _) | (with_reducible refine bd ?_ _) | (with_reducible refine Below.drew ?_) | (with_reducible refine bs ?_ (by first | exact Nat.le_refl _ | exact Nat.le_add_right _ _ | omega) _) | (with_reducible refine bt ?_ (by assumption)))))
  · rw [TaP_yes (show taOk li by_ L se dr = true by simp only [taOk, h, hl, cnt, decide_eq_true (show 0 ≤ se + (n : Int) ∧ se + (n : Int) ≤ 1000000 by omega), Bool.and_true]), hl]
    clear hl hr
    go_enter Try.func38, Try.ntmps38
    go_wp2_with fail
    refine (isQueue_b _ _ _ _ _ _ _ L _ HL.out (HR.out _ (ba (ba (b0 w) _) _)) (by omega) hcap h).mono ?_
    rintro e w1 ⟨rfl, hg⟩
    have zhg := hg.size; (try simp at zhg); have c0hg := fun o => bkeep hg (w.heap.size) o (by first | omega | (simp; done) | (simp; omega)); have f0hg := fun o => bfree hg (w.heap.size) o (by first | omega | (simp; done) | (simp; omega)); have c1hg := fun o => bkeep hg (w.heap.size + 1) o (by first | omega | (simp; done) | (simp; omega)); have f1hg := fun o => bfree hg (w.heap.size + 1) o (by first | omega | (simp; done) | (simp; omega))
    go_wp2_with fail
    refine (idsOf_any _ _ _ L _ HL.out (HR.out _ (bt (ba (ba (b0 w) _) _) hg)) hn).mono ?_
    rintro e w2 ⟨B, m, cB, rfl, ho2, hg2⟩
    have b3 : Bk w2 (w.heap.size + 1) 36 #[.int .i64 0, .int .i64 0, .slice none 0 0, .int .i64 0, .int .i64 0] := ((Bk.new_ (by simp)).old hg).old hg2
    have a3 : Bk w2 w.heap.size 36 #[.int .i64 li, .int .i64 by_, .slice A n cap, .int .i64 se, .int .i64 dr] := (((Bk.new w _ _).alloc _).old hg).old hg2
    have z3 := b3.lt
    have z30 := a3.lt
    have a0 := a3.cell 0
    have a1 := a3.cell 1
    have a2 := a3.cell 2
    have a33 := a3.cell 3
    have a4 := a3.cell 4
    have l0 := b3.cell 0
    have l1 := b3.cell 1
    have l2 := b3.cell 2
    have l3 := b3.cell 3
    have l4 := b3.cell 4
    simp at a0 a1 a2 a33 a4 l0 l1 l2 l3 l4
    have lf := b3.free
    have af := a3.free
    have HI := Lib.hid (ho2.lo_le (lo' := w.heap.size + 1 + 1) (by omega))
    have HB := Lib.hid (bt (bt (ba (ba (b0 w) _) _) hg) hg2)
    clear b3 a3 ho2 hg hg2 c0hg c1hg f0hg f1hg
    go_wp2_with fail
    refine bodyPost_ret (v := .tuple #[.agg #[.int .i64 li, .int .i64 by_, .slice none 0 0, .int .i64 (se + (n : Int)), .int .i64 dr], .slice B m cB, .bool true]) (by simp [results, Try.results38, go_sem, l0, l1, l2, l3, l4]) rfl (NewQI.mk rfl (IOwn.none_ _ _ _ _ _) ?_ ?_)
    · exact (by refine IOw.here (lo := w.heap.size + 1 + 1) ?_ (by omega); repeat (first | (with_reducible exact IOw.of HI.out) | (with_reducible refine IOw.alloc ?_ _) | (with_reducible refine IOw.farB ?_ (by omega)) | (with_reducible refine IOw.drewN ?_ _) | (with_reducible refine IOw.drew ?_)))
    · exact (by repeat (first | (with_reducible exact HB.out) | (with_reducible refine ba ?_ _) | (with_reducible refine bsB ?_ (by omega)) | (with_reducible refine bd ?_ _) | (with_reducible refine Below.drew ?_)))
end Go.Proofs.Ytgcbpooflecbpaa
