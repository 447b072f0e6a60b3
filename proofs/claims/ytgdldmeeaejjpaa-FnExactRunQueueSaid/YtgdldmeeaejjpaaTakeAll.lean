/- The contracts of TakeAll. -/
import Derived.Test.YtgdldmeeaejjpaaQuOps
namespace Go.Proofs.Ytgdldmeeaejjpaa
open Go.ChangeShapes Go.WideShapes Go.ChangeAt Go.RowKit
set_option linter.unusedVariables false
theorem IOwn.tight {w : World} {lo hi e s : Nat} {A : Option Addr} {n cap : Nat} {l : List Int} (h : IOwn w lo hi e s A n cap l) :
    (∀ a b, IOwn w a b e s A n cap l) ∨ ∃ g cur f, lo ≤ g ∧ g < hi ∧ w.heap[g]? = some (.cells cur e f) ∧ IOwn w g (g + 1) e s A n cap l := by
  rcases h.1.2 with ⟨hv, h0⟩ | ⟨g, cap', cur, hv, hb, hg, rest⟩
  · refine .inl fun a b => ⟨⟨h.1.1, .inl ⟨hv, h0⟩⟩, fun k hk => ?_⟩
    rw [hv] at hk
    cases hk
  · refine .inr ⟨g, cur, _, hb, h.2 g (by rw [hv]; rfl), hg, ⟨h.1.1, .inr ⟨g, cap', cur, hv, Nat.le_refl _, hg, rest⟩⟩, fun k hk => ?_⟩
    rw [hv] at hk
    have : g = k := by simpa [Value.ownBlock] using hk
    omega
theorem split2 {w : World} {lo hi e1 s1 : Nat} {A1 : Option Addr} {n1 c1 : Nat} {l1 : List Int} {e2 s2 : Nat} {A2 : Option Addr} {n2 c2 : Nat} {l2 : List Int} (h1 : IOwn w lo hi e1 s1 A1 n1 c1 l1) (h2 : IOwn w lo hi e2 s2 A2 n2 c2 l2) (he : e1 ≠ e2) (hlo : lo ≤ hi) :
    ∃ a1 b1 a2 b2, lo ≤ a1 ∧ b1 ≤ hi ∧ lo ≤ a2 ∧ b2 ≤ hi ∧ (b1 ≤ a2 ∨ b2 ≤ a1) ∧ IOwn w a1 b1 e1 s1 A1 n1 c1 l1 ∧ IOwn w a2 b2 e2 s2 A2 n2 c2 l2 := by
  rcases h1.tight with h1' | ⟨g1, cur1, f1, a1, b1, t1, h1'⟩
  · exact ⟨lo, lo, lo, hi, Nat.le_refl _, hlo, Nat.le_refl _, Nat.le_refl _, .inl (Nat.le_refl _), h1' _ _, h2⟩
  rcases h2.tight with h2' | ⟨g2, cur2, f2, a2, b2, t2, h2'⟩
  · exact ⟨lo, hi, lo, lo, Nat.le_refl _, Nat.le_refl _, Nat.le_refl _, hlo, .inr (Nat.le_refl _), h1, h2' _ _⟩
  have hne : g1 ≠ g2 := by
    rintro rfl
    rw [t1] at t2
    injection t2 with t2
    injection t2 with _ t2
    exact he t2
  exact ⟨g1, g1 + 1, g2, g2 + 1, a1, b1, a2, b2, by omega, h1', h2'⟩
/-- A queue and ids, all the call's own, and a bool. -/
def NewQI (w : World) (li by_ : Int) (n : Nat) (L : List Pk) (se dr : Int) (ids : List Int) (b : Bool) (e : Ending) (w' : World) : Prop :=
  ∃ A cap B m cap', ∃ a1 b1 a2 b2 : Nat, e = .returned (.tuple #[.agg #[.int .i64 li, .int .i64 by_, .slice A n cap, .int .i64 se, .int .i64 dr], .slice B m cap', .bool b]) ∧ IOwn w' a1 b1 35 6 A n cap (fl L) ∧ IOwn w' a2 b2 3 1 B m cap' ids ∧
    w.heap.size ≤ a1 ∧ b1 ≤ w'.heap.size ∧ w.heap.size ≤ a2 ∧ b2 ≤ w'.heap.size ∧ (b1 ≤ a2 ∨ b2 ≤ a1) ∧ Below w.heap.size w w'
theorem NewQI.mk {w w' : World} {li by_ : Int} {n : Nat} {L : List Pk} {se dr : Int} {ids : List Int} {b : Bool} {e : Ending} {A B : Option Addr} {cap m cap' : Nat}
    (he : e = .returned (.tuple #[.agg #[.int .i64 li, .int .i64 by_, .slice A n cap, .int .i64 se, .int .i64 dr], .slice B m cap', .bool b])) (h1 : IOwn w' w.heap.size w'.heap.size 35 6 A n cap (fl L)) (h2 : IOwn w' w.heap.size w'.heap.size 3 1 B m cap' ids) (hb : Below w.heap.size w w') : NewQI w li by_ n L se dr ids b e w' := by
  obtain ⟨a1, b1, a2, b2, q1, q2, q3, q4, q5, q6, q7⟩ := split2 h1 h2 (by decide) hb.size
  exact ⟨A, cap, B, m, cap', a1, b1, a2, b2, he, q6, q7, q1, q2, q3, q4, q5, hb⟩
theorem NewQI.none_ {w w' : World} {e : Ending} (he : e = .returned (.tuple #[.agg #[.int .i64 0, .int .i64 0, .slice none 0 0, .int .i64 0, .int .i64 0], .slice none 0 0, .bool false])) (hb : Below w.heap.size w w') : NewQI w 0 0 0 [] 0 0 [] false e w' := NewQI.mk he (IOwn.none_ _ _ _ _ _) (IOwn.none_ _ _ _ _ _) hb
def ifl (ok : Bool) (l : List Int) : List Int := if ok then l else []
def taOk (li by_ : Int) (L : List Pk) (se dr : Int) : Bool := qok li by_ L se dr && cnt (se + (L.length : Int))
def TaP (w : World) (li by_ : Int) (L : List Pk) (se dr : Int) : Ending → World → Prop := NewQI w (ifz (taOk li by_ L se dr) li) (ifz (taOk li by_ L se dr) by_) 0 [] (ifz (taOk li by_ L se dr) (se + (L.length : Int))) (ifz (taOk li by_ L se dr) dr) (ifl (taOk li by_ L se dr) (L.map Pk.id)) (taOk li by_ L se dr)
theorem TaP_no {w : World} {li by_ : Int} {L : List Pk} {se dr : Int} (h : taOk li by_ L se dr = false) : TaP w li by_ L se dr = NewQI w 0 0 0 [] 0 0 [] false := by simp [TaP, h, ifz, ifl]
theorem TaP_yes {w : World} {li by_ : Int} {L : List Pk} {se dr : Int} (h : taOk li by_ L se dr = true) : TaP w li by_ L se dr = NewQI w li by_ 0 [] (se + (L.length : Int)) dr (L.map Pk.id) true := by simp [TaP, h, ifz, ifl]
theorem qok_nil {li by_ : Int} {L : List Pk} {se dr s : Int} (h : qok li by_ L se dr = true) : qok li by_ [] s dr = cnt s := by
  have g := qok_iff.1 h
  have e1 : decide (1 ≤ li ∧ li ≤ 60) = true := decide_eq_true g.1
  have e2 : decide (1 ≤ by_ ∧ by_ ≤ 90000) = true := decide_eq_true g.2.1
  have e3 : decide ((([] : List Pk).length : Int) ≤ li) = true := decide_eq_true (by simp; omega)
  have e4 : cnt dr = true := cnt_iff.2 g.2.2.2.2.1
  have e5 : decide (szs [] ([] : List Pk).length ≤ by_) = true := decide_eq_true (by simp [szs]; omega)
  have e6 : apart [] = true := rfl
  simp only [qok, e1, e2, e3, e4, e5, e6, Bool.true_and, Bool.and_true]
end Go.Proofs.Ytgdldmeeaejjpaa
