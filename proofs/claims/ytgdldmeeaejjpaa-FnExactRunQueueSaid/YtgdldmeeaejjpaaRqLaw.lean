/- The plain laws of a queue that is run: arrivals and takes. No program in sight. -/
import Derived.Test.YtgdldmeeaejjpaaApart
namespace Go.Proofs.Ytgdldmeeaejjpaa
open Go.ChangeShapes Go.WideShapes Go.ChangeAt Go.RowKit
set_option linter.unusedVariables false
/-- A queue's packets and counts, the ids taken, the ids dropped. -/
structure Rq where
  L : List Pk
  se : Int
  dr : Int
  T : List Int
  D : List Int
def rqPut (li by_ : Int) (x : Rq) (p : Pk) : Rq := if room li by_ x.L p then ⟨x.L ++ [p], x.se, x.dr, x.T, x.D⟩ else ⟨x.L, x.se, x.dr + 1, x.T, x.D ++ [p.id]⟩
def rqTake (x : Rq) (k : Nat) : Rq := ⟨x.L.drop k, x.se + (k : Int), x.dr, x.T ++ (x.L.take k).map Pk.id, x.D⟩
def rqStep (li by_ : Int) (t : Nat) (x : Rq) (p : Pk) : Rq := rqTake (rqPut li by_ x p) (min t (rqPut li by_ x p).L.length)
def rqRun (li by_ : Int) (t : Nat) (x : Rq) (P : List Pk) (k : Nat) : Rq := (P.take k).foldl (rqStep li by_ t) x
theorem rqPut_yes {li by_ : Int} {x : Rq} {p : Pk} (h : room li by_ x.L p = true) : rqPut li by_ x p = ⟨x.L ++ [p], x.se, x.dr, x.T, x.D⟩ := by simp [rqPut, h]
theorem rqPut_no {li by_ : Int} {x : Rq} {p : Pk} (h : room li by_ x.L p = false) : rqPut li by_ x p = ⟨x.L, x.se, x.dr + 1, x.T, x.D ++ [p.id]⟩ := by simp [rqPut, h]
theorem rqTake_zero (x : Rq) : rqTake x 0 = x := by simp [rqTake]
theorem rqTake_succ {x : Rq} {k : Nat} {p : Pk} {T : List Pk} (h : (rqTake x k).L = p :: T) : rqTake x (k + 1) = ⟨T, (rqTake x k).se + 1, x.dr, (rqTake x k).T ++ [p.id], x.D⟩ := by
  simp only [rqTake] at h ⊢
  have hk : k < x.L.length := by
    rcases Nat.lt_or_ge k x.L.length with h' | h'
    · exact h'
    · rw [List.drop_eq_nil_of_le h'] at h; cases h
  have h1 := List.drop_eq_getElem_cons hk
  rw [h] at h1
  injection h1 with e1 e2
  have h3 : (x.L.take (k + 1)).map Pk.id = (x.L.take k).map Pk.id ++ [p.id] := by
    rw [List.take_succ_eq_append_getElem hk, List.map_append, ← e1]
    rfl
  rw [h3, ← e2, List.append_assoc]
  congr 1
  omega
theorem rqRun_zero (li by_ : Int) (t : Nat) (x : Rq) (P : List Pk) : rqRun li by_ t x P 0 = x := by simp [rqRun]
theorem rqRun_succ {li by_ : Int} {t : Nat} {x : Rq} {P : List Pk} {k : Nat} {p : Pk} (h : P[k]? = some p) : rqRun li by_ t x P (k + 1) = rqStep li by_ t (rqRun li by_ t x P k) p := by
  obtain ⟨hk, e⟩ := List.getElem?_eq_some_iff.1 h
  simp [rqRun, List.take_succ_eq_append_getElem hk, e]
theorem rqPut_b (li by_ : Int) (x : Rq) (p : Pk) : (rqPut li by_ x p).se = x.se ∧ x.dr ≤ (rqPut li by_ x p).dr ∧ (rqPut li by_ x p).dr ≤ x.dr + 1 ∧ (rqPut li by_ x p).T = x.T ∧ (rqPut li by_ x p).D.length ≤ x.D.length + 1 := by
  unfold rqPut
  split <;> simp <;> omega
theorem rqTake_b (x : Rq) (k : Nat) : (rqTake x k).se = x.se + (k : Int) ∧ (rqTake x k).dr = x.dr ∧ (rqTake x k).T.length ≤ x.T.length + k ∧ (rqTake x k).D = x.D := by
  simp [rqTake]
  omega
theorem rqStep_b (li by_ : Int) (t : Nat) (x : Rq) (p : Pk) : x.se ≤ (rqStep li by_ t x p).se ∧ (rqStep li by_ t x p).se ≤ x.se + (t : Int) ∧ x.dr ≤ (rqStep li by_ t x p).dr ∧ (rqStep li by_ t x p).dr ≤ x.dr + 1 ∧ (rqStep li by_ t x p).T.length ≤ x.T.length + t ∧ (rqStep li by_ t x p).D.length ≤ x.D.length + 1 := by
  have h1 := rqPut_b li by_ x p
  have h2 := rqTake_b (rqPut li by_ x p) (min t (rqPut li by_ x p).L.length)
  have h3 : min t (rqPut li by_ x p).L.length ≤ t := Nat.min_le_left _ _
  unfold rqStep
  rw [h1.2.2.2.1] at h2
  rw [h2.2.2.2]
  omega
theorem rqRun_b (li by_ : Int) (t : Nat) (x : Rq) (P : List Pk) : ∀ k, k ≤ P.length → x.se ≤ (rqRun li by_ t x P k).se ∧ (rqRun li by_ t x P k).se ≤ x.se + (t * k : Nat) ∧ x.dr ≤ (rqRun li by_ t x P k).dr ∧ (rqRun li by_ t x P k).dr ≤ x.dr + (k : Int) ∧ (rqRun li by_ t x P k).T.length ≤ x.T.length + t * k ∧ (rqRun li by_ t x P k).D.length ≤ x.D.length + k
  | 0, _ => by rw [rqRun_zero]; simp
  | k + 1, h => by
    have ih := rqRun_b li by_ t x P k (by omega)
    rw [rqRun_succ (p := P[k]'(by omega)) (List.getElem?_eq_getElem (by omega)), Nat.mul_succ]
    have := rqStep_b li by_ t (rqRun li by_ t x P k) (P[k]'(by omega))
    omega
theorem rqRun_mono (li by_ : Int) (t : Nat) (x : Rq) (P : List Pk) (k : Nat) : ∀ j, k ≤ j → j ≤ P.length → (rqRun li by_ t x P k).se ≤ (rqRun li by_ t x P j).se ∧ (rqRun li by_ t x P k).dr ≤ (rqRun li by_ t x P j).dr := by
  intro j
  induction j with
  | zero =>
    intro h _
    obtain rfl : k = 0 := by omega
    exact ⟨Int.le_refl _, Int.le_refl _⟩
  | succ j ih =>
    intro h h2
    rcases Nat.lt_or_ge k (j + 1) with h3 | h3
    · have := ih (by omega) (by omega)
      rw [rqRun_succ (p := P[j]'(by omega)) (List.getElem?_eq_getElem (by omega))]
      have := rqStep_b li by_ t (rqRun li by_ t x P j) (P[j]'(by omega))
      omega
    · obtain rfl : k = j + 1 := by omega
      exact ⟨Int.le_refl _, Int.le_refl _⟩
/-- What stays true of the packets in a run. -/
def RqI (li by_ : Int) (L0 P : List Pk) (k : Nat) (L : List Pk) : Prop := qok li by_ L 0 0 = true ∧ L.Sublist (L0 ++ P.take k)
theorem qok_zero {li by_ : Int} {L : List Pk} {se dr : Int} (h : qok li by_ L se dr = true) : qok li by_ L 0 0 = true := by rw [qok_counts h]; decide
theorem RqI.zero {li by_ : Int} {L P : List Pk} {se dr : Int} (h : qok li by_ L se dr = true) : RqI li by_ L P 0 L := ⟨qok_zero h, by simp⟩
theorem RqI.drop {li by_ : Int} {L0 P L : List Pk} {k : Nat} (h : RqI li by_ L0 P k L) (m : Nat) : RqI li by_ L0 P k (L.drop m) :=
  ⟨by rw [qok_sub (List.drop_sublist m L) h.1]; decide, (List.drop_sublist m L).trans h.2⟩
theorem take_app {L0 P : List Pk} {k : Nat} {p : Pk} (hp : P[k]? = some p) : L0 ++ P.take (k + 1) = L0 ++ P.take k ++ [p] := by
  obtain ⟨hk, e⟩ := List.getElem?_eq_some_iff.1 hp
  rw [List.take_succ_eq_append_getElem hk, e, List.append_assoc]
theorem RqI.next {li by_ : Int} {L0 P L : List Pk} {k : Nat} {p : Pk} (h : RqI li by_ L0 P k L) (ha : apart (L0 ++ P) = true) (hp : P[k]? = some p) : p.ok = true ∧ hasK L L.length p.id = false ∧ askd li by_ L 0 0 p = true := by
  have h1 : apart (L ++ [p]) = true := by
    refine apart_sub (L := L0 ++ P) ?_ ha
    refine List.Sublist.trans (h.2.append (List.Sublist.refl [p])) ?_
    rw [← take_app hp]
    exact (List.Sublist.refl L0).append (List.take_sublist _ _)
  rw [apart_app] at h1
  simp only [Bool.and_eq_true, Bool.not_eq_true'] at h1
  exact ⟨h1.2.1, h1.2.2, askd_iff.2 ⟨h.1, h1.2.1, h1.2.2⟩⟩
theorem RqI.more {li by_ : Int} {L0 P L : List Pk} {k : Nat} (h : RqI li by_ L0 P k L) : RqI li by_ L0 P (k + 1) L :=
  ⟨h.1, h.2.trans ((List.Sublist.refl L0).append (List.take_sublist_take_left (Nat.le_succ k)))⟩
theorem RqI.put {li by_ : Int} {L0 P L : List Pk} {k : Nat} {p : Pk} (h : RqI li by_ L0 P k L) (ha : apart (L0 ++ P) = true) (hp : P[k]? = some p) (hr : room li by_ L p = true) : RqI li by_ L0 P (k + 1) (L ++ [p]) :=
  ⟨qok_put (h.next ha hp).2.2 hr, by rw [take_app hp]; exact h.2.append (List.Sublist.refl [p])⟩
theorem RqI.cnt {li by_ : Int} {L0 P L : List Pk} {k : Nat} (h : RqI li by_ L0 P k L) (se dr : Int) : qok li by_ L se dr = (cnt se && cnt dr) := qok_counts h.1
theorem RqI.len {li by_ : Int} {L0 P L : List Pk} {k : Nat} (h : RqI li by_ L0 P k L) : L.length ≤ 60 := by have g := qok_iff.1 h.1; omega
theorem RqI.sz {li by_ : Int} {L0 P L : List Pk} {k : Nat} (h : RqI li by_ L0 P k L) : SzOk L := apart_sz (qok_iff.1 h.1).2.2.2.2.2.1
/-- Whether a run is allowed; the run's end. -/
def rqG (li by_ : Int) (L : List Pk) (se dr : Int) (P : List Pk) (t : Int) : Bool := qok li by_ L se dr && decide (0 ≤ t ∧ t ≤ 5) && decide (P.length ≤ 60) && apart (L ++ P)
def rqE (li by_ : Int) (L : List Pk) (se dr : Int) (P : List Pk) (t : Int) : Rq := rqRun li by_ t.toNat ⟨L, se, dr, [], []⟩ P P.length
def rqOk (li by_ : Int) (L : List Pk) (se dr : Int) (P : List Pk) (t : Int) : Bool := rqG li by_ L se dr P t && (cnt (rqE li by_ L se dr P t).se && cnt (rqE li by_ L se dr P t).dr)
theorem rqG_iff {li by_ : Int} {L : List Pk} {se dr : Int} {P : List Pk} {t : Int} : rqG li by_ L se dr P t = true ↔ qok li by_ L se dr = true ∧ (0 ≤ t ∧ t ≤ 5) ∧ P.length ≤ 60 ∧ apart (L ++ P) = true := by
  simp only [rqG, Bool.and_eq_true, decide_eq_true_eq, and_assoc]
theorem rqOk_no {li by_ : Int} {L : List Pk} {se dr : Int} {P : List Pk} {t : Int} (h : rqG li by_ L se dr P t = false) : rqOk li by_ L se dr P t = false := by simp [rqOk, h]
/-- Counts that are too great stay so. -/
theorem rqOk_over {li by_ : Int} {L : List Pk} {se dr : Int} {P : List Pk} {t : Int} {k : Nat} (hk : k ≤ P.length) (h : 1000000 < (rqRun li by_ t.toNat ⟨L, se, dr, [], []⟩ P k).se ∨ 1000000 < (rqRun li by_ t.toNat ⟨L, se, dr, [], []⟩ P k).dr) : rqOk li by_ L se dr P t = false := by
  have hm := rqRun_mono li by_ t.toNat ⟨L, se, dr, [], []⟩ P k P.length hk (Nat.le_refl _)
  have h0 : cnt (rqE li by_ L se dr P t).se = false ∨ cnt (rqE li by_ L se dr P t).dr = false := by
    unfold rqE
    rcases h with h | h
    · exact .inl (decide_eq_false (by omega))
    · exact .inr (decide_eq_false (by omega))
  unfold rqOk
  rcases h0 with h0 | h0 <;> simp [h0]
/-- The guards one by one, as the reference asks them. -/
theorem apart_app_iff {L P : List Pk} (hL : apart L = true) : apart (L ++ P) = true ↔ ∀ i, i < P.length → (pat P i).ok = true ∧ hasK P i (pat P i).id = false ∧ hasK L L.length (pat P i).id = false := by
  rw [apart_iff, List.pairwise_append]
  obtain ⟨h1, h2⟩ := apart_iff.1 hL
  constructor
  · rintro ⟨a1, -, a2, a3⟩ i hi
    have hp : P[i]? = some P[i] := List.getElem?_eq_getElem hi
    have hm : P[i] ∈ P := List.getElem_mem hi
    rw [pat_of hp]
    refine ⟨a1 _ (by simp [hm]), ?_, hasK_all.2 fun q hq => a3 q hq _ hm⟩
    refine (hasK_mem (by omega)).2 fun q hq => ?_
    obtain ⟨j, hj, e⟩ := List.mem_iff_getElem.1 hq
    simp at hj
    rw [List.getElem_take] at e
    rw [← e]
    exact List.pairwise_iff_getElem.1 a2 j i (by omega) hi (by omega)
  · intro h
    refine ⟨fun q hq => ?_, h2, ?_, fun a ha b hb => ?_⟩
    · rcases List.mem_append.1 hq with hq | hq
      · exact h1 q hq
      · obtain ⟨i, hi, e⟩ := List.mem_iff_getElem.1 hq
        have := (h i hi).1
        rwa [pat_of (List.getElem?_eq_getElem hi), e] at this
    · refine List.pairwise_iff_getElem.2 fun i j hi hj hij => ?_
      have := (hasK_mem (by omega)).1 (h j hj).2.1 P[i] (List.mem_iff_getElem.2 ⟨i, by simp; omega, List.getElem_take⟩)
      rwa [pat_of (List.getElem?_eq_getElem hj)] at this
    · obtain ⟨i, hi, e⟩ := List.mem_iff_getElem.1 hb
      have := hasK_all.1 (h i hi).2.2 a ha
      rwa [pat_of (List.getElem?_eq_getElem hi), e] at this
def rqI (L P : List Pk) (i : Nat) : Bool := (pat P i).ok && !hasK P i (pat P i).id && !hasK L L.length (pat P i).id
theorem apart_rqI {L P : List Pk} (hL : apart L = true) : apart (L ++ P) = allB P.length (rqI L P) := by
  rw [Bool.eq_iff_iff, apart_app_iff hL, allB_iff]
  simp only [rqI, Bool.and_eq_true, Bool.not_eq_true', and_assoc]
/-- The counts of a run are small. -/
theorem rqRun_n {li by_ se dr : Int} {L P : List Pk} {t k : Nat} (s1 : 0 ≤ se ∧ se ≤ 1000000) (d1 : 0 ≤ dr ∧ dr ≤ 1000000) (ht : t ≤ 5) (hP : P.length ≤ 60) (hk : k ≤ P.length) {x : Rq} (hx : x = rqRun li by_ t ⟨L, se, dr, [], []⟩ P k) :
    (0 ≤ x.se ∧ x.se ≤ 1000300) ∧ (0 ≤ x.dr ∧ x.dr ≤ 1000060) ∧ x.T.length ≤ 300 ∧ x.D.length ≤ 60 := by
  have h := rqRun_b li by_ t ⟨L, se, dr, [], []⟩ P k hk
  have h2 : t * k ≤ 5 * 60 := Nat.mul_le_mul ht (by omega)
  rw [← hx] at h
  simp only [List.length_nil] at h
  omega
theorem rqPut_n {li by_ : Int} {x : Rq} {p : Pk} {j : Nat} (h : (0 ≤ x.se ∧ x.se ≤ 1000300) ∧ (0 ≤ x.dr ∧ x.dr ≤ 1000060) ∧ x.T.length ≤ 300 ∧ x.D.length ≤ 60) (hj : j ≤ 5) {z : Rq} (hz : z = rqTake (rqPut li by_ x p) j) :
    (0 ≤ z.se ∧ z.se ≤ 1000305) ∧ (0 ≤ z.dr ∧ z.dr ≤ 1000061) ∧ z.T.length ≤ 305 ∧ z.D.length ≤ 61 := by
  have h1 := rqPut_b li by_ x p
  have h2 := rqTake_b (rqPut li by_ x p) j
  rw [← hz] at h2
  rw [h1.2.2.2.1] at h2
  rw [h2.2.2.2]
  omega
theorem rqE_run {li by_ se dr : Int} {L P : List Pk} {t : Nat} : rqE li by_ L se dr P (t : Int) = rqRun li by_ t ⟨L, se, dr, [], []⟩ P P.length := by simp [rqE]
end Go.Proofs.Ytgdldmeeaejjpaa
