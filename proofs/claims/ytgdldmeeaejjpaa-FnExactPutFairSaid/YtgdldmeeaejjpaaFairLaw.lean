/- The plain laws of schedulers: when one is valid. No program in sight. -/
import Derived.Test.YtgdldmeeaejjpaaApart
import Derived.Test.YtgdldmeeaejjpaaFlow
namespace Go.Proofs.Ytgdldmeeaejjpaa
open Go.ChangeShapes Go.WideShapes Go.ChangeAt Go.RowKit
set_option linter.unusedVariables false
def rowF (F : List (List Pk)) (k : Nat) : List Pk := F[k]?.getD []
theorem rowF_of {F : List (List Pk)} {k : Nat} {L : List Pk} (h : F[k]? = some L) : rowF F k = L := by simp [rowF, h]
def datD (D : List Int) (k : Nat) : Int := D[k]?.getD 0
/-- The first j packets of flow k are right. -/
def fpk (L : List Pk) (n k j : Nat) : Bool := allB j fun i => (pat L i).ok && decide (flw (pat L i) (n : Int) = (k : Int))
def flowR (qu li nx : Int) (op : Bool) (n : Nat) (L : List Pk) (d : Int) (k : Nat) : Bool :=
  decide ((L.length : Int) ≤ li) && decide (0 ≤ d ∧ d ≤ qu + 1500) && fpk L n k L.length && decide ((L.length = 0 → d = 0) ∧ (0 < L.length → (op = true ∧ (k : Int) = nx) ∨ d < (pat L 0).si))
theorem flowR_iff {qu li nx : Int} {op : Bool} {n : Nat} {L : List Pk} {d : Int} {k : Nat} : flowR qu li nx op n L d k = true ↔ (L.length : Int) ≤ li ∧ (0 ≤ d ∧ d ≤ qu + 1500) ∧ fpk L n k L.length = true ∧ (L.length = 0 → d = 0) ∧ (0 < L.length → (op = true ∧ (k : Int) = nx) ∨ d < (pat L 0).si) := by
  simp only [flowR, Bool.and_eq_true, decide_eq_true_eq, and_assoc]
theorem bnot {b : Bool} (h : ¬ b = true) : b = false := by cases b; rfl; exact absurd rfl h
def fnum (qu li : Int) (n m : Nat) (nx : Int) : Bool := decide ((100 ≤ qu ∧ qu ≤ 3000) ∧ (1 ≤ li ∧ li ≤ 20) ∧ (1 ≤ n ∧ n ≤ 8) ∧ m = n ∧ (0 ≤ nx ∧ nx < (n : Int)))
theorem fnum_iff {qu li : Int} {n m : Nat} {nx : Int} : fnum qu li n m nx = true ↔ (100 ≤ qu ∧ qu ≤ 3000) ∧ (1 ≤ li ∧ li ≤ 20) ∧ (1 ≤ n ∧ n ≤ 8) ∧ m = n ∧ (0 ≤ nx ∧ nx < (n : Int)) := by simp [fnum]
/-- Whether a scheduler is valid. -/
def fok (qu li : Int) (F : List (List Pk)) (D : List Int) (nx : Int) (op : Bool) : Bool :=
  fnum qu li F.length D.length nx && allB F.length (fun k => flowR qu li nx op F.length (rowF F k) (datD D k) k) && decide (op = true → 0 < (rowF F nx.toNat).length) && apart F.flatten
theorem fok_iff {qu li : Int} {F : List (List Pk)} {D : List Int} {nx : Int} {op : Bool} : fok qu li F D nx op = true ↔ fnum qu li F.length D.length nx = true ∧ (∀ k, k < F.length → flowR qu li nx op F.length (rowF F k) (datD D k) k = true) ∧ (op = true → 0 < (rowF F nx.toNat).length) ∧ apart F.flatten = true := by
  simp only [fok, Bool.and_eq_true, decide_eq_true_eq, allB_iff, and_assoc]
theorem fok_num {qu li : Int} {F : List (List Pk)} {D : List Int} {nx : Int} {op : Bool} (h : fnum qu li F.length D.length nx = false) : fok qu li F D nx op = false := by simp [fok, h]
theorem fok_flow {qu li : Int} {F : List (List Pk)} {D : List Int} {nx : Int} {op : Bool} {k : Nat} {L : List Pk} (hk : F[k]? = some L) (h : ¬ flowR qu li nx op F.length L (datD D k) k = true) : fok qu li F D nx op = false := by
  apply bnot
  intro h'
  have h1 := (fok_iff.1 h').2.1 k (List.getElem?_eq_some_iff.1 hk).1
  rw [rowF_of hk] at h1
  exact h h1
theorem fok_apart {qu li : Int} {F : List (List Pk)} {D : List Int} {nx : Int} {op : Bool} (h : apart F.flatten = false) : fok qu li F D nx op = false := by simp [fok, h]
/-- The first k rows and j packets of the next one. -/
def fpre (F : List (List Pk)) (k j : Nat) : List Pk := (F.take k).flatten ++ (rowF F k).take j
theorem fpre_zero (F : List (List Pk)) : fpre F 0 0 = [] := by simp [fpre]
theorem fpre_row {F : List (List Pk)} {k : Nat} {L : List Pk} (h : F[k]? = some L) {j : Nat} (hj : L.length ≤ j) : fpre F k j = fpre F (k + 1) 0 := by
  obtain ⟨hk, e⟩ := List.getElem?_eq_some_iff.1 h
  unfold fpre
  rw [rowF_of h, List.take_of_length_le hj, List.take_succ_eq_append_getElem hk, e, List.flatten_append, List.take_zero, List.append_nil]
  simp
theorem fpre_succ {F : List (List Pk)} {k j : Nat} {L : List Pk} {p : Pk} (h : F[k]? = some L) (hp : L[j]? = some p) : fpre F k (j + 1) = fpre F k j ++ [p] := by
  obtain ⟨hj, e⟩ := List.getElem?_eq_some_iff.1 hp
  unfold fpre
  rw [rowF_of h, List.take_succ_eq_append_getElem hj, e, List.append_assoc]
theorem fpre_sub (F : List (List Pk)) (k j : Nat) : (fpre F k j).Sublist F.flatten := by
  have h1 : F.flatten = (F.take k).flatten ++ (F.drop k).flatten := by rw [← List.flatten_append, List.take_append_drop]
  unfold fpre
  rw [h1]
  refine List.Sublist.append_left ?_ _
  rcases Nat.lt_or_ge k F.length with hk | hk
  · have e := List.getElem?_eq_getElem hk
    rw [rowF_of e, List.drop_eq_getElem_cons hk, List.flatten_cons]
    exact (List.take_sublist _ _).trans (List.sublist_append_left _ _)
  · have e : F[k]? = none := List.getElem?_eq_none hk
    simp [rowF, e]
theorem fpre_all {F : List (List Pk)} : fpre F F.length 0 = F.flatten := by simp [fpre]
theorem fpre_no {F : List (List Pk)} {k j : Nat} (h : apart (fpre F k j) = false) : apart F.flatten = false := by
  apply bnot
  intro h'
  rw [apart_sub (fpre_sub F k j) h'] at h
  cases h
theorem fpk_zero (L : List Pk) (n k : Nat) : fpk L n k 0 = true := by simp [fpk, allB]
theorem fpk_succ {L : List Pk} {n k j : Nat} {p : Pk} (hp : L[j]? = some p) : fpk L n k (j + 1) = (fpk L n k j && (p.ok && decide (flw p (n : Int) = (k : Int)))) := by
  unfold fpk
  rw [allB_succ, pat_of hp]
theorem fpk_no {L : List Pk} {n k j : Nat} {p : Pk} (hp : L[j]? = some p) (h : (p.ok && decide (flw p (n : Int) = (k : Int))) = false) : fpk L n k L.length = false := by
  unfold fpk
  refine allB_no (k := j) (List.getElem?_eq_some_iff.1 hp).1 ?_
  simp only [pat_of hp]
  exact h
/-- What holds once the first k flows are found right. -/
def FGood (qu li nx : Int) (op : Bool) (F : List (List Pk)) (D : List Int) (k : Nat) : Prop := ∀ i, i < k → flowR qu li nx op F.length (rowF F i) (datD D i) i = true
theorem FGood.zero {qu li nx : Int} {op : Bool} {F : List (List Pk)} {D : List Int} : FGood qu li nx op F D 0 := fun i hi => by omega
theorem FGood.succ {qu li nx : Int} {op : Bool} {F : List (List Pk)} {D : List Int} {k : Nat} {L : List Pk} (h : FGood qu li nx op F D k) (hk : F[k]? = some L) (h1 : flowR qu li nx op F.length L (datD D k) k = true) : FGood qu li nx op F D (k + 1) := fun i hi => by
  rcases Nat.lt_succ_iff_lt_or_eq.1 hi with h' | rfl
  · exact h i h'
  · rw [rowF_of hk]; exact h1
def dAll (D : List Int) (hi : Int) : Bool := allB D.length fun i => decide (0 ≤ datD D i ∧ datD D i ≤ hi)
theorem dAll_at {D : List Int} {hi : Int} (h : dAll D hi = true) {k : Nat} (hk : k < D.length) : 0 ≤ datD D k ∧ datD D k ≤ hi := of_decide_eq_true (allB_iff.1 h k hk)
theorem fok_dall {qu li : Int} {F : List (List Pk)} {D : List Int} {nx : Int} {op : Bool} (h : dAll D (qu + 1500) = false) : fok qu li F D nx op = false := by
  apply bnot
  intro h'
  have g := fok_iff.1 h'
  have gn := fnum_iff.1 g.1
  have : dAll D (qu + 1500) = true := allB_yes fun i hi => by
    have h1 := g.2.1 i (by omega)
    exact decide_eq_true (flowR_iff.1 h1).2.1
  rw [this] at h
  cases h
def hasL (l : List Int) (x : Int) : Bool := decide (x ∈ l)
theorem hasL_map (M : List Pk) (x : Int) : hasL (M.map Pk.id) x = hasK M M.length x := by
  rcases h : hasK M M.length x with _ | _
  · refine decide_eq_false fun hm => ?_
    obtain ⟨q, hq, e⟩ := List.mem_map.1 hm
    exact hasK_all.1 h q hq e
  · refine decide_eq_true ?_
    apply Classical.byContradiction
    intro hn
    have : hasK M M.length x = false := hasK_all.2 fun q hq e => hn (List.mem_map.2 ⟨q, hq, e⟩)
    rw [this] at h
    cases h
theorem fpre_bad {F : List (List Pk)} {k j : Nat} {L : List Pk} {p : Pk} (h : F[k]? = some L) (hp : L[j]? = some p) (hh : hasL ((fpre F k j).map Pk.id) p.id = true) : apart (fpre F k (j + 1)) = false := by
  rw [fpre_succ h hp, apart_app, ← hasL_map, hh]
  simp
theorem fpre_fine {F : List (List Pk)} {k j : Nat} {L : List Pk} {p : Pk} (h : F[k]? = some L) (hp : L[j]? = some p) (ha : apart (fpre F k j) = true) (ho : p.ok = true) (hh : hasL ((fpre F k j).map Pk.id) p.id = false) : apart (fpre F k (j + 1)) = true := by
  rw [fpre_succ h hp, apart_app, ← hasL_map, hh, ha, ho]
  rfl
end Go.Proofs.Ytgdldmeeaejjpaa
