/- The plain laws of lists of packets with ids all apart. No program in sight. -/
import Derived.Test.YtgdldmeeaejjpaaTakeLaw
namespace Go.Proofs.Ytgdldmeeaejjpaa
open Go.ChangeShapes Go.WideShapes Go.ChangeAt Go.RowKit
set_option linter.unusedVariables false
theorem hasK_mem {L : List Pk} {k : Nat} {id : Int} (hk : k ≤ L.length) : hasK L k id = false ↔ ∀ p ∈ L.take k, p.id ≠ id := by
  rw [hasK_iff]
  constructor
  · intro h p hp
    obtain ⟨i, hi, e⟩ := List.mem_iff_getElem.1 hp
    rw [List.getElem_take] at e
    simp at hi
    have := h i (by omega)
    rw [hasI_of (List.getElem?_eq_getElem (show i < L.length by omega)), e] at this
    simpa using this
  · intro h i hi
    rw [hasI_of (List.getElem?_eq_getElem (show i < L.length by omega))]
    exact decide_eq_false (h _ (List.mem_iff_getElem.2 ⟨i, by simp; omega, List.getElem_take⟩))
theorem hasK_all {L : List Pk} {id : Int} : hasK L L.length id = false ↔ ∀ p ∈ L, p.id ≠ id := by
  have h := hasK_mem (L := L) (k := L.length) (id := id) (Nat.le_refl _)
  rwa [List.take_length] at h
theorem apart_iff : ∀ {L : List Pk}, apart L = true ↔ (∀ p ∈ L, p.ok = true) ∧ L.Pairwise (fun a b => a.id ≠ b.id) := by
  intro L
  generalize hn : L.length = n
  induction n generalizing L with
  | zero => obtain rfl := List.eq_nil_of_length_eq_zero hn; simp [apart, allB]
  | succ n ih0 =>
    obtain rfl | ⟨L, p, rfl⟩ := List.eq_nil_or_concat L
    · simp at hn
    have ih := ih0 (L := L) (by simpa using hn)
    rw [List.concat_eq_append, apart_app, Bool.and_eq_true, Bool.and_eq_true, ih, Bool.not_eq_true', hasK_all, List.pairwise_append]
    simp only [List.mem_append, List.mem_singleton, List.pairwise_singleton, true_and]
    constructor
    · rintro ⟨⟨h1, h2⟩, h3, h4⟩
      exact ⟨fun q hq => by rcases hq with h | rfl; exact h1 q h; exact h3, h2, fun a ha b hb => by subst hb; exact h4 a ha⟩
    · rintro ⟨h1, h2, h3⟩
      exact ⟨⟨fun q hq => h1 q (.inl hq), h2⟩, h1 p (.inr rfl), fun a ha => h3 a ha p rfl⟩
theorem szs_all (L : List Pk) : szs L L.length = (L.map Pk.si).sum := by simp [szs]
theorem SzOk.mem {L : List Pk} : SzOk L ↔ ∀ p ∈ L, 0 ≤ p.si ∧ p.si ≤ 1500 := by
  constructor
  · intro h p hp
    obtain ⟨i, hi⟩ := List.mem_iff_getElem?.1 hp
    exact h i p hi
  · intro h i p hp
    exact h p (List.mem_of_getElem? hp)
theorem szs_sub {L M : List Pk} (h : M.Sublist L) (hz : SzOk L) : szs M M.length ≤ szs L L.length := by
  rw [szs_all, szs_all]
  rw [SzOk.mem] at hz
  induction h with
  | slnil => exact Int.le_refl _
  | cons a h ih =>
    have := hz a (by simp)
    have := ih fun p hp => hz p (by simp [hp])
    simp only [List.map_cons, List.sum_cons]
    omega
  | cons_cons a h ih =>
    have := ih fun p hp => hz p (by simp [hp])
    simp only [List.map_cons, List.sum_cons]
    omega
theorem apart_sub {L M : List Pk} (h : M.Sublist L) (ha : apart L = true) : apart M = true := by
  obtain ⟨h1, h2⟩ := apart_iff.1 ha
  exact apart_iff.2 ⟨fun p hp => h1 p (h.subset hp), h2.sublist h⟩
/-- A valid queue with some packets taken out stays valid. -/
theorem qok_sub {li by_ : Int} {L M : List Pk} {se dr se' dr' : Int} (hM : M.Sublist L) (h : qok li by_ L se dr = true) : qok li by_ M se' dr' = (cnt se' && cnt dr') := by
  have g := qok_iff.1 h
  have hz := apart_sz g.2.2.2.2.2.1
  have hs := szs_sub hM hz
  have hl := hM.length_le
  have e1 : decide (1 ≤ li ∧ li ≤ 60) = true := decide_eq_true g.1
  have e2 : decide (1 ≤ by_ ∧ by_ ≤ 90000) = true := decide_eq_true g.2.1
  have e3 : decide ((M.length : Int) ≤ li) = true := decide_eq_true (by have := g.2.2.1; omega)
  have e5 : decide (szs M M.length ≤ by_) = true := decide_eq_true (by have := g.2.2.2.2.2.2; omega)
  simp only [qok, e1, e2, e3, e5, apart_sub hM g.2.2.2.2.2.1, Bool.true_and, Bool.and_true]
/-! ### RemoveFlow -/
/-- Whether two packets are of the same flow. -/
def smf (a b : Pk) : Bool := decide (a.so = b.so ∧ a.de = b.de ∧ a.po = b.po)
def rfK (L : List Pk) (p : Pk) : List Pk := L.filter fun x => !smf x p
def rfG (L : List Pk) (p : Pk) : List Pk := L.filter fun x => smf x p
theorem filt_succ {L : List Pk} {k : Nat} {x : Pk} (f : Pk → Bool) (h : L[k]? = some x) : (L.take (k + 1)).filter f = (L.take k).filter f ++ (if f x then [x] else []) := by
  obtain ⟨hk, hx⟩ := List.getElem?_eq_some_iff.1 h
  rw [List.take_succ_eq_append_getElem hk, List.filter_append, hx]
  congr 1
  simp [List.filter_cons]
theorem rfK_yes {L : List Pk} {k : Nat} {x p : Pk} (h : L[k]? = some x) (hs : smf x p = true) : rfK (L.take (k + 1)) p = rfK (L.take k) p := by simp [rfK, filt_succ _ h, hs]
theorem rfK_no {L : List Pk} {k : Nat} {x p : Pk} (h : L[k]? = some x) (hs : smf x p = false) : rfK (L.take (k + 1)) p = rfK (L.take k) p ++ [x] := by simp [rfK, filt_succ _ h, hs]
theorem rfG_yes {L : List Pk} {k : Nat} {x p : Pk} (h : L[k]? = some x) (hs : smf x p = true) : rfG (L.take (k + 1)) p = rfG (L.take k) p ++ [x] := by simp [rfG, filt_succ _ h, hs]
theorem rfG_no {L : List Pk} {k : Nat} {x p : Pk} (h : L[k]? = some x) (hs : smf x p = false) : rfG (L.take (k + 1)) p = rfG (L.take k) p := by simp [rfG, filt_succ _ h, hs]
theorem rfK_len (L : List Pk) (p : Pk) : (rfK L p).length ≤ L.length := List.length_filter_le _ _
theorem rfG_len (L : List Pk) (p : Pk) : (rfG L p).length ≤ L.length := List.length_filter_le _ _
def rfOk (li by_ : Int) (L : List Pk) (se dr : Int) (p : Pk) : Bool := qok li by_ L se dr && p.ok && cnt (dr + ((rfG L p).length : Int))
theorem rf_qok {li by_ : Int} {L : List Pk} {se dr : Int} (p : Pk) {dr' : Int} (h : qok li by_ L se dr = true) : qok li by_ (rfK L p) se dr' = cnt dr' := by
  rw [qok_sub (L := L) (M := rfK L p) List.filter_sublist h, cnt_iff.2 (qok_iff.1 h).2.2.2.1, Bool.true_and]
end Go.Proofs.Ytgdldmeeaejjpaa
