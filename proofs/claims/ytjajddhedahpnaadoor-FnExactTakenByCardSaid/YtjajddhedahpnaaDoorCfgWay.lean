/- The plain law of the ways up. No program in sight. -/
import Derived.Test.YtjajddhedahpnaaDoorCfgLaw
namespace Go.Proofs.YtjajddhedahpnaaDoor
open Go.ChangeShapes Go.WideShapes Go.ChangeAt Go.RowKit
set_option linter.unusedVariables false
/-- The t-th class on the way up from class i. -/
def it (L : List Cl) (i : Nat) : Nat → Option Nat
  | 0 => some i
  | t + 1 => (it L i t).bind (nx L)
theorem it_succ' {L : List Cl} {i j : Nat} (h : nx L i = some j) : ∀ t, it L i (t + 1) = it L j t
  | 0 => by simp [it, h]
  | t + 1 => by rw [it, it_succ' h t]; rfl
theorem it_none {L : List Cl} {i : Nat} (h : nx L i = none) : ∀ t, it L i (t + 1) = none
  | 0 => by simp [it, h]
  | t + 1 => by rw [it, it_none h t]; rfl
theorem it_end {L : List Cl} {i k : Nat} (h : it L i k = none) : ∀ t, it L i (k + t) = none
  | 0 => h
  | t + 1 => by rw [← Nat.add_assoc, it, it_end h t]; rfl
theorem it_shift {L : List Cl} {i a b : Nat} (h : it L i a = it L i b) : ∀ s, it L i (a + s) = it L i (b + s)
  | 0 => h
  | s + 1 => by rw [← Nat.add_assoc, ← Nat.add_assoc, it, it, it_shift h s]
theorem upk_iff (L : List Cl) : ∀ (f i : Nat), upk L f i = true ↔ ∃ d a, d < f ∧ it L i d = some a ∧ nx L a = none ∧ (cat L a).pa = 0
  | 0, i => ⟨fun h => by simp [upk] at h, fun ⟨d, a, h, _⟩ => by omega⟩
  | f + 1, i => by
    rcases hn : nx L i with _ | j
    · rw [upk, hn]
      simp only [decide_eq_true_eq]
      constructor
      · intro h
        exact ⟨0, i, by omega, rfl, hn, h⟩
      · rintro ⟨d, a, _, h1, _, h3⟩
        cases d with
        | zero => simp only [it, Option.some.injEq] at h1; subst h1; exact h3
        | succ d => rw [it_none hn] at h1; cases h1
    · rw [upk, hn]
      simp only
      rw [upk_iff L f j]
      constructor
      · rintro ⟨d, a, h0, h1, h2, h3⟩
        exact ⟨d + 1, a, by omega, by rw [it_succ' hn]; exact h1, h2, h3⟩
      · rintro ⟨d, a, h0, h1, h2, h3⟩
        cases d with
        | zero => simp only [it, Option.some.injEq] at h1; subst h1; rw [hn] at h2; cases h2
        | succ d => rw [it_succ' hn] at h1; exact ⟨d, a, by omega, h1, h2, h3⟩
/-- The list D is the beginning of the way up. -/
def Way (L : List Cl) (i : Nat) (D : List Nat) : Prop := ∀ t, t < D.length → it L i t = some (D[t]?.getD 0)
theorem Way.nil (L : List Cl) (i : Nat) : Way L i [] := fun t h => by simp at h
theorem Way.snoc {L : List Cl} {i c : Nat} {D : List Nat} (h : Way L i D) (hc : it L i D.length = some c) : Way L i (D ++ [c]) := fun t ht => by
  simp at ht
  by_cases h1 : t < D.length
  · rw [List.getElem?_append_left h1]
    exact h t h1
  · obtain rfl : t = D.length := by omega
    rw [hc]
    simp
/-- The class at the way's end. -/
def lastD (D : List Nat) : Nat := D[D.length - 1]?.getD 0
theorem Way.last {L : List Cl} {i : Nat} {D : List Nat} (h : Way L i D) (h1 : 1 ≤ D.length) : it L i (D.length - 1) = some (lastD D) := h _ (by omega)
theorem Way.next {L : List Cl} {i : Nat} {D : List Nat} (h : Way L i D) (h1 : 1 ≤ D.length) : it L i D.length = nx L (lastD D) := by
  obtain ⟨k, hk⟩ : ∃ k, D.length = k + 1 := ⟨D.length - 1, by omega⟩
  have hl := h.last h1
  rw [hk, Nat.add_sub_cancel] at hl
  rw [hk, it, hl]
  rfl
theorem Way.ended {L : List Cl} {i : Nat} {D : List Nat} (h : Way L i D) (h1 : 1 ≤ D.length) (he : it L i D.length = none) : (upk L 8 i = true ↔ D.length ≤ 8 ∧ (cat L (lastD D)).pa = 0) := by
  have hl := h.last h1
  have hn := h.next h1
  rw [he] at hn
  rw [upk_iff]
  constructor
  · rintro ⟨d, a, h0, h2, h3, h4⟩
    have hd : d = D.length - 1 := by
      rcases Nat.lt_trichotomy d (D.length - 1) with hlt | heq | hgt
      · have h5 : it L i (d + 1) = none := by rw [it, h2]; exact h3
        have h6 := it_end h5 (D.length - 1 - (d + 1))
        rw [show d + 1 + (D.length - 1 - (d + 1)) = D.length - 1 by omega, hl] at h6
        cases h6
      · exact heq
      · have h6 := it_end he (d - D.length)
        rw [show D.length + (d - D.length) = d by omega, h2] at h6
        cases h6
    rw [hd, hl] at h2
    obtain rfl := Option.some.inj h2
    exact ⟨by omega, h4⟩
  · rintro ⟨h2, h3⟩
    exact ⟨D.length - 1, lastD D, by omega, hl, hn.symm, h3⟩
theorem Way.long {L : List Cl} {i : Nat} {D : List Nat} (h : Way L i D) (h1 : 9 ≤ D.length) : upk L 8 i = false := by
  rcases hu : upk L 8 i with _ | _
  · rfl
  · obtain ⟨d, a, h0, h2, h3, _⟩ := (upk_iff L 8 i).1 hu
    have h5 : it L i (d + 1) = none := by rw [it, h2]; exact h3
    have h6 := it_end h5 (8 - (d + 1))
    rw [show d + 1 + (8 - (d + 1)) = 8 by omega, h 8 (by omega)] at h6
    cases h6
theorem Way.cycle {L : List Cl} {i c : Nat} {D : List Nat} (h : Way L i D) (hc : it L i D.length = some c) (hm : c ∈ D) : upk L 8 i = false := by
  obtain ⟨t, ht, htc⟩ := List.mem_iff_getElem.1 hm
  have h1 : it L i t = it L i D.length := by
    rw [hc, h t ht, List.getElem?_eq_getElem ht, htc]
    rfl
  have hall : ∀ m, ∃ a, it L i m = some a := by
    intro m
    induction m using Nat.strongRecOn with
    | _ m ih =>
      by_cases hlt : m < D.length
      · exact ⟨_, h m hlt⟩
      · obtain ⟨a, ha⟩ := ih (t + (m - D.length)) (by omega)
        have h2 := it_shift h1 (m - D.length)
        rw [show D.length + (m - D.length) = m by omega] at h2
        exact ⟨a, h2.symm.trans ha⟩
  rcases hu : upk L 8 i with _ | _
  · rfl
  · obtain ⟨d, a, h0, h2, h3, _⟩ := (upk_iff L 8 i).1 hu
    have h5 : it L i (d + 1) = none := by rw [it, h2]; exact h3
    obtain ⟨b, hb⟩ := hall (d + 1)
    rw [h5] at hb
    cases hb
theorem nx_of {L : List Cl} {i : Nat} {q : Int} (h : fnd L (cat L i).pa = q) : nx L i = if 0 ≤ q then some q.toNat else none := by
  unfold nx
  rw [h]
/-- Different numbers below n are no more than n. -/
theorem nodup_le : ∀ (n : Nat) (l : List Nat), l.Nodup → (∀ x ∈ l, x < n) → l.length ≤ n
  | 0, l, _, h => by
    rcases l with _ | ⟨x, l⟩
    · simp
    · exact absurd (h x (by simp)) (by omega)
  | n + 1, l, hd, h => by
    by_cases hm : n ∈ l
    · have h1 := nodup_le n (l.erase n) (hd.erase n) (fun x hx => by
        have h2 := (hd.mem_erase_iff).1 hx
        have := h x h2.2
        have := h2.1
        omega)
      rw [List.length_erase_of_mem hm] at h1
      omega
    · have h1 := nodup_le n l hd (fun x hx => by
        have := h x hx
        have : x ≠ n := fun e => hm (e ▸ hx)
        omega)
      omega
end Go.Proofs.YtjajddhedahpnaaDoor
