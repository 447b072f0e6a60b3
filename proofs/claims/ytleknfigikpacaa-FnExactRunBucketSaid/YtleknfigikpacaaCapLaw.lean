/- The plain law of the least cap: a full bucket lets every send through if and only if no window of sends exceeds its cap. No program in sight. -/
import Derived.Test.YtleknfigikpacaaWorst
namespace Go.Proofs.Ytleknfigikpacaa
open Go.ChangeShapes Go.WideShapes Go.ChangeAt Go.RowKit
set_option linter.unusedVariables false
def spend (f s : Int) : Int := if s ≤ f then f - s else f
/-- The tokens behind k sends. -/
def tkn (r c t : Int) (l : List Int) : Nat → Int
  | 0 => t
  | k + 1 => spend (least c (tkn r c t l k + r * (tk l k - lastT l k))) (sz l k)
def fil (r c t : Int) (l : List Int) (k : Nat) : Int := least c (tkn r c t l k + r * (tk l k - lastT l k))
def snt (r c t : Int) (l : List Int) (k : Nat) : Bool := decide (sz l k ≤ fil r c t l k)
def snts (r c t : Int) (l : List Int) (k : Nat) : List Bool := (List.range k).map (snt r c t l)
theorem snts_succ (r c t : Int) (l : List Int) (k : Nat) : snts r c t l (k + 1) = snts r c t l k ++ [snt r c t l k] := by simp [snts, List.range_succ]
theorem snts_len (r c t : Int) (l : List Int) (k : Nat) : (snts r c t l k).length = k := by simp [snts]
theorem snts_get {r c t : Int} {l : List Int} {n k : Nat} (h : k < n) : (snts r c t l n)[k]?.getD false = snt r c t l k := by simp [snts, List.getElem?_map, List.getElem?_range h]
def allS (r c t : Int) (l : List Int) (n : Nat) : Prop := ∀ k, k < n → snt r c t l k = true
open Classical in
noncomputable def conf (r c t : Int) (l : List Int) (n : Nat) : Bool := decide (allS r c t l n)
theorem conf_true {r c t : Int} {l : List Int} {n : Nat} (h : allS r c t l n) : conf r c t l n = true := by simp [conf, h]
theorem conf_false {r c t : Int} {l : List Int} {n k : Nat} (hk : k < n) (h : snt r c t l k = false) : conf r c t l n = false := by
  have : ¬ allS r c t l n := fun ha => by have := ha k hk; rw [h] at this; cases this
  simp [conf, this]
theorem allS_succ {r c t : Int} {l : List Int} {k : Nat} (h : allS r c t l k) (h1 : snt r c t l k = true) : allS r c t l (k + 1) := fun i hi => by
  rcases Nat.lt_succ_iff_lt_or_eq.1 hi with h' | rfl
  · exact h i h'
  · exact h1
theorem least_le {a b : Int} : least a b ≤ a ∧ least a b ≤ b ∧ (least a b = a ∨ least a b = b) := by
  unfold least
  split <;> omega
theorem Ses.dt {l : List Int} {n k : Nat} (h : Ses l n) (hk : k < n) : 0 ≤ Go.Proofs.Ytleknfigikpacaa.tk l k - lastT l k ∧ Go.Proofs.Ytleknfigikpacaa.tk l k - lastT l k ≤ 100000 := by
  have h1 := (h k hk).2
  have h2 := h.tk hk
  have h3 : 0 ≤ lastT l k := by
    cases k with
    | zero => exact Int.le_refl _
    | succ k => exact (h.tk (k := k) (by omega)).1
  unfold Go.Proofs.Ytleknfigikpacaa.tk at *
  omega
theorem Ses.lt {l : List Int} {n k : Nat} (h : Ses l n) (hk : k ≤ n) : 0 ≤ lastT l k ∧ lastT l k ≤ 100000 := by
  cases k with
  | zero => exact ⟨Int.le_refl _, by show (0 : Int) ≤ 100000; omega⟩
  | succ k => exact h.tk (k := k) (by omega)
theorem fil_b {r c t : Int} {l : List Int} {n k : Nat} (h : Ses l n) (h1 : 0 ≤ r) (hk : k < n) (h3 : 0 ≤ tkn r c t l k) (h4 : tkn r c t l k ≤ c) : 0 ≤ fil r c t l k ∧ fil r c t l k ≤ c := by
  have h5 := Int.mul_nonneg h1 (h.dt hk).1
  have h6 := least_le (a := c) (b := tkn r c t l k + r * (tk l k - lastT l k))
  unfold fil
  omega
theorem tkn_b {r c t : Int} {l : List Int} {n : Nat} (h : Ses l n) (h1 : 0 ≤ r) (h3 : 0 ≤ t) (h4 : t ≤ c) : ∀ k, k ≤ n → 0 ≤ tkn r c t l k ∧ tkn r c t l k ≤ c
  | 0, _ => ⟨h3, h4⟩
  | k + 1, hk => by
    have ih := tkn_b h h1 h3 h4 k (by omega)
    have h5 := fil_b h h1 (show k < n by omega) ih.1 ih.2
    have h6 := h.sz (k := k) (by omega)
    show 0 ≤ spend (fil r c t l k) (sz l k) ∧ spend (fil r c t l k) (sz l k) ≤ c
    unfold spend
    split <;> omega
theorem ov_step (l : List Int) (r : Int) (i j : Nat) : ov l r i (j + 1) = ov l r i j - r * (tk l (i + j + 1) - tk l (i + j)) + sz l (i + j + 1) := by
  simp only [ov, ss, Int.mul_sub, ← Nat.add_assoc]
  omega
/-- What the tokens are behind k sends that have all gone through: the cap less the worst window that ends there. -/
structure Mx (r c : Int) (l : List Int) (k : Nat) : Prop where
  zero : k = 0 → tkn r c c l k = c
  all : ∀ i j, i + j + 1 = k → ov l r i j ≤ c - tkn r c c l k
  one : 0 < k → ∃ i j, i + j + 1 = k ∧ ov l r i j = c - tkn r c c l k
theorem Mx.snt {r c : Int} {l : List Int} {n k : Nat} (hm : Mx r c l k) (h : Ses l n) (h1 : 0 ≤ r) (hk : k < n) : Go.Proofs.Ytleknfigikpacaa.snt r c c l k = true ↔ ∀ i j, i + j = k → ov l r i j ≤ c := by
  have h5 := Int.mul_nonneg h1 (h.dt hk).1
  have h6 := least_le (a := c) (b := tkn r c c l k + r * (tk l k - lastT l k))
  have e : Go.Proofs.Ytleknfigikpacaa.snt r c c l k = true ↔ sz l k ≤ least c (tkn r c c l k + r * (tk l k - lastT l k)) := decide_eq_true_iff
  rw [e]
  cases k with
  | zero =>
    have h7 := hm.zero rfl
    have h8 : least c (tkn r c c l 0 + r * (tk l 0 - lastT l 0)) = c := by omega
    rw [h8]
    constructor
    · intro h9 i j hij
      obtain rfl : i = 0 := by omega
      obtain rfl : j = 0 := by omega
      rw [ov_0]
      exact h9
    · intro h9
      have := h9 0 0 rfl
      rwa [ov_0] at this
  | succ k =>
    have hl : lastT l (k + 1) = tk l k := rfl
    rw [hl] at h5 h6 ⊢
    constructor
    · intro h9 i j hij
      cases j with
      | zero =>
        obtain rfl : i = k + 1 := by omega
        rw [ov_0]
        omega
      | succ j =>
        obtain rfl : k = i + j := by omega
        have := hm.all i j rfl
        rw [ov_step]
        omega
    · intro h9
      obtain ⟨i, j, hij, he⟩ := hm.one (by omega)
      obtain rfl : k = i + j := by omega
      have h10 := h9 i (j + 1) rfl
      rw [ov_step] at h10
      have h11 := h9 (i + j + 1) 0 rfl
      rw [ov_0] at h11
      omega
theorem Mx.succ {r c : Int} {l : List Int} {n k : Nat} (hm : Mx r c l k) (h : Ses l n) (h1 : 0 ≤ r) (hk : k < n) (hs : Go.Proofs.Ytleknfigikpacaa.snt r c c l k = true) : Mx r c l (k + 1) := by
  have h5 := Int.mul_nonneg h1 (h.dt hk).1
  have h6 := least_le (a := c) (b := tkn r c c l k + r * (tk l k - lastT l k))
  have e : sz l k ≤ least c (tkn r c c l k + r * (tk l k - lastT l k)) := decide_eq_true_iff.1 hs
  have et : tkn r c c l (k + 1) = least c (tkn r c c l k + r * (tk l k - lastT l k)) - sz l k := by
    show spend _ _ = _
    unfold spend
    rw [if_pos e]
  cases k with
  | zero =>
    have h7 := hm.zero rfl
    refine ⟨fun h => by omega, fun i j hij => ?_, fun _ => ⟨0, 0, rfl, ?_⟩⟩
    · obtain rfl : i = 0 := by omega
      obtain rfl : j = 0 := by omega
      rw [ov_0, et]
      omega
    · rw [ov_0, et]
      omega
  | succ k =>
    have hl : lastT l (k + 1) = tk l k := rfl
    rw [hl] at h5 h6 et
    refine ⟨fun h => by omega, fun i j hij => ?_, fun _ => ?_⟩
    · rw [et]
      cases j with
      | zero =>
        obtain rfl : i = k + 1 := by omega
        rw [ov_0]
        omega
      | succ j =>
        obtain rfl : k = i + j := by omega
        have := hm.all i j rfl
        rw [ov_step]
        omega
    · rw [et]
      obtain ⟨i, j, hij, he⟩ := hm.one (by omega)
      obtain rfl : k = i + j := by omega
      rcases h6.2.2 with h8 | h8
      · exact ⟨i + j + 1, 0, rfl, by rw [ov_0]; omega⟩
      · exact ⟨i, j + 1, by omega, by rw [ov_step]; omega⟩
theorem win_succ {l : List Int} {r c : Int} {k : Nat} : (∀ i j, i + j < k + 1 → ov l r i j ≤ c) ↔ (∀ i j, i + j < k → ov l r i j ≤ c) ∧ ∀ i j, i + j = k → ov l r i j ≤ c :=
  ⟨fun h => ⟨fun i j hij => h i j (by omega), fun i j hij => h i j (by omega)⟩, fun h i j hij => by
    rcases Nat.lt_succ_iff_lt_or_eq.1 hij with h' | h'
    · exact h.1 i j h'
    · exact h.2 i j h'⟩
theorem allS_mx {r c : Int} {l : List Int} {n : Nat} (h : Ses l n) (h1 : 0 ≤ r) : ∀ k, k ≤ n → (allS r c c l k ↔ ∀ i j, i + j < k → ov l r i j ≤ c) ∧ (allS r c c l k → Mx r c l k)
  | 0, _ => ⟨⟨fun _ i j hij => by omega, fun _ i hi => by omega⟩, fun _ => ⟨fun _ => rfl, fun i j hij => by omega, fun h => by omega⟩⟩
  | k + 1, hk => by
    obtain ⟨h2, h3⟩ := allS_mx h h1 k (by omega) (c := c)
    have e : allS r c c l (k + 1) ↔ allS r c c l k ∧ snt r c c l k = true := ⟨fun ha => ⟨fun i hi => ha i (by omega), ha k (by omega)⟩, fun ha => allS_succ ha.1 ha.2⟩
    rw [e, win_succ]
    refine ⟨⟨fun ha => ⟨h2.1 ha.1, ((h3 ha.1).snt h h1 (by omega)).1 ha.2⟩, fun ha => ?_⟩, fun ha => (h3 ha.1).succ h h1 (by omega) ha.2⟩
    have h4 := h2.2 ha.1
    exact ⟨h4, ((h3 h4).snt h h1 (by omega)).2 ha.2⟩
/-- The windows that have been looked at exceed by at most s.m; and one exceeds by that much, or none has been looked at. -/
structure Wm (l : List Int) (r : Int) (s : Ww) (p : Nat → Nat → Prop) : Prop where
  all : ∀ i j, p i j → ov l r i j ≤ s.m
  one : s.m = -1 ∨ ∃ i j, p i j ∧ ov l r i j = s.m
theorem Wm.inS {l : List Int} {n i : Nat} {r : Int} {s : Ww} (h : Ses l n) (hn : n ≤ 60) (h1 : 0 ≤ r) (h2 : r ≤ 100000) (hw : Wi l s (i = 0)) (hm : Wm l r s fun a b => a < i ∧ a + b < n) : ∀ j, i + j ≤ n → Wm l r (inS l r i s j) fun a b => a + b < n ∧ (a < i ∨ a = i ∧ b < j)
  | 0, _ => ⟨fun a b hab => hm.all a b ⟨by omega, by omega⟩, by
      rcases hm.one with h3 | ⟨a, b, hab, he⟩
      · exact .inl h3
      · exact .inr ⟨a, b, ⟨hab.2, .inl hab.1⟩, he⟩⟩
  | j + 1, hj => by
    have ih := Wm.inS h hn h1 h2 hw hm j (by omega)
    have hi := hw.inS h hn h1 h2 j (by omega)
    show Wm l r (wst (Go.Proofs.Ytleknfigikpacaa.inS l r i s j) i (i + j) (ov l r i j)) _
    generalize Go.Proofs.Ytleknfigikpacaa.inS l r i s j = s1 at *
    by_cases hc : s1.m < 0 ∨ s1.m < ov l r i j
    · rw [show wst s1 i (i + j) (ov l r i j) = ⟨i, i + j, ov l r i j⟩ by simp [wst, hc]]
      refine ⟨fun a b hab => ?_, .inr ⟨i, j, ⟨by omega, .inr ⟨rfl, by omega⟩⟩, rfl⟩⟩
      by_cases hb : a = i ∧ b = j
      · obtain ⟨rfl, rfl⟩ := hb
        exact Int.le_refl _
      · have h3 := ih.all a b ⟨hab.1, by omega⟩
        rcases hc with hc | hc
        · have := (hi.neg hc).2.2.2
          omega
        · exact Int.le_of_lt (Int.lt_of_le_of_lt h3 hc)
    · rw [show wst s1 i (i + j) (ov l r i j) = s1 by simp [wst, hc]]
      refine ⟨fun a b hab => ?_, ?_⟩
      · by_cases hb : a = i ∧ b = j
        · obtain ⟨rfl, rfl⟩ := hb
          omega
        · exact ih.all a b ⟨hab.1, by omega⟩
      · rcases ih.one with h3 | ⟨a, b, hab, he⟩
        · exact .inl h3
        · exact .inr ⟨a, b, ⟨hab.1, by omega⟩, he⟩
theorem Wm.outS {l : List Int} {n : Nat} {r : Int} (h : Ses l n) (hn : n ≤ 60) (h1 : 0 ≤ r) (h2 : r ≤ 100000) : ∀ i, i ≤ n → Wm l r (outS l r n i) fun a b => a < i ∧ a + b < n
  | 0, _ => ⟨fun a b hab => by omega, .inl rfl⟩
  | i + 1, hi => by
    have h3 := Wm.inS h hn h1 h2 (Wi.outS (r := r) h hn h1 h2 i (by omega)) (Wm.outS h hn h1 h2 i (by omega)) (n - i) (by omega)
    refine ⟨fun a b hab => h3.all a b ⟨hab.2, by omega⟩, ?_⟩
    rcases h3.one with h4 | ⟨a, b, hab, he⟩
    · exact .inl h4
    · exact .inr ⟨a, b, ⟨by omega, hab.1⟩, he⟩
/-- **A full bucket lets all through just where its cap is at least the worst window's excess.** -/
theorem conf_iff {l : List Int} {n : Nat} {r c : Int} (h : Ses l n) (hn : n ≤ 60) (h1 : 0 ≤ r) (h2 : r ≤ 100000) (h3 : 0 ≤ c) : conf r c c l n = true ↔ (outS l r n n).m ≤ c := by
  have hw := Wm.outS h hn h1 h2 n (Nat.le_refl _)
  have e : conf r c c l n = true ↔ allS r c c l n := by simp [conf]
  rw [e, (allS_mx h h1 n (Nat.le_refl _)).1]
  constructor
  · intro ha
    rcases hw.one with h4 | ⟨a, b, hab, he⟩
    · omega
    · rw [← he]
      exact ha a b hab.2
  · intro hm i j hij
    exact Int.le_trans (hw.all i j ⟨by omega, hij⟩) hm
end Go.Proofs.Ytleknfigikpacaa
