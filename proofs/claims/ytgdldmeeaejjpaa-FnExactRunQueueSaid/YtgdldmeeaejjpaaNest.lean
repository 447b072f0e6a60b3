/- Rows of slices of packets in memory: what they read as, what a call owns, what stays. No program in sight, no condition. -/
import Derived.Test.YtgdldmeeaejjpaaApart
import Derived.Test.YtgdldmeeaejjpaaAppendD
namespace Go.Proofs.Ytgdldmeeaejjpaa
open Go.ChangeShapes Go.WideShapes Go.ChangeAt Go.RowKit
set_option linter.unusedVariables false
/-- A slice: where it lies, its length, its capacity. -/
structure Sl where
  A : Option Addr
  n : Nat
  c : Nat
def Sl.v (s : Sl) : Value := .slice s.A s.n s.c
/-- The slice's elements are slices that read as the rows of numbers G. -/
def NRow (w : World) (A : Option Addr) (G : List (List Int)) : Prop :=
  0 < G.length → ∃ g off, A = some ⟨g, off, none⟩ ∧ ∀ (i : Nat) (l : List Int), G[i]? = some l → ∃ s : Sl, w.cell? ⟨g, off + i, none⟩ = some s.v ∧ l.length = s.n * 6 ∧ s.n ≤ s.c ∧ (s.A = none → s.c = 0) ∧ IRow w s.A l
theorem NRow.nil (w : World) (A : Option Addr) : NRow w A [] := fun h => absurd h (by simp)
theorem NRow.at_ {w : World} {A : Option Addr} {G : List (List Int)} (h : NRow w A G) {k : Nat} {l : List Int} (hk : G[k]? = some l) :
    ∃ g off B n c, A = some ⟨g, off, none⟩ ∧ g < w.heap.size ∧ w.cell? ⟨g, off + k, none⟩ = some (.slice B n c) ∧ l.length = n * 6 ∧ n ≤ c ∧ (B = none → c = 0) ∧ IRow w B l := by
  obtain ⟨g, off, rfl, hc⟩ := h (by have := (List.getElem?_eq_some_iff.1 hk).1; omega)
  obtain ⟨s, h1, h2, h3, h4, h5⟩ := hc k l hk
  exact ⟨g, off, s.A, s.n, s.c, rfl, World.block_lt_of_cell? w _ h1, h1, h2, h3, h4, h5⟩
theorem NRow.below {w w' : World} {A : Option Addr} {G : List (List Int)} (h : NRow w A G) (hb : Below w.heap.size w w') : NRow w' A G := fun hp => by
  obtain ⟨g, off, rfl, hc⟩ := h hp
  refine ⟨g, off, rfl, fun i l hi => ?_⟩
  obtain ⟨s, h1, h2, h3, h4, h5⟩ := hc i l hi
  exact ⟨s, (hb.cell (p := ⟨g, off + i, none⟩) (World.block_lt_of_cell? w _ h1)).trans h1, h2, h3, h4, h5.below hb⟩
/-- The call owns the slice of slices and all its rows: their blocks lie from lo on and below hi, and are all different. -/
def NOwnS (w : World) (lo hi : Nat) (A : Option Addr) (n cap : Nat) (S : List Sl) (G : List (List Int)) : Prop :=
  (w.ownsRow lo 28 1 (.slice A n cap) n (S.map Sl.v) ∧ ∀ k, (Value.slice A n cap).ownBlock = some k → k < hi) ∧ S.length = G.length ∧
    (∀ (i : Nat) (s : Sl) (l : List Int), S[i]? = some s → G[i]? = some l → IOwn w lo hi 35 6 s.A s.n s.c l) ∧ (∀ (i j : Nat) (s t : Sl) (g : Nat), i ≠ j → S[i]? = some s → S[j]? = some t → s.v.ownBlock = some g → t.v.ownBlock ≠ some g)
def NOwn (w : World) (lo hi : Nat) (A : Option Addr) (n cap : Nat) (G : List (List Int)) : Prop := ∃ S, NOwnS w lo hi A n cap S G
section
variable {w w' : World} {lo hi : Nat} {A : Option Addr} {n cap : Nat} {S : List Sl} {G : List (List Int)}
theorem NOwnS.slen (h : NOwnS w lo hi A n cap S G) : S.length = n := by simpa using h.1.1.1
theorem NOwnS.len (h : NOwnS w lo hi A n cap S G) : G.length = n := by rw [← h.2.1, h.slen]
theorem NOwn.len (h : NOwn w lo hi A n cap G) : G.length = n := let ⟨_, h⟩ := h; h.len
theorem NOwnS.keep (h : NOwnS w lo hi A n cap S G) (hk : ∀ k, lo ≤ k → k < hi → k < w.heap.size → w'.heap[k]? = w.heap[k]?) : NOwnS w' lo hi A n cap S G := by
  refine ⟨⟨⟨h.1.1.1, ?_⟩, h.1.2⟩, h.2.1, fun i s l hs hl => (h.2.2.1 i s l hs hl).keep hk, h.2.2.2⟩
  rcases h.1.1.2 with hn | ⟨g, cap', cur, hv, hb, hg, rest⟩
  · exact .inl hn
  · refine .inr ⟨g, cap', cur, hv, hb, ?_, rest⟩
    rw [hk g hb (h.1.2 g (by rw [hv]; rfl)) (Array.getElem?_eq_some_iff.1 hg).1]
    exact hg
theorem NOwn.keep (h : NOwn w lo hi A n cap G) (hk : ∀ k, lo ≤ k → k < hi → k < w.heap.size → w'.heap[k]? = w.heap[k]?) : NOwn w' lo hi A n cap G := let ⟨S, h⟩ := h; ⟨S, h.keep hk⟩
theorem NOwnS.old (h : NOwnS w lo hi A n cap S G) (hb : Below w.heap.size w w') : NOwnS w' lo hi A n cap S G := h.keep fun k _ _ h3 => hb.block k h3
theorem NOwnS.alloc (h : NOwnS w lo hi A n cap S G) (o : Obj) : NOwnS (w.alloc o) lo hi A n cap S G := h.keep fun k _ _ h3 => Below.heap_alloc w o k h3
theorem NOwnS.below {B : Nat} (h : NOwnS w lo hi A n cap S G) (hb : Below B w w') (hB : hi ≤ B) : NOwnS w' lo hi A n cap S G := h.keep fun k _ hk _ => hb.block k (by omega)
theorem NOwnS.chg {lo' hi' : Nat} (h : NOwnS w lo hi A n cap S G) (hc : Chg lo' hi' w w') (hd : hi ≤ lo' ∨ hi' ≤ lo) : NOwnS w' lo hi A n cap S G := h.keep fun k h1 h2 h3 => hc.block k h3 (by omega)
theorem NOwnS.farC (h : NOwnS w lo hi A n cap S G) {g o : Nat} {u : Value} (hp : g < lo ∨ hi ≤ g) : NOwnS (w.setCell ⟨g, o, none⟩ u) lo hi A n cap S G := h.keep fun k h1 h2 _ => Below.heap_setCell w ⟨g, o, none⟩ u k (show k ≠ g by omega)
theorem NOwnS.lo_le {lo' : Nat} (h : NOwnS w lo hi A n cap S G) (hl : lo' ≤ lo) : NOwnS w lo' hi A n cap S G := by
  refine ⟨⟨⟨h.1.1.1, ?_⟩, h.1.2⟩, h.2.1, fun i s l hs hl' => (h.2.2.1 i s l hs hl').lo_le hl, h.2.2.2⟩
  rcases h.1.1.2 with hn | ⟨g, cap', cur, hv, hb, rest⟩
  · exact .inl hn
  · exact .inr ⟨g, cap', cur, hv, Nat.le_trans hl hb, rest⟩
theorem NOwnS.more {hi' : Nat} (h : NOwnS w lo hi A n cap S G) (hh : hi ≤ hi') : NOwnS w lo hi' A n cap S G :=
  ⟨⟨h.1.1, fun k hk => Nat.lt_of_lt_of_le (h.1.2 k hk) hh⟩, h.2.1, fun i s l hs hl => (h.2.2.1 i s l hs hl).more hh, h.2.2.2⟩
theorem NOwnS.here (h : NOwnS w lo hi A n cap S G) : NOwnS w lo w.heap.size A n cap S G :=
  ⟨⟨h.1.1, fun k hk => (h.1.1.lt k hk).2⟩, h.2.1, fun i s l hs hl => (h.2.2.1 i s l hs hl).here, h.2.2.2⟩
theorem NOwn.old (h : NOwn w lo hi A n cap G) (hb : Below w.heap.size w w') : NOwn w' lo hi A n cap G := let ⟨S, h⟩ := h; ⟨S, h.old hb⟩
theorem NOwn.alloc (h : NOwn w lo hi A n cap G) (o : Obj) : NOwn (w.alloc o) lo hi A n cap G := let ⟨S, h⟩ := h; ⟨S, h.alloc o⟩
theorem NOwn.drew (h : NOwn w lo hi A n cap G) : NOwn w.drew lo hi A n cap G := h.keep fun _ _ _ _ => rfl
theorem NOwn.below {B : Nat} (h : NOwn w lo hi A n cap G) (hb : Below B w w') (hB : hi ≤ B) : NOwn w' lo hi A n cap G := let ⟨S, h⟩ := h; ⟨S, h.below hb hB⟩
theorem NOwn.chg {lo' hi' : Nat} (h : NOwn w lo hi A n cap G) (hc : Chg lo' hi' w w') (hd : hi ≤ lo' ∨ hi' ≤ lo) : NOwn w' lo hi A n cap G := let ⟨S, h⟩ := h; ⟨S, h.chg hc hd⟩
theorem NOwn.farC (h : NOwn w lo hi A n cap G) {g o : Nat} {u : Value} (hp : g < lo ∨ hi ≤ g) : NOwn (w.setCell ⟨g, o, none⟩ u) lo hi A n cap G := let ⟨S, h⟩ := h; ⟨S, h.farC hp⟩
theorem NOwn.lo_le {lo' : Nat} (h : NOwn w lo hi A n cap G) (hl : lo' ≤ lo) : NOwn w lo' hi A n cap G := let ⟨S, h⟩ := h; ⟨S, h.lo_le hl⟩
theorem NOwn.more {hi' : Nat} (h : NOwn w lo hi A n cap G) (hh : hi ≤ hi') : NOwn w lo hi' A n cap G := let ⟨S, h⟩ := h; ⟨S, h.more hh⟩
theorem NOwn.here (h : NOwn w lo hi A n cap G) : NOwn w lo w.heap.size A n cap G := let ⟨S, h⟩ := h; ⟨S, h.here⟩
theorem NOwn.none_ (w : World) (lo hi : Nat) : NOwn w lo hi none 0 0 [] :=
  ⟨[], ⟨World.ownsRow_nil w lo _ _, fun k hk => by simp [Value.ownBlock] at hk⟩, rfl, fun i s l hs => by simp at hs, fun i j s t g _ hs => by simp at hs⟩
/-- The outer cells, and that they may be written. -/
theorem NOwnS.at_ (h : NOwnS w lo hi A n cap S G) {k : Nat} (hk : k < n) :
    ∃ g, A = some ⟨g, 0, none⟩ ∧ lo ≤ g ∧ g < hi ∧ g < w.heap.size ∧ (∀ (i : Nat) (s : Sl), S[i]? = some s → w.cell? ⟨g, i, none⟩ = some s.v) ∧ (∀ i, w.frozen? ⟨g, i, none⟩ = false) ∧ ∃ cs f, w.heap[g]? = some (.cells cs 28 f) := by
  rcases h.1.1.2 with ⟨hn, h0⟩ | ⟨g, cap', cur, hv, hb, hg, hrest⟩
  · omega
  · have hA : A = some ⟨g, 0, none⟩ := by injection hv
    subst hA
    refine ⟨g, rfl, hb, h.1.2 g rfl, (Array.getElem?_eq_some_iff.1 hg).1, fun i s hs => ?_, fun i => h.1.1.frozenAt i, cur, _, hg⟩
    rw [h.1.1.cellAt i (by have := (List.getElem?_eq_some_iff.1 hs).1; have := h.slen; omega), List.getElem?_map, hs]
    rfl
theorem IOwn.none_cap' {w : World} {lo hi e s : Nat} {A : Option Addr} {n cap : Nat} {l : List Int} (h : IOwn w lo hi e s A n cap l) : A = none → cap = 0 := by
  rintro rfl
  rcases h.1.2 with ⟨hv, _⟩ | ⟨g, cap', cur, hv, _⟩
  · injection hv
  · injection hv with hv
    cases hv
theorem NOwnS.row (h : NOwnS w lo hi A n cap S G) : NRow w A G := fun hp => by
  obtain ⟨g, rfl, _, _, _, hc, _⟩ := h.at_ (k := 0) (by have := h.len; omega)
  refine ⟨g, 0, rfl, fun i l hl => ?_⟩
  have hi : i < S.length := by have := (List.getElem?_eq_some_iff.1 hl).1; have := h.2.1; omega
  have ho := h.2.2.1 i _ l (List.getElem?_eq_getElem hi) hl
  refine ⟨S[i], ?_, ho.len, ho.cap, ho.none_cap', ho.row⟩
  rw [Nat.zero_add]
  exact hc i _ (List.getElem?_eq_getElem hi)
theorem NOwn.row (h : NOwn w lo hi A n cap G) : NRow w A G := let ⟨_, h⟩ := h; h.row
theorem NOwnS.ncap (h : NOwnS w lo hi A n cap S G) : n ≤ cap := by
  rcases h.1.1.2 with ⟨hv, hn⟩ | ⟨g, cap', cur, hv, _, _, hnc, _⟩
  · omega
  · injection hv with _ _ hc
    omega
theorem NOwn.none_cap (h : NOwn w lo hi A n cap G) : A = none → cap = 0 := by
  obtain ⟨S, h⟩ := h
  rintro rfl
  rcases h.1.1.2 with ⟨hv, _⟩ | ⟨g, cap', cur, hv, _⟩
  · injection hv
  · injection hv with hv
    cases hv
theorem IOwn.keepB {w w' : World} {lo hi e s : Nat} {A : Option Addr} {n cap : Nat} {l : List Int} (h : IOwn w lo hi e s A n cap l) (hk : ∀ g, (Value.slice A n cap).ownBlock = some g → g < w.heap.size → w'.heap[g]? = w.heap[g]?) : IOwn w' lo hi e s A n cap l := by
  refine ⟨⟨h.1.1, ?_⟩, h.2⟩
  rcases h.1.2 with hn | ⟨g, cap', cur, hv, hb, hg, rest⟩
  · exact .inl hn
  · refine .inr ⟨g, cap', cur, hv, hb, ?_, rest⟩
    rw [hk g (by rw [hv]; rfl) (Array.getElem?_eq_some_iff.1 hg).1]
    exact hg
/-- A row of the call's own in just its own block. -/
theorem IOwn.slim {w : World} {lo hi e s : Nat} {A : Option Addr} {n cap : Nat} {l : List Int} (h : IOwn w lo hi e s A n cap l) (hlo : lo ≤ hi) :
    ∃ a b, lo ≤ a ∧ a ≤ b ∧ b ≤ hi ∧ IOwn w a b e s A n cap l ∧ (∀ k, a ≤ k → k < b → (Value.slice A n cap).ownBlock = some k ∧ ∃ cs f, w.heap[k]? = some (.cells cs e f)) := by
  rcases h.1.2 with ⟨hv, h0⟩ | ⟨g, cap', cur, hv, hbb, hg, rest⟩
  · refine ⟨lo, lo, Nat.le_refl _, Nat.le_refl _, hlo, ⟨⟨h.1.1, .inl ⟨hv, h0⟩⟩, fun k hk => ?_⟩, fun k h1 h2 => by omega⟩
    rw [hv] at hk
    cases hk
  · refine ⟨g, g + 1, hbb, by omega, h.2 g (by rw [hv]; rfl), ⟨⟨h.1.1, .inr ⟨g, cap', cur, hv, Nat.le_refl _, hg, rest⟩⟩, fun k hk => ?_⟩, fun k h1 h2 => ?_⟩
    · rw [hv] at hk
      have : g = k := by simpa [Value.ownBlock] using hk
      omega
    · obtain rfl : k = g := by omega
      exact ⟨by rw [hv]; rfl, cur, _, hg⟩
/-- A row's block, if it has one, is among the owned ones and of the row's type. -/
theorem IOwn.blk {w : World} {lo hi e s : Nat} {A : Option Addr} {n cap : Nat} {l : List Int} (h : IOwn w lo hi e s A n cap l) {g : Nat} (hg : (Value.slice A n cap).ownBlock = some g) : lo ≤ g ∧ g < hi ∧ g < w.heap.size ∧ ∃ cs f, w.heap[g]? = some (.cells cs e f) := by
  rcases h.1.2 with ⟨hv, h0⟩ | ⟨g', cap', cur, hv, hbb, hh, rest⟩
  · rw [hv] at hg
    cases hg
  · have e' : g' = g := by rw [hv] at hg; simpa [Value.ownBlock] using hg
    subst e'
    exact ⟨hbb, h.2 g' (by rw [hv]; rfl), (Array.getElem?_eq_some_iff.1 hh).1, cur, _, hh⟩
/-- One row's numbers turn, in its own block alone. -/
theorem NOwnS.upd (h : NOwnS w lo hi A n cap S G) {i : Nat} {s : Sl} (hs : S[i]? = some s) {a b : Nat} {l' : List Int} (h1 : IOwn w' a b 35 6 s.A s.n s.c l') (hc : Chg a b w w')
    (ha : lo ≤ a) (hb : b ≤ hi) (ht : ∀ k, a ≤ k → k < b → s.v.ownBlock = some k ∧ ∃ cs f, w.heap[k]? = some (.cells cs 35 f)) : NOwnS w' lo hi A n cap S (G.set i l') := by
  refine ⟨⟨⟨h.1.1.1, ?_⟩, h.1.2⟩, by rw [List.length_set]; exact h.2.1, fun j t l ht' hl => ?_, h.2.2.2⟩
  · rcases h.1.1.2 with hn | ⟨g, cap', cur, hv, hb', hg, rest⟩
    · exact .inl hn
    · refine .inr ⟨g, cap', cur, hv, hb', ?_, rest⟩
      rw [hc.block g (Array.getElem?_eq_some_iff.1 hg).1 ?_]
      · exact hg
      · rcases Nat.lt_or_ge g a with h' | h'
        · exact .inl h'
        rcases Nat.lt_or_ge g b with h2 | h2
        · obtain ⟨_, cs, f, e⟩ := ht g h' h2
          rw [hg] at e
          injection e with e
          injection e with _ e
          cases e
        · exact .inr h2
  · by_cases hij : i = j
    · subst hij
      rw [hs] at ht'
      injection ht' with ht'
      subst ht'
      rw [List.getElem?_set_self (by have := (List.getElem?_eq_some_iff.1 hs).1; have := h.2.1; omega)] at hl
      injection hl with hl
      subst hl
      exact (h1.lo_le ha).more hb
    · rw [List.getElem?_set_ne hij] at hl
      have ho := h.2.2.1 j t l ht' hl
      refine ho.keepB fun k hk k3 => hc.block k k3 ?_
      rcases Nat.lt_or_ge k a with h' | h'
      · exact .inl h'
      rcases Nat.lt_or_ge k b with h2 | h2
      · exact absurd hk (h.2.2.2 i j s t k hij hs ht' (ht k h' h2).1)
      · exact .inr h2
/-- Another slice in one place: a row of its own, apart from the others. -/
theorem NOwnS.put {g : Nat} (h : NOwnS w lo hi (some ⟨g, 0, none⟩) n cap S G) {i : Nat} {s : Sl} {l : List Int} (h1 : IOwn w lo hi 35 6 s.A s.n s.c l)
    (ha : ∀ j t b, j ≠ i → S[j]? = some t → s.v.ownBlock = some b → t.v.ownBlock ≠ some b) : NOwnS (w.setCell ⟨g, i, none⟩ s.v) lo hi (some ⟨g, 0, none⟩) n cap (S.set i s) (G.set i l) := by
  have hst := (h.1.1.stored i s.v).1
  rw [← List.map_set] at hst
  have hog : ∃ cs f, w.heap[g]? = some (.cells cs 28 f) := by
    rcases h.1.1.2 with ⟨hv, _⟩ | ⟨g', cap', cur, hv, hb, hg, rest⟩
    · cases hv
    · injection hv with hv
      injection hv with hv
      injection hv with hv
      subst hv
      exact ⟨cur, _, hg⟩
  have keepI : ∀ {t : Sl} {l : List Int}, IOwn w lo hi 35 6 t.A t.n t.c l → IOwn (w.setCell ⟨g, i, none⟩ s.v) lo hi 35 6 t.A t.n t.c l := fun {t l} ho => by
    rcases ho.1.2 with hn | ⟨g', cap', cur, hv, hb, hg, rest⟩
    · exact ⟨⟨ho.1.1, .inl hn⟩, ho.2⟩
    · refine ⟨⟨ho.1.1, .inr ⟨g', cap', cur, hv, hb, ?_, rest⟩⟩, ho.2⟩
      rw [Below.heap_setCell w ⟨g, i, none⟩ s.v g' ?_]
      · exact hg
      · show g' ≠ g
        rintro rfl
        obtain ⟨cs, f, e⟩ := hog
        rw [hg] at e
        injection e with e
        injection e with _ e
        cases e
  refine ⟨⟨hst, h.1.2⟩, by simp [h.2.1], fun j t l' ht hl => ?_, fun j k t u b hjk ht hu hb => ?_⟩
  · by_cases hij : i = j
    · subst hij
      have hi : i < S.length := by have := (List.getElem?_eq_some_iff.1 ht).1; simpa using this
      rw [List.getElem?_set_self hi] at ht
      rw [List.getElem?_set_self (by have := h.2.1; omega)] at hl
      injection ht with ht
      injection hl with hl
      subst ht hl
      exact keepI h1
    · rw [List.getElem?_set_ne hij] at ht hl
      exact keepI (h.2.2.1 j t l' ht hl)
  · by_cases hij : i = j
    · subst hij
      have hi : i < S.length := by have := (List.getElem?_eq_some_iff.1 ht).1; simpa using this
      rw [List.getElem?_set_self hi] at ht
      rw [List.getElem?_set_ne hjk] at hu
      injection ht with ht
      subst ht
      exact ha k u b (fun e => hjk e.symm) hu hb
    · rw [List.getElem?_set_ne hij] at ht
      by_cases hik : i = k
      · subst hik
        have hi : i < S.length := by have := (List.getElem?_eq_some_iff.1 hu).1; simpa using this
        rw [List.getElem?_set_self hi] at hu
        injection hu with hu
        subst hu
        intro e
        exact ha j t b (fun e => hij e.symm) ht e hb
      · rw [List.getElem?_set_ne hik] at hu
        exact h.2.2.2 j k t u b hjk ht hu hb
end
theorem NOwn.cap {w : World} {lo hi : Nat} {A : Option Addr} {n c : Nat} {G : List (List Int)} (h : NOwn w lo hi A n c G) : n ≤ c := let ⟨_, h⟩ := h; h.ncap
end Go.Proofs.Ytgdldmeeaejjpaa
