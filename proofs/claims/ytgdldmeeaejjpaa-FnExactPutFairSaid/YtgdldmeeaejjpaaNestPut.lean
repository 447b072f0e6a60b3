/- One row of a slice of slices grows and is put back. No program in sight, no condition. -/
import Derived.Test.YtgdldmeeaejjpaaNestApp
import Derived.Test.YtgdldmeeaejjpaaRemove
namespace Go.Proofs.Ytgdldmeeaejjpaa
open Go.ChangeShapes Go.WideShapes Go.ChangeAt Go.RowKit
set_option linter.unusedVariables false
theorem keepT_set2 {w : World} {g o : Nat} {u : Value} {T : TypeId} {cs : Array Value} {f : Nat × Nat} (h : w.heap[g]? = some (.cells cs T f)) : KeepT T w (w.setCell ⟨g, o, none⟩ u) := fun b cs' t f' hb ht => by
  refine Below.heap_setCell w ⟨g, o, none⟩ u b (show b ≠ g from ?_)
  rintro rfl
  rw [h] at hb
  injection hb with hb
  injection hb with _ hb
  exact ht hb.symm
theorem NOwnS.swap {w w' : World} {lo hi g n cap : Nat} {S : List Sl} {G : List (List Int)} {i a b lo' hi' : Nat} {s t : Sl} {l' : List Int} (h : NOwnS w lo hi (some ⟨g, 0, none⟩) n cap S G) (hs : S[i]? = some s) (hhi : hi ≤ w.heap.size)
    (hc : Chg a b w w') (ha : lo ≤ a) (hb : b ≤ hi) (ht : ∀ k, a ≤ k → k < b → s.v.ownBlock = some k ∧ ∃ cs f, w.heap[k]? = some (.cells cs 35 f))
    (h1 : IOwn w' lo' hi' 35 6 t.A t.n t.c l') (hl : (lo' = a ∧ hi' = b) ∨ w.heap.size ≤ lo') :
    NOwnS (w'.setCell ⟨g, i, none⟩ t.v) lo w'.heap.size (some ⟨g, 0, none⟩) n cap (S.set i t) (G.set i l') := by
  obtain ⟨cur0, hg0⟩ : ∃ cur, w.heap[g]? = some (.cells cur 28 (0, 0)) := by
    rcases h.1.1.2 with ⟨hv, _⟩ | ⟨g', cap', cur, hv, hb, hg, rest⟩
    · cases hv
    · injection hv with hv
      injection hv with hv
      injection hv with hv
      subst hv
      exact ⟨cur, hg⟩
  have out : ∀ {k : Nat}, k < w.heap.size → (∀ cs f, w.heap[k]? ≠ some (.cells cs 35 f)) → w'.heap[k]? = w.heap[k]? := fun {k} hk hn => hc.block k hk (by
    rcases Nat.lt_or_ge k a with h' | h'
    · exact .inl h'
    rcases Nat.lt_or_ge k b with h2 | h2
    · obtain ⟨_, cs, f, e⟩ := ht k h' h2
      exact (hn cs f e).elim
    · exact .inr h2)
  have hgs : g < w.heap.size := (Array.getElem?_eq_some_iff.1 hg0).1
  have hg1 : w'.heap[g]? = some (.cells cur0 28 (0, 0)) := (out hgs (fun cs f e => by rw [hg0] at e; injection e with e; injection e with _ e; cases e)).trans hg0
  have outer : w'.ownsRow lo 28 1 (.slice (some ⟨g, 0, none⟩) n cap) n (S.map Sl.v) := by
    refine ⟨h.1.1.1, ?_⟩
    rcases h.1.1.2 with hn | ⟨g', cap', cur, hv, hb', hg, rest⟩
    · exact .inl hn
    · have e : g' = g := by
        injection hv with hv
        injection hv with hv
        injection hv with hv
        exact hv.symm
      subst e
      rw [hg0] at hg
      injection hg with hg
      injection hg with hg
      subst hg
      exact .inr ⟨g', cap', cur0, hv, hb', hg1, rest⟩
  have hst := (outer.stored i t.v).1
  rw [← List.map_set] at hst
  have keepI : ∀ {u : Sl} {l : List Int} {p q : Nat}, IOwn w' p q 35 6 u.A u.n u.c l → IOwn (w'.setCell ⟨g, i, none⟩ t.v) p q 35 6 u.A u.n u.c l := fun {u l p q} ho => ho.keepT (keepT_set2 hg1) (by decide)
  have old : ∀ {j : Nat} {u : Sl} {l : List Int}, j ≠ i → S[j]? = some u → G[j]? = some l → IOwn w' lo hi 35 6 u.A u.n u.c l := fun {j u l} hj hu hl' => (h.2.2.1 j u l hu hl').keepB fun k hk k3 => hc.block k k3 (by
    rcases Nat.lt_or_ge k a with h' | h'
    · exact .inl h'
    rcases Nat.lt_or_ge k b with h2 | h2
    · exact absurd hk (h.2.2.2 i j s u k (fun e => hj e.symm) hs hu (ht k h' h2).1)
    · exact .inr h2)
  have blk : ∀ {j : Nat} {u : Sl} {k : Nat}, j ≠ i → S[j]? = some u → u.v.ownBlock = some k → t.v.ownBlock ≠ some k := fun {j u k} hj hu hk e => by
    obtain ⟨p1, p2, p3, _⟩ := h1.blk e
    have hlen : j < G.length := by have := (List.getElem?_eq_some_iff.1 hu).1; have := h.2.1; omega
    obtain ⟨q1, q2, q3, _⟩ := (h.2.2.1 j u _ hu (List.getElem?_eq_getElem hlen)).blk hk
    rcases hl with ⟨r1, r2⟩ | r1
    · exact h.2.2.2 i j s u k (fun e => hj e.symm) hs hu (ht k (by omega) (by omega)).1 hk
    · omega
  refine ⟨⟨hst, fun k hk => ?_⟩, by simp [h.2.1], fun j u l hu hl' => ?_, fun j k u v b' hjk hu hv hb' => ?_⟩
  · have := h.1.2 k hk
    have := hc.size
    omega
  · by_cases hij : i = j
    · subst hij
      have hi' : i < S.length := by have := (List.getElem?_eq_some_iff.1 hu).1; simpa using this
      rw [List.getElem?_set_self hi'] at hu
      rw [List.getElem?_set_self (by have := h.2.1; omega)] at hl'
      injection hu with hu
      injection hl' with hl'
      subst hu hl'
      have hx := keepI h1
      have hz : lo ≤ lo' := by
        rcases hl with ⟨r1, r2⟩ | r1
        · omega
        · have := (h.1.1.lt g rfl).1
          omega
      have hy := (hx.lo_le hz).here
      rw [World.size_setCell] at hy
      exact hy
    · rw [List.getElem?_set_ne hij] at hu hl'
      have hy := (keepI (old (fun e => hij e.symm) hu hl')).here
      rw [World.size_setCell] at hy
      exact hy
  · by_cases hij : i = j
    · subst hij
      have hi' : i < S.length := by have := (List.getElem?_eq_some_iff.1 hu).1; simpa using this
      rw [List.getElem?_set_self hi'] at hu
      rw [List.getElem?_set_ne hjk] at hv
      injection hu with hu
      subst hu
      exact fun e => blk (fun e => hjk e.symm) hv e hb'
    · rw [List.getElem?_set_ne hij] at hu
      by_cases hik : i = k
      · subst hik
        have hi' : i < S.length := by have := (List.getElem?_eq_some_iff.1 hv).1; simpa using this
        rw [List.getElem?_set_self hi'] at hv
        injection hv with hv
        subst hv
        exact blk (fun e => hij e.symm) hu hb'
      · rw [List.getElem?_set_ne hik] at hv
        exact h.2.2.2 j k u v b' hjk hu hv hb'
theorem step_append_pkD {w : World} {ops : Array Oper} {o : Oper} {a : Act} {K : Act → World → Prop} {Q : Exit → Act → World → Prop} {E : Prop} (hgd : o.guard = none) (sO x : Operand)
    (ho : o.op = .call { callee := .builtin .append, args := #[sO, x], argTypes := #[28, 28] }) {lo hh : Nat} {A : Option Addr} {n cap : Nat} {L : List Pk} (hs : a.eval sO = .slice A n cap) (hown : IOwn w lo hh 35 6 A n cap (fl L))
    (g : Nat) (p : Pk) (hx : a.eval x = .slice (some ⟨g, 0, none⟩) 1 1) (hb : Bk w g 35 #[.int .i64 p.id, .int .i64 p.so, .int .i64 p.de, .int .i64 p.po, .int .i64 p.ma, .int .i64 p.si]) (hn : n ≤ 1099511627776) (hlo : lo ≤ w.heap.size)
    (h : ∀ A' cap' w' lo' hi', (lo' = lo ∧ hi' = hh ∨ lo' = w.heap.size ∧ hi' = w'.heap.size) → IOwn w' lo' hi' 35 6 A' (n + 1) cap' (fl (L ++ [p])) → Chg lo hh w w' → K (a.put o.dst (.slice A' (n + 1) cap')) w') :
    if Region.wanted o (yielded ops a.tmps) = true then Oper.wp Try.prog o a w K Q else E := by
  have hw : Region.wanted o (yielded ops a.tmps) = true := by simp [Region.wanted, hgd]
  rw [if_pos hw]
  obtain ⟨i0, hi, hz0, hz1, hz2⟩ := info_parts tPacket
  refine wp_append_rowD sO x 28 ho 35 i0 _ 6 48 Try.underlying28 hi hz0 hz1 hz2 rfl (by decide) hs hown g [p.id, p.so, p.de, p.po, p.ma, p.si] hx rfl ?_ hn (by omega) hlo (by rw [← fl_snoc]; exact h)
  intro j hj
  obtain rfl | rfl | rfl | rfl | rfl | rfl : j = 0 ∨ j = 1 ∨ j = 2 ∨ j = 3 ∨ j = 4 ∨ j = 5 := by omega
  · exact hb.cell 0
  · exact hb.cell 1
  · exact hb.cell 2
  · exact hb.cell 3
  · exact hb.cell 4
  · exact hb.cell 5
end Go.Proofs.Ytgdldmeeaejjpaa
