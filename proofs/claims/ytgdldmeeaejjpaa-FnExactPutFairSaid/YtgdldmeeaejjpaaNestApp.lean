/- append of one slice to a slice of slices of the call's own. No program in sight, no condition. -/
import Derived.Test.YtgdldmeeaejjpaaFairRows
namespace Go.Proofs.Ytgdldmeeaejjpaa
open Go.ChangeShapes Go.WideShapes Go.ChangeAt Go.RowKit
set_option linter.unusedVariables false
theorem wp_append_nest {w : World} {o : Oper} {a : Act} {K : Act → World → Prop} {Q : Exit → Act → World → Prop} (sO x : Operand)
    (ho : o.op = .call { callee := .builtin .append, args := #[sO, x], argTypes := #[54, 54] }) {lo hh : Nat} {A : Option Addr} {n cap : Nat} {G : List (List Int)} (hs : a.eval sO = .slice A n cap) (hown : NOwn w lo hh A n cap G)
    (g : Nat) {X : Option Addr} {m c : Nat} {l : List Int} (hx : a.eval x = .slice (some ⟨g, 0, none⟩) 1 1) (hb : Bk w g 28 #[.slice X m c]) {lo2 hi2 : Nat} (hin : IOwn w lo2 hi2 35 6 X m c l) (h2 : hh ≤ lo2) (hl2 : lo ≤ lo2)
    (hn : n ≤ 1099511627776) (hlo : lo ≤ w.heap.size)
    (h : ∀ A' cap' w', NOwn w' lo w'.heap.size A' (n + 1) cap' (G ++ [l]) → Below lo w w' → K (a.put o.dst (.slice A' (n + 1) cap')) w') : o.wp Try.prog a w K Q := by
  obtain ⟨i0, hi, hz0, hz1, hz2⟩ := info_parts tNest
  obtain ⟨S, hown⟩ := hown
  refine wp_append_own w sO x 54 ho lo 28 i0 (.slice none 0 0) 1 24 Try.underlying54 hi hz0 hz1 hz2 rfl (by decide) _ n _ hs hown.1.1 ⟨g, 0, none⟩ 1 1 [.slice X m c] hx rfl ?_ ?_ (by unfold maxLen; omega) (by omega) hlo ?_
  · intro j u hu
    obtain rfl : j = 0 := by
      rcases Nat.eq_zero_or_pos j with h' | h'
      · exact h'
      · rw [List.getElem?_eq_none (by simp; omega)] at hu; cases hu
    simp at hu
    subst hu
    rw [add_plain, hb.cell]
    rfl
  · intro u hu
    simp at hu
    subst hu
    rfl
  · intro v' w' h1 h3 _
    have e : (S.map Sl.v) ++ [Value.slice X m c] = (S ++ [(⟨X, m, c⟩ : Sl)]).map Sl.v := by simp [Sl.v]
    rw [e] at h1
    have keepI : ∀ {t : Sl} {l' : List Int} {p q : Nat}, IOwn w p q 35 6 t.A t.n t.c l' → IOwn w' p q 35 6 t.A t.n t.c l' := fun {t l' p q} hi' => hi'.keepB fun b hb' hlt => by
      refine h3.block b hlt fun e' => ?_
      obtain ⟨_, _, _, cs, f, e1⟩ := hi'.blk hb'
      rcases hown.1.1.2 with ⟨hv, _⟩ | ⟨g', cap', cur, hv, hb2, hg, rest⟩
      · rw [hv] at e'; cases e'
      · rw [hv] at e'
        obtain rfl : b = g' := by simpa [Value.ownBlock] using e'
        rw [hg] at e1
        injection e1 with e1
        injection e1 with _ e1
        cases e1
    have hlt2 : ∀ {t : Sl} {l' : List Int} {b : Nat}, IOwn w lo hh 35 6 t.A t.n t.c l' → t.v.ownBlock = some b → b < hh := fun ho hb' => (ho.blk hb').2.1
    rcases h1.2 with ⟨_, h0⟩ | ⟨g', cap', cur, rfl, rest⟩
    · omega
    · refine h _ _ _ ⟨S ++ [⟨X, m, c⟩], ⟨h1, fun k hk => (h1.lt k hk).2⟩, by simp [hown.2.1], fun i s l' hs' hl' => ?_, fun i j s t b hij hs' ht' hsb htb => ?_⟩ ⟨h3.os, h3.tape, h3.output, h3.size, fun k hk => h3.block k (by omega) (fun e' => by have := (hown.1.1.lt k e'.symm).1; omega)⟩
      · rcases Nat.lt_or_ge i S.length with hi' | hi'
        · rw [List.getElem?_append_left hi'] at hs'
          rw [List.getElem?_append_left (by have := hown.2.1; omega)] at hl'
          exact (keepI (hown.2.2.1 i s l' hs' hl')).here
        · rw [List.getElem?_append_right hi'] at hs'
          rw [List.getElem?_append_right (by have := hown.2.1; omega)] at hl'
          have e1 : i - S.length = 0 := by
            rcases Nat.eq_zero_or_pos (i - S.length) with h' | h'
            · exact h'
            · rw [List.getElem?_eq_none (by simp; omega)] at hs'; cases hs'
          have e2 : i - G.length = 0 := by have := hown.2.1; omega
          rw [e1] at hs'
          rw [e2] at hl'
          simp at hs' hl'
          subst hs' hl'
          exact ((keepI (t := ⟨X, m, c⟩) hin).lo_le hl2).here
      · have hnew : ∀ {i : Nat} {s : Sl} {b : Nat}, (S ++ [(⟨X, m, c⟩ : Sl)])[i]? = some s → s.v.ownBlock = some b → (i < S.length ∧ S[i]? = some s ∧ b < hh) ∨ (i = S.length ∧ lo2 ≤ b) := fun {i s b} hs' hb' => by
          rcases Nat.lt_or_ge i S.length with hi' | hi'
          · rw [List.getElem?_append_left hi'] at hs'
            exact .inl ⟨hi', hs', hlt2 (hown.2.2.1 i s _ hs' (List.getElem?_eq_getElem (by have := hown.2.1; omega))) hb'⟩
          · rw [List.getElem?_append_right hi'] at hs'
            have e1 : i - S.length = 0 := by
              rcases Nat.eq_zero_or_pos (i - S.length) with h' | h'
              · exact h'
              · rw [List.getElem?_eq_none (by simp; omega)] at hs'; cases hs'
            rw [e1] at hs'
            simp at hs'
            subst hs'
            exact .inr ⟨by omega, (hin.blk hb').1⟩
        rcases hnew hs' hsb with ⟨q1, q2, q3⟩ | ⟨q1, q3⟩ <;> rcases hnew ht' htb with ⟨r1, r2, r3⟩ | ⟨r1, r3⟩
        · exact hown.2.2.2 i j s t b hij q2 r2 hsb htb
        · omega
        · omega
        · omega
theorem step_append_nest {w : World} {ops : Array Oper} {o : Oper} {a : Act} {K : Act → World → Prop} {Q : Exit → Act → World → Prop} {E : Prop} (hgd : o.guard = none) (sO x : Operand)
    (ho : o.op = .call { callee := .builtin .append, args := #[sO, x], argTypes := #[54, 54] }) {lo hh : Nat} {A : Option Addr} {n cap : Nat} {G : List (List Int)} (hs : a.eval sO = .slice A n cap) (hown : NOwn w lo hh A n cap G)
    (g : Nat) {X : Option Addr} {m c : Nat} {l : List Int} (hx : a.eval x = .slice (some ⟨g, 0, none⟩) 1 1) (hb : Bk w g 28 #[.slice X m c]) {lo2 hi2 : Nat} (hin : IOwn w lo2 hi2 35 6 X m c l) (h2 : hh ≤ lo2) (hl2 : lo ≤ lo2)
    (hn : n ≤ 1099511627776) (hlo : lo ≤ w.heap.size)
    (h : ∀ A' cap' w', NOwn w' lo w'.heap.size A' (n + 1) cap' (G ++ [l]) → Below lo w w' → K (a.put o.dst (.slice A' (n + 1) cap')) w') :
    if Region.wanted o (yielded ops a.tmps) = true then Oper.wp Try.prog o a w K Q else E := by
  have hw : Region.wanted o (yielded ops a.tmps) = true := by simp [Region.wanted, hgd]
  rw [if_pos hw]
  exact wp_append_nest sO x ho hs hown g hx hb hin h2 hl2 hn hlo h
theorem append_nest {w : World} {ops : Array Oper} {rest : List Oper} {o : Oper} {a : Act} {Q : Exit → Act → World → Prop} (hgd : o.guard = none) (sO x : Operand)
    (ho : o.op = .call { callee := .builtin .append, args := #[sO, x], argTypes := #[54, 54] }) {lo hh : Nat} {A : Option Addr} {n cap : Nat} {G : List (List Int)} (hs : a.eval sO = .slice A n cap) (hown : NOwn w lo hh A n cap G)
    (g : Nat) {X : Option Addr} {m c : Nat} {l : List Int} (hx : a.eval x = .slice (some ⟨g, 0, none⟩) 1 1) (hb : Bk w g 28 #[.slice X m c]) {lo2 hi2 : Nat} (hin : IOwn w lo2 hi2 35 6 X m c l) (h2 : hh ≤ lo2) (hl2 : lo ≤ lo2)
    (hn : n ≤ 1099511627776) (hlo : lo ≤ w.heap.size)
    (h : ∀ A' cap' w', NOwn w' lo w'.heap.size A' (n + 1) cap' (G ++ [l]) → Below lo w w' → wpList Try.prog ops Q rest (a.put o.dst (.slice A' (n + 1) cap')) w') : wpList Try.prog ops Q (o :: rest) a w :=
  wpList_plain hgd fun _ hK => wp_append_nest sO x ho hs hown g hx hb hin h2 hl2 hn hlo fun A' cap' w' h1 h2 => hK _ _ (h A' cap' w' h1 h2)
end Go.Proofs.Ytgdldmeeaejjpaa
