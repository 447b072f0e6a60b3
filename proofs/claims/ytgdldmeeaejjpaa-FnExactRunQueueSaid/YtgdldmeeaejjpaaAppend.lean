/- append of a whole slice to a slice of the call's own. No program in sight, no condition. -/
import Derived.Test.YtgdldmeeaejjpaaBlk
import Derived.Laws.AppendOwnNone
namespace Go.Proofs.Ytgdldmeeaejjpaa
open Go.ChangeShapes Go.WideShapes Go.ChangeAt Go.RowKit
theorem wp_append_many {P : Program} {w : World} {o : Oper} {a : Act} {K : Act → World → Prop} {Q : Exit → Act → World → Prop} (sO x : Operand) (t : TypeId)
    (ho : o.op = .call { callee := .builtin .append, args := #[sO, x], argTypes := #[t, t] }) (e : TypeId) (i : TypeInfo) (z : Value) (s bytes : Nat) (ht : P.underlying t = some (.slice e)) (hi : P.info? e = some i) (hz : i.zero = some z)
    (hsize : i.size = s) (hby : i.bytes = bytes) (hzs : z.cells.size = s) (hsz : 0 < s) {lo hh : Nat} {A : Option Addr} {n cap : Nat} {l : List Int} (hs : a.eval sO = .slice A n cap) (hown : IOwn w lo hh e s A n cap l)
    {X : Option Addr} {m c : Nat} (vs : List Int) (hx : a.eval x = .slice X m c) (hX : X = none → c = 0) (hvs : vs.length = m * s) (hr : IRow w X vs)
    (hn : n + m ≤ 1099511627776) (hb : bytes ≤ 100) (hlo : lo ≤ w.heap.size)
    (h : ∀ A' cap' w', IOwn w' lo w'.heap.size e s A' (n + m) cap' (l ++ vs) → Below lo w w' → K (a.put o.dst (.slice A' (n + m) cap')) w') : o.wp P a w K Q := by
  rcases X with _ | ad
  · have hm : m = 0 := by
      rcases Nat.eq_zero_or_pos m with h0 | h0
      · exact h0
      · obtain ⟨g, off, he, _⟩ := hr (by rw [hvs]; exact Nat.mul_pos h0 hsz)
        cases he
    subst hm
    obtain rfl : c = 0 := hX rfl
    have hv : vs = [] := List.eq_nil_of_length_eq_zero (by simpa using hvs)
    subst hv
    have hrun := run_append_owned_none (P := P) (w := w) lo t o.type e i s ht hi (.slice A n cap) n _ hown.1
    have hk := h A cap w (by simpa using hown.here) (Below.refl _ _)
    unfold Oper.wp
    simp [execOp, ho, resolve, invoke, builtin, hs, hx, hrun, Result.andThen]
    exact hk
  · refine wp_append_own w sO x t ho lo e i z s bytes ht hi hz hsize hby hzs hsz _ n _ hs hown.1 ad m c (vs.map (Value.int .i64)) hx (by simpa using hvs) ?_ ?_ ?_ ?_ hlo ?_
    · intro j u hu
      rw [List.getElem?_map] at hu
      have hj : j < vs.length := by
        rcases Nat.lt_or_ge j vs.length with h' | h'
        · exact h'
        · rw [List.getElem?_eq_none h'] at hu; cases hu
      obtain ⟨g, off, he, hc⟩ := hr (by omega)
      injection he with he
      subst he
      have := hc j hj
      rw [List.getElem?_eq_getElem hj] at hu this
      rw [add_plain, this]
      simpa using hu
    · intro u hu
      obtain ⟨y, _, rfl⟩ := List.mem_map.1 hu
      rfl
    · unfold maxLen; omega
    · have : (n + m) * bytes ≤ 1099511627776 * 100 := Nat.mul_le_mul hn hb
      omega
    · intro v' w' h1 h2 h3
      rw [← List.map_append] at h1
      rcases h1.2 with ⟨hv, h0⟩ | ⟨g', cap', cur, rfl, _⟩
      · subst hv
        have hk := h none 0 w' (by rw [h0]; exact (IOwn.of_owns (by rw [h0] at h1; exact h1))) ⟨h2.os, h2.tape, h2.output, h2.size, fun k hk => h2.block k (by omega) (fun e' => by have := (hown.1.lt k e'.symm).1; omega)⟩
        rwa [h0] at hk
      · exact h _ _ _ (IOwn.of_owns h1) ⟨h2.os, h2.tape, h2.output, h2.size, fun k hk => h2.block k (by omega) (fun e' => by have := (hown.1.lt k e'.symm).1; omega)⟩
theorem append_many {P : Program} {w : World} {ops : Array Oper} {rest : List Oper} {o : Oper} {a : Act} {Q : Exit → Act → World → Prop} (hgd : o.guard = none) (sO x : Operand) (t : TypeId)
    (ho : o.op = .call { callee := .builtin .append, args := #[sO, x], argTypes := #[t, t] }) (e : TypeId) (i : TypeInfo) (z : Value) (s bytes : Nat) (ht : P.underlying t = some (.slice e)) (hi : P.info? e = some i) (hz : i.zero = some z)
    (hsize : i.size = s) (hby : i.bytes = bytes) (hzs : z.cells.size = s) (hsz : 0 < s) {lo hh : Nat} {A : Option Addr} {n cap : Nat} {l : List Int} (hs : a.eval sO = .slice A n cap) (hown : IOwn w lo hh e s A n cap l)
    {X : Option Addr} {m c : Nat} (vs : List Int) (hx : a.eval x = .slice X m c) (hX : X = none → c = 0) (hvs : vs.length = m * s) (hr : IRow w X vs)
    (hn : n + m ≤ 1099511627776) (hb : bytes ≤ 100) (hlo : lo ≤ w.heap.size)
    (h : ∀ A' cap' w', IOwn w' lo w'.heap.size e s A' (n + m) cap' (l ++ vs) → Below lo w w' → wpList P ops Q rest (a.put o.dst (.slice A' (n + m) cap')) w') : wpList P ops Q (o :: rest) a w :=
  wpList_plain hgd fun _ hK => wp_append_many sO x t ho e i z s bytes ht hi hz hsize hby hzs hsz hs hown vs hx hX hvs hr hn hb hlo fun A' cap' w' h1 h2 => hK _ _ (h A' cap' w' h1 h2)
theorem step_append_many {P : Program} {w : World} {ops : Array Oper} {o : Oper} {a : Act} {K : Act → World → Prop} {Q : Exit → Act → World → Prop} {E : Prop} (hgd : o.guard = none) (sO x : Operand) (t : TypeId)
    (ho : o.op = .call { callee := .builtin .append, args := #[sO, x], argTypes := #[t, t] }) (e : TypeId) (i : TypeInfo) (z : Value) (s bytes : Nat) (ht : P.underlying t = some (.slice e)) (hi : P.info? e = some i) (hz : i.zero = some z)
    (hsize : i.size = s) (hby : i.bytes = bytes) (hzs : z.cells.size = s) (hsz : 0 < s) {lo hh : Nat} {A : Option Addr} {n cap : Nat} {l : List Int} (hs : a.eval sO = .slice A n cap) (hown : IOwn w lo hh e s A n cap l)
    {X : Option Addr} {m c : Nat} (vs : List Int) (hx : a.eval x = .slice X m c) (hX : X = none → c = 0) (hvs : vs.length = m * s) (hr : IRow w X vs)
    (hn : n + m ≤ 1099511627776) (hb : bytes ≤ 100) (hlo : lo ≤ w.heap.size)
    (h : ∀ A' cap' w', IOwn w' lo w'.heap.size e s A' (n + m) cap' (l ++ vs) → Below lo w w' → K (a.put o.dst (.slice A' (n + m) cap')) w') :
    if Region.wanted o (yielded ops a.tmps) = true then Oper.wp P o a w K Q else E := by
  have hw : Region.wanted o (yielded ops a.tmps) = true := by simp [Region.wanted, hgd]
  rw [if_pos hw]
  exact wp_append_many sO x t ho e i z s bytes ht hi hz hsize hby hzs hsz hs hown vs hx hX hvs hr hn hb hlo h
end Go.Proofs.Ytgdldmeeaejjpaa
