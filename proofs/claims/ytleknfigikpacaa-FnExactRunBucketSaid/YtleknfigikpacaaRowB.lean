/- Rows of bools in memory: what a slice reads as, what a call owns, what stays. No program in sight, no condition. -/
import Derived.Test.YtleknfigikpacaaRow
namespace Go.Proofs.Ytleknfigikpacaa
open Go.ChangeShapes Go.WideShapes Go.ChangeAt Go.RowKit

/-- The slice's cells read as the bools l (its elements' cells, one behind the other). -/
def BRow (w : World) (A : Option Addr) (l : List Bool) : Prop :=
  0 < l.length → ∃ g off, A = some ⟨g, off, none⟩ ∧ ∀ i, i < l.length → w.cell? ⟨g, off + i, none⟩ = some (.bool (l[i]?.getD false))
theorem BRow.nil (w : World) (A : Option Addr) : BRow w A [] := fun h => absurd h (by simp)
theorem BRow.at_ {w : World} {A : Option Addr} {l : List Bool} (h : BRow w A l) {k : Nat} (hk : k < l.length) :
    ∃ g off, A = some ⟨g, off, none⟩ ∧ g < w.heap.size ∧ ∀ i, i < l.length → w.cell? ⟨g, off + i, none⟩ = some (.bool (l[i]?.getD false)) := by
  obtain ⟨g, off, rfl, hc⟩ := h (by omega)
  exact ⟨g, off, rfl, World.block_lt_of_cell? w _ (hc k hk), hc⟩
theorem BRow.below {w w' : World} {A : Option Addr} {l : List Bool} (h : BRow w A l) (hb : Below w.heap.size w w') : BRow w' A l := fun hp => by
  obtain ⟨g, off, rfl, hg, hc⟩ := h.at_ hp
  exact ⟨g, off, rfl, fun i hi => (hb.cell (p := ⟨g, off + i, none⟩) hg).trans (hc i hi)⟩

/-- The call owns the slice: its block lies from lo on and below hi. -/
def BOwn (w : World) (lo hi : Nat) (e s : Nat) (A : Option Addr) (n cap : Nat) (l : List Bool) : Prop :=
  w.ownsRow lo e s (.slice A n cap) n (l.map (Value.bool)) ∧ ∀ k, (Value.slice A n cap).ownBlock = some k → k < hi
section
variable {w w' : World} {lo hi e s : Nat} {A : Option Addr} {n cap : Nat} {l : List Bool}
theorem BOwn.len (h : BOwn w lo hi e s A n cap l) : l.length = n * s := by simpa using h.1.1
theorem BOwn.keep (h : BOwn w lo hi e s A n cap l) (hk : ∀ k, lo ≤ k → k < hi → k < w.heap.size → w'.heap[k]? = w.heap[k]?) : BOwn w' lo hi e s A n cap l := by
  refine ⟨⟨h.1.1, ?_⟩, h.2⟩
  rcases h.1.2 with hn | ⟨g, cap', cur, hv, hb, hg, rest⟩
  · exact .inl hn
  · refine .inr ⟨g, cap', cur, hv, hb, ?_, rest⟩
    rw [hk g hb (h.2 g (by rw [hv]; rfl)) (Array.getElem?_eq_some_iff.1 hg).1]
    exact hg
theorem BOwn.below {B : Nat} (h : BOwn w lo hi e s A n cap l) (hb : Below B w w') (hB : hi ≤ B) : BOwn w' lo hi e s A n cap l := h.keep fun k _ hk _ => hb.block k (by omega)
theorem BOwn.more {hi' : Nat} (h : BOwn w lo hi e s A n cap l) (hh : hi ≤ hi') : BOwn w lo hi' e s A n cap l := ⟨h.1, fun k hk => Nat.lt_of_lt_of_le (h.2 k hk) hh⟩
theorem BOwn.of_owns (h : w.ownsRow lo e s (.slice A n cap) n (l.map (Value.bool))) : BOwn w lo w.heap.size e s A n cap l := ⟨h, fun k hk => (h.lt k hk).2⟩
theorem BOwn.row (h : BOwn w lo hi e s A n cap l) : BRow w A l := fun hp => by
  rcases h.1.2 with ⟨hn, h0⟩ | ⟨g, cap', cur, hv, hb, hg, _⟩
  · have := h.len
    rw [h0] at this
    omega
  · have hA : A = some ⟨g, 0, none⟩ := by injection hv
    subst hA
    refine ⟨g, 0, rfl, fun i hi => ?_⟩
    have hc := h.1.cellAt i (by rw [← h.len]; exact hi)
    rw [Nat.zero_add, hc, List.getElem?_map, List.getElem?_eq_getElem hi]
    rfl
/-- An owned slice that has an element: where it lies, its cells, and that they may be written. -/
theorem BOwn.at_ (h : BOwn w lo hi e s A n cap l) {k : Nat} (hk : k < l.length) :
    ∃ g, A = some ⟨g, 0, none⟩ ∧ lo ≤ g ∧ g < hi ∧ g < w.heap.size ∧ (∀ i, i < l.length → w.cell? ⟨g, i, none⟩ = some (.bool (l[i]?.getD false))) ∧ ∀ i, w.frozen? ⟨g, i, none⟩ = false := by
  rcases h.1.2 with ⟨hn, h0⟩ | ⟨g, cap', cur, hv, hb, hg, _⟩
  · have := h.len
    rw [h0] at this
    omega
  · have hA : A = some ⟨g, 0, none⟩ := by injection hv
    subst hA
    refine ⟨g, rfl, hb, h.2 g rfl, (Array.getElem?_eq_some_iff.1 hg).1, fun i hi => ?_, fun i => h.1.frozenAt i⟩
    rw [h.1.cellAt i (by rw [← h.len]; exact hi), List.getElem?_map, List.getElem?_eq_getElem hi]
    rfl
theorem BOwn.set_ {g : Nat} (h : BOwn w lo hi e s (some ⟨g, 0, none⟩) n cap l) (j : Nat) (x : Bool) : BOwn (w.setCell ⟨g, j, none⟩ (.bool x)) lo hi e s (some ⟨g, 0, none⟩) n cap (l.set j x) := by
  refine ⟨?_, h.2⟩
  have := (h.1.stored j (.bool x)).1
  rw [← List.map_set] at this
  exact this
end

theorem BOwn.chg {lo hi lo' hi' e s : Nat} {A : Option Addr} {n cap : Nat} {l : List Bool} {w w' : World} (h : BOwn w lo hi e s A n cap l) (hc : Chg lo' hi' w w') (hd : hi ≤ lo' ∨ hi' ≤ lo) : BOwn w' lo hi e s A n cap l :=
  h.keep fun k h1 h2 h3 => hc.block k h3 (by omega)

theorem BOwn.lo_le {w : World} {lo lo' hi e s : Nat} {A : Option Addr} {n cap : Nat} {l : List Bool} (h : BOwn w lo hi e s A n cap l) (hl : lo' ≤ lo) : BOwn w lo' hi e s A n cap l := by
  refine ⟨⟨h.1.1, ?_⟩, h.2⟩
  rcases h.1.2 with hn | ⟨g, cap', cur, hv, hb, rest⟩
  · exact .inl hn
  · exact .inr ⟨g, cap', cur, hv, Nat.le_trans hl hb, rest⟩
theorem BOwn.none_ (w : World) (lo hi e s : Nat) : BOwn w lo hi e s none 0 0 [] := ⟨World.ownsRow_nil w lo e s, fun k hk => by simp [Value.ownBlock] at hk⟩
theorem BOwn.here {w : World} {lo hi e s : Nat} {A : Option Addr} {n cap : Nat} {l : List Bool} (h : BOwn w lo hi e s A n cap l) : BOwn w lo w.heap.size e s A n cap l := BOwn.of_owns h.1
theorem BOwn.lit0 (w : World) (lo e s : Nat) (hl : lo ≤ w.heap.size) : BOwn (w.alloc (.cells #[] e)) lo (w.heap.size + 1) e s (some ⟨w.heap.size, 0, none⟩) 0 0 [] := by
  refine ⟨World.ownsRow_lit w #[] 0 hl (by unfold maxLen; omega) (by simp), fun k hk => ?_⟩
  simp [Value.ownBlock] at hk
  omega
/-- append of one element to a slice of the call's own. -/
theorem wp_append_rowB {P : Program} {w : World} {o : Oper} {a : Act} {K : Act → World → Prop} {Q : Exit → Act → World → Prop} (sO x : Operand) (t : TypeId)
    (ho : o.op = .call { callee := .builtin .append, args := #[sO, x], argTypes := #[t, t] }) (e : TypeId) (i : TypeInfo) (z : Value) (s bytes : Nat) (ht : P.underlying t = some (.slice e)) (hi : P.info? e = some i) (hz : i.zero = some z)
    (hsize : i.size = s) (hby : i.bytes = bytes) (hzs : z.cells.size = s) (hsz : 0 < s) {lo hh : Nat} {A : Option Addr} {n cap : Nat} {l : List Bool} (hs : a.eval sO = .slice A n cap) (hown : BOwn w lo hh e s A n cap l)
    (g : Nat) (vs : List Bool) (hx : a.eval x = .slice (some ⟨g, 0, none⟩) 1 1) (hvs : vs.length = s) (hc : ∀ j, j < s → w.cell? ⟨g, j, none⟩ = some (.bool (vs[j]?.getD false)))
    (hn : n ≤ 1099511627776) (hb : bytes ≤ 100) (hlo : lo ≤ w.heap.size)
    (h : ∀ A' cap' w', BOwn w' lo w'.heap.size e s A' (n + 1) cap' (l ++ vs) → Below lo w w' → K (a.put o.dst (.slice A' (n + 1) cap')) w') : o.wp P a w K Q := by
  refine wp_append_own w sO x t ho lo e i z s bytes ht hi hz hsize hby hzs hsz _ n _ hs hown.1 ⟨g, 0, none⟩ 1 1 (vs.map (Value.bool)) hx (by simpa using hvs) ?_ ?_ ?_ ?_ hlo ?_
  · intro j u hu
    rw [List.getElem?_map] at hu
    have hj : j < s := by
      rcases Nat.lt_or_ge j s with h' | h'
      · exact h'
      · rw [List.getElem?_eq_none (by omega)] at hu; cases hu
    rw [List.getElem?_eq_getElem (by omega)] at hu
    have := hc j hj
    rw [List.getElem?_eq_getElem (by omega)] at this
    rw [add_plain, Nat.zero_add, this]
    simpa using hu
  · intro u hu
    obtain ⟨y, _, rfl⟩ := List.mem_map.1 hu
    rfl
  · unfold maxLen; omega
  · have : (n + 1) * bytes ≤ (1099511627776 + 1) * 100 := Nat.mul_le_mul (by omega) hb
    omega
  · intro v' w' h1 h2 _
    rw [← List.map_append] at h1
    rcases h1.2 with ⟨_, h0⟩ | ⟨g', cap', cur, rfl, _⟩
    · omega
    · refine h _ _ _ (BOwn.of_owns h1) ⟨h2.os, h2.tape, h2.output, h2.size, fun k hk => h2.block k (by omega) (fun e' => ?_)⟩
      have := (hown.1.lt k e'.symm).1
      omega
theorem append_rowB {P : Program} {w : World} {ops : Array Oper} {rest : List Oper} {o : Oper} {a : Act} {Q : Exit → Act → World → Prop} (hgd : o.guard = none) (sO x : Operand) (t : TypeId)
    (ho : o.op = .call { callee := .builtin .append, args := #[sO, x], argTypes := #[t, t] }) (e : TypeId) (i : TypeInfo) (z : Value) (s bytes : Nat) (ht : P.underlying t = some (.slice e)) (hi : P.info? e = some i) (hz : i.zero = some z)
    (hsize : i.size = s) (hby : i.bytes = bytes) (hzs : z.cells.size = s) (hsz : 0 < s) {lo hh : Nat} {A : Option Addr} {n cap : Nat} {l : List Bool} (hs : a.eval sO = .slice A n cap) (hown : BOwn w lo hh e s A n cap l)
    (g : Nat) (vs : List Bool) (hx : a.eval x = .slice (some ⟨g, 0, none⟩) 1 1) (hvs : vs.length = s) (hc : ∀ j, j < s → w.cell? ⟨g, j, none⟩ = some (.bool (vs[j]?.getD false)))
    (hn : n ≤ 1099511627776) (hb : bytes ≤ 100) (hlo : lo ≤ w.heap.size)
    (h : ∀ A' cap' w', BOwn w' lo w'.heap.size e s A' (n + 1) cap' (l ++ vs) → Below lo w w' → wpList P ops Q rest (a.put o.dst (.slice A' (n + 1) cap')) w') : wpList P ops Q (o :: rest) a w :=
  wpList_plain hgd fun _ hK => wp_append_rowB sO x t ho e i z s bytes ht hi hz hsize hby hzs hsz hs hown g vs hx hvs hc hn hb hlo fun A' cap' w' h1 h2 => hK _ _ (h A' cap' w' h1 h2)
/-- .. the same as one step of a region that draws its order. -/
theorem step_append_rowB {P : Program} {w : World} {ops : Array Oper} {o : Oper} {a : Act} {K : Act → World → Prop} {Q : Exit → Act → World → Prop} {E : Prop} (hgd : o.guard = none) (sO x : Operand) (t : TypeId)
    (ho : o.op = .call { callee := .builtin .append, args := #[sO, x], argTypes := #[t, t] }) (e : TypeId) (i : TypeInfo) (z : Value) (s bytes : Nat) (ht : P.underlying t = some (.slice e)) (hi : P.info? e = some i) (hz : i.zero = some z)
    (hsize : i.size = s) (hby : i.bytes = bytes) (hzs : z.cells.size = s) (hsz : 0 < s) {lo hh : Nat} {A : Option Addr} {n cap : Nat} {l : List Bool} (hs : a.eval sO = .slice A n cap) (hown : BOwn w lo hh e s A n cap l)
    (g : Nat) (vs : List Bool) (hx : a.eval x = .slice (some ⟨g, 0, none⟩) 1 1) (hvs : vs.length = s) (hc : ∀ j, j < s → w.cell? ⟨g, j, none⟩ = some (.bool (vs[j]?.getD false)))
    (hn : n ≤ 1099511627776) (hb : bytes ≤ 100) (hlo : lo ≤ w.heap.size)
    (h : ∀ A' cap' w', BOwn w' lo w'.heap.size e s A' (n + 1) cap' (l ++ vs) → Below lo w w' → K (a.put o.dst (.slice A' (n + 1) cap')) w') :
    if Region.wanted o (yielded ops a.tmps) = true then Oper.wp P o a w K Q else E := by
  have hw : Region.wanted o (yielded ops a.tmps) = true := by simp [Region.wanted, hgd]
  rw [if_pos hw]
  exact wp_append_rowB sO x t ho e i z s bytes ht hi hz hsize hby hzs hsz hs hown g vs hx hvs hc hn hb hlo h
/-- The first k of l, then the old ones. -/
def blendB (k : Nat) (l m : List Bool) : List Bool := l.take k ++ m.drop k
theorem blendB_zero (l m : List Bool) : blendB 0 l m = m := by simp [blendB]
theorem blendB_all {l m : List Bool} (h : m.length = l.length) {k : Nat} (hk : l.length ≤ k) : blendB k l m = l := by
  simp [blendB, List.take_of_length_le hk, List.drop_eq_nil_of_le (show m.length ≤ k by omega)]
theorem blendB_len {l m : List Bool} (h : m.length = l.length) {k : Nat} (hk : k ≤ l.length) : (blendB k l m).length = l.length := by
  simp [blendB]; omega
theorem blendB_set {l m : List Bool} (h : m.length = l.length) {k : Nat} (hk : k < l.length) : (blendB k l m).set k (l[k]?.getD false) = blendB (k + 1) l m := by
  unfold blendB
  rw [List.set_append_right _ _ (by simp; omega), List.drop_eq_getElem_cons (show k < m.length by omega)]
  simp only [List.length_take]
  rw [Nat.min_eq_left (by omega), Nat.sub_self, List.set_cons_zero, List.take_succ_eq_append_getElem hk, List.getElem?_eq_getElem hk]
  simp only [List.append_assoc, List.cons_append, List.nil_append, Option.getD_some]
end Go.Proofs.Ytleknfigikpacaa
