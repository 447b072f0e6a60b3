/- Rows of integers in memory: what a slice reads as, what a call owns, what stays. No program in sight, no condition. -/
import Derived.Test.YtjajddhedahpnaaDoorBase
namespace Go.Proofs.YtjajddhedahpnaaDoor
open Go.ChangeShapes Go.WideShapes Go.ChangeAt Go.RowKit

/-- The slice's cells read as the numbers l (its elements' cells, one behind the other). -/
def IRow (w : World) (A : Option Addr) (l : List Int) : Prop :=
  0 < l.length → ∃ g off, A = some ⟨g, off, none⟩ ∧ ∀ i, i < l.length → w.cell? ⟨g, off + i, none⟩ = some (.int .i64 (l[i]?.getD 0))
/-- Every number fits an int. -/
def IBs (l : List Int) : Prop := ∀ i : Nat, -9223372036854775808 ≤ l[i]?.getD 0 ∧ l[i]?.getD 0 ≤ 9223372036854775807
theorem IRow.nil (w : World) (A : Option Addr) : IRow w A [] := fun h => absurd h (by simp)
theorem IRow.at_ {w : World} {A : Option Addr} {l : List Int} (h : IRow w A l) {k : Nat} (hk : k < l.length) :
    ∃ g off, A = some ⟨g, off, none⟩ ∧ g < w.heap.size ∧ ∀ i, i < l.length → w.cell? ⟨g, off + i, none⟩ = some (.int .i64 (l[i]?.getD 0)) := by
  obtain ⟨g, off, rfl, hc⟩ := h (by omega)
  exact ⟨g, off, rfl, World.block_lt_of_cell? w _ (hc k hk), hc⟩
theorem IRow.below {w w' : World} {A : Option Addr} {l : List Int} (h : IRow w A l) (hb : Below w.heap.size w w') : IRow w' A l := fun hp => by
  obtain ⟨g, off, rfl, hg, hc⟩ := h.at_ hp
  exact ⟨g, off, rfl, fun i hi => (hb.cell (p := ⟨g, off + i, none⟩) hg).trans (hc i hi)⟩

/-- The call owns the slice: its block lies from lo on and below hi. -/
def IOwn (w : World) (lo hi : Nat) (e s : Nat) (A : Option Addr) (n cap : Nat) (l : List Int) : Prop :=
  w.ownsRow lo e s (.slice A n cap) n (l.map (Value.int .i64)) ∧ ∀ k, (Value.slice A n cap).ownBlock = some k → k < hi
section
variable {w w' : World} {lo hi e s : Nat} {A : Option Addr} {n cap : Nat} {l : List Int}
theorem IOwn.len (h : IOwn w lo hi e s A n cap l) : l.length = n * s := by simpa using h.1.1
theorem IOwn.keep (h : IOwn w lo hi e s A n cap l) (hk : ∀ k, lo ≤ k → k < hi → k < w.heap.size → w'.heap[k]? = w.heap[k]?) : IOwn w' lo hi e s A n cap l := by
  refine ⟨⟨h.1.1, ?_⟩, h.2⟩
  rcases h.1.2 with hn | ⟨g, cap', cur, hv, hb, hg, rest⟩
  · exact .inl hn
  · refine .inr ⟨g, cap', cur, hv, hb, ?_, rest⟩
    rw [hk g hb (h.2 g (by rw [hv]; rfl)) (Array.getElem?_eq_some_iff.1 hg).1]
    exact hg
theorem IOwn.below {B : Nat} (h : IOwn w lo hi e s A n cap l) (hb : Below B w w') (hB : hi ≤ B) : IOwn w' lo hi e s A n cap l := h.keep fun k _ hk _ => hb.block k (by omega)
theorem IOwn.more {hi' : Nat} (h : IOwn w lo hi e s A n cap l) (hh : hi ≤ hi') : IOwn w lo hi' e s A n cap l := ⟨h.1, fun k hk => Nat.lt_of_lt_of_le (h.2 k hk) hh⟩
theorem IOwn.of_owns (h : w.ownsRow lo e s (.slice A n cap) n (l.map (Value.int .i64))) : IOwn w lo w.heap.size e s A n cap l := ⟨h, fun k hk => (h.lt k hk).2⟩
theorem IOwn.row (h : IOwn w lo hi e s A n cap l) : IRow w A l := fun hp => by
  rcases h.1.2 with ⟨hn, h0⟩ | ⟨g, cap', cur, hv, hb, hg, _⟩
  · have := h.len
    rw [h0] at this
    omega
  · have hA : A = some ⟨g, 0, none⟩ := by injection hv
    subst hA
    refine ⟨g, 0, rfl, fun i hi => ?_⟩
    have hc := h.1.cellAt i (by rw [← h.len]; exact hi)
    rw [Nat.zero_add, hc, List.getElem?_map, List.getElem?_eq_getElem hi]
    rfl
/-- An owned slice that has an element: where it lies, its cells, and that they may be written. -/
theorem IOwn.at_ (h : IOwn w lo hi e s A n cap l) {k : Nat} (hk : k < l.length) :
    ∃ g, A = some ⟨g, 0, none⟩ ∧ lo ≤ g ∧ g < hi ∧ g < w.heap.size ∧ (∀ i, i < l.length → w.cell? ⟨g, i, none⟩ = some (.int .i64 (l[i]?.getD 0))) ∧ ∀ i, w.frozen? ⟨g, i, none⟩ = false := by
  rcases h.1.2 with ⟨hn, h0⟩ | ⟨g, cap', cur, hv, hb, hg, _⟩
  · have := h.len
    rw [h0] at this
    omega
  · have hA : A = some ⟨g, 0, none⟩ := by injection hv
    subst hA
    refine ⟨g, rfl, hb, h.2 g rfl, (Array.getElem?_eq_some_iff.1 hg).1, fun i hi => ?_, fun i => h.1.frozenAt i⟩
    rw [h.1.cellAt i (by rw [← h.len]; exact hi), List.getElem?_map, List.getElem?_eq_getElem hi]
    rfl
theorem IOwn.set_ {g : Nat} (h : IOwn w lo hi e s (some ⟨g, 0, none⟩) n cap l) (j : Nat) (x : Int) : IOwn (w.setCell ⟨g, j, none⟩ (.int .i64 x)) lo hi e s (some ⟨g, 0, none⟩) n cap (l.set j x) := by
  refine ⟨?_, h.2⟩
  have := (h.1.stored j (.int .i64 x)).1
  rw [← List.map_set] at this
  exact this
end

/-- Outside the blocks from lo to hi nothing that was there has turned. -/
structure Chg (lo hi : Nat) (w w' : World) : Prop where
  os : w'.os = w.os
  tape : w'.tape = w.tape
  output : w'.output = w.output
  size : w.heap.size ≤ w'.heap.size
  block : ∀ k, k < w.heap.size → (k < lo ∨ hi ≤ k) → w'.heap[k]? = w.heap[k]?
theorem Chg.refl (lo hi : Nat) (w : World) : Chg lo hi w w := ⟨rfl, rfl, rfl, Nat.le_refl _, fun _ _ _ => rfl⟩
theorem Chg.of_below {lo hi : Nat} {w w' : World} (h : Below w.heap.size w w') : Chg lo hi w w' := ⟨h.os, h.tape, h.output, h.size, fun k hk _ => h.block k hk⟩
theorem Chg.trans {lo hi : Nat} {a b c : World} (h : Chg lo hi a b) (k : Chg lo hi b c) : Chg lo hi a c :=
  ⟨k.os.trans h.os, k.tape.trans h.tape, k.output.trans h.output, Nat.le_trans h.size k.size, fun i hi ho => (k.block i (Nat.lt_of_lt_of_le hi h.size) ho).trans (h.block i hi ho)⟩
theorem Chg.setCell {lo hi : Nat} {a w : World} (h : Chg lo hi a w) {p : Addr} (h1 : lo ≤ p.block) (h2 : p.block < hi) (u : Value) : Chg lo hi a (w.setCell p u) :=
  h.trans ⟨rfl, rfl, rfl, by simp [World.setCell], fun k _ ho => Below.heap_setCell _ _ _ _ (by omega)⟩
theorem Chg.below {lo hi : Nat} {w W W' : World} (hb : Below w.heap.size w W) (h : Chg lo hi W W') (hl : w.heap.size ≤ lo) : Below w.heap.size w W' :=
  ⟨h.os.trans hb.os, h.tape.trans hb.tape, h.output.trans hb.output, Nat.le_trans hb.size h.size, fun k hk => (h.block k (Nat.lt_of_lt_of_le hk hb.size) (.inl (by omega))).trans (hb.block k hk)⟩
theorem IOwn.chg {lo hi lo' hi' e s : Nat} {A : Option Addr} {n cap : Nat} {l : List Int} {w w' : World} (h : IOwn w lo hi e s A n cap l) (hc : Chg lo' hi' w w') (hd : hi ≤ lo' ∨ hi' ≤ lo) : IOwn w' lo hi e s A n cap l :=
  h.keep fun k h1 h2 h3 => hc.block k h3 (by omega)

theorem chkeep {lo hi : Nat} {W w1 : World} (h : Chg lo hi W w1) : ∀ b o, b < W.heap.size → (b < lo ∨ hi ≤ b) → w1.cell? ⟨b, o, none⟩ = W.cell? ⟨b, o, none⟩ := fun b o hb ho => World.cell?_of_block (a := ⟨b, o, none⟩) (h.block b hb ho)
theorem IOwn.lo_le {w : World} {lo lo' hi e s : Nat} {A : Option Addr} {n cap : Nat} {l : List Int} (h : IOwn w lo hi e s A n cap l) (hl : lo' ≤ lo) : IOwn w lo' hi e s A n cap l := by
  refine ⟨⟨h.1.1, ?_⟩, h.2⟩
  rcases h.1.2 with hn | ⟨g, cap', cur, hv, hb, rest⟩
  · exact .inl hn
  · exact .inr ⟨g, cap', cur, hv, Nat.le_trans hl hb, rest⟩
theorem IOwn.none_ (w : World) (lo hi e s : Nat) : IOwn w lo hi e s none 0 0 [] := ⟨World.ownsRow_nil w lo e s, fun k hk => by simp [Value.ownBlock] at hk⟩
theorem IOwn.here {w : World} {lo hi e s : Nat} {A : Option Addr} {n cap : Nat} {l : List Int} (h : IOwn w lo hi e s A n cap l) : IOwn w lo w.heap.size e s A n cap l := IOwn.of_owns h.1
theorem IOwn.lit0 (w : World) (lo e s : Nat) (hl : lo ≤ w.heap.size) : IOwn (w.alloc (.cells #[] e)) lo (w.heap.size + 1) e s (some ⟨w.heap.size, 0, none⟩) 0 0 [] := by
  refine ⟨World.ownsRow_lit w #[] 0 hl (by unfold maxLen; omega) (by simp), fun k hk => ?_⟩
  simp [Value.ownBlock] at hk
  omega
/-- append of one element to a slice of the call's own. -/
theorem wp_append_row {P : Program} {w : World} {o : Oper} {a : Act} {K : Act → World → Prop} {Q : Exit → Act → World → Prop} (sO x : Operand) (t : TypeId)
    (ho : o.op = .call { callee := .builtin .append, args := #[sO, x], argTypes := #[t, t] }) (e : TypeId) (i : TypeInfo) (z : Value) (s bytes : Nat) (ht : P.underlying t = some (.slice e)) (hi : P.info? e = some i) (hz : i.zero = some z)
    (hsize : i.size = s) (hby : i.bytes = bytes) (hzs : z.cells.size = s) (hsz : 0 < s) {lo hh : Nat} {A : Option Addr} {n cap : Nat} {l : List Int} (hs : a.eval sO = .slice A n cap) (hown : IOwn w lo hh e s A n cap l)
    (g : Nat) (vs : List Int) (hx : a.eval x = .slice (some ⟨g, 0, none⟩) 1 1) (hvs : vs.length = s) (hc : ∀ j, j < s → w.cell? ⟨g, j, none⟩ = some (.int .i64 (vs[j]?.getD 0)))
    (hn : n ≤ 1099511627776) (hb : bytes ≤ 100) (hlo : lo ≤ w.heap.size)
    (h : ∀ A' cap' w', IOwn w' lo w'.heap.size e s A' (n + 1) cap' (l ++ vs) → Below lo w w' → K (a.put o.dst (.slice A' (n + 1) cap')) w') : o.wp P a w K Q := by
  refine wp_append_own w sO x t ho lo e i z s bytes ht hi hz hsize hby hzs hsz _ n _ hs hown.1 ⟨g, 0, none⟩ 1 1 (vs.map (Value.int .i64)) hx (by simpa using hvs) ?_ ?_ ?_ ?_ hlo ?_
  · intro j u hu
    rw [List.getElem?_map] at hu
    have hj : j < s := by
      rcases Nat.lt_or_ge j s with h' | h'
      · exact h'
      · rw [List.getElem?_eq_none (by omega)] at hu; cases hu
    rw [List.getElem?_eq_getElem (by omega)] at hu
    have := hc j hj
    rw [List.getElem?_eq_getElem (by omega)] at this
    rw [add_plain, Nat.zero_add, this]
    simpa using hu
  · intro u hu
    obtain ⟨y, _, rfl⟩ := List.mem_map.1 hu
    rfl
  · unfold maxLen; omega
  · have : (n + 1) * bytes ≤ (1099511627776 + 1) * 100 := Nat.mul_le_mul (by omega) hb
    omega
  · intro v' w' h1 h2 _
    rw [← List.map_append] at h1
    rcases h1.2 with ⟨_, h0⟩ | ⟨g', cap', cur, rfl, _⟩
    · omega
    · refine h _ _ _ (IOwn.of_owns h1) ⟨h2.os, h2.tape, h2.output, h2.size, fun k hk => h2.block k (by omega) (fun e' => ?_)⟩
      have := (hown.1.lt k e'.symm).1
      omega
theorem append_row {P : Program} {w : World} {ops : Array Oper} {rest : List Oper} {o : Oper} {a : Act} {Q : Exit → Act → World → Prop} (hgd : o.guard = none) (sO x : Operand) (t : TypeId)
    (ho : o.op = .call { callee := .builtin .append, args := #[sO, x], argTypes := #[t, t] }) (e : TypeId) (i : TypeInfo) (z : Value) (s bytes : Nat) (ht : P.underlying t = some (.slice e)) (hi : P.info? e = some i) (hz : i.zero = some z)
    (hsize : i.size = s) (hby : i.bytes = bytes) (hzs : z.cells.size = s) (hsz : 0 < s) {lo hh : Nat} {A : Option Addr} {n cap : Nat} {l : List Int} (hs : a.eval sO = .slice A n cap) (hown : IOwn w lo hh e s A n cap l)
    (g : Nat) (vs : List Int) (hx : a.eval x = .slice (some ⟨g, 0, none⟩) 1 1) (hvs : vs.length = s) (hc : ∀ j, j < s → w.cell? ⟨g, j, none⟩ = some (.int .i64 (vs[j]?.getD 0)))
    (hn : n ≤ 1099511627776) (hb : bytes ≤ 100) (hlo : lo ≤ w.heap.size)
    (h : ∀ A' cap' w', IOwn w' lo w'.heap.size e s A' (n + 1) cap' (l ++ vs) → Below lo w w' → wpList P ops Q rest (a.put o.dst (.slice A' (n + 1) cap')) w') : wpList P ops Q (o :: rest) a w :=
  wpList_plain hgd fun _ hK => wp_append_row sO x t ho e i z s bytes ht hi hz hsize hby hzs hsz hs hown g vs hx hvs hc hn hb hlo fun A' cap' w' h1 h2 => hK _ _ (h A' cap' w' h1 h2)
/-- .. the same as one step of a region that draws its order. -/
theorem step_append_row {P : Program} {w : World} {ops : Array Oper} {o : Oper} {a : Act} {K : Act → World → Prop} {Q : Exit → Act → World → Prop} {E : Prop} (hgd : o.guard = none) (sO x : Operand) (t : TypeId)
    (ho : o.op = .call { callee := .builtin .append, args := #[sO, x], argTypes := #[t, t] }) (e : TypeId) (i : TypeInfo) (z : Value) (s bytes : Nat) (ht : P.underlying t = some (.slice e)) (hi : P.info? e = some i) (hz : i.zero = some z)
    (hsize : i.size = s) (hby : i.bytes = bytes) (hzs : z.cells.size = s) (hsz : 0 < s) {lo hh : Nat} {A : Option Addr} {n cap : Nat} {l : List Int} (hs : a.eval sO = .slice A n cap) (hown : IOwn w lo hh e s A n cap l)
    (g : Nat) (vs : List Int) (hx : a.eval x = .slice (some ⟨g, 0, none⟩) 1 1) (hvs : vs.length = s) (hc : ∀ j, j < s → w.cell? ⟨g, j, none⟩ = some (.int .i64 (vs[j]?.getD 0)))
    (hn : n ≤ 1099511627776) (hb : bytes ≤ 100) (hlo : lo ≤ w.heap.size)
    (h : ∀ A' cap' w', IOwn w' lo w'.heap.size e s A' (n + 1) cap' (l ++ vs) → Below lo w w' → K (a.put o.dst (.slice A' (n + 1) cap')) w') :
    if Region.wanted o (yielded ops a.tmps) = true then Oper.wp P o a w K Q else E := by
  have hw : Region.wanted o (yielded ops a.tmps) = true := by simp [Region.wanted, hgd]
  rw [if_pos hw]
  exact wp_append_row sO x t ho e i z s bytes ht hi hz hsize hby hzs hsz hs hown g vs hx hvs hc hn hb hlo h
/-- k, k + 1, .. -/
def marks (k : Int) (n : Nat) : List Int := (List.range n).map fun (i : Nat) => k + i
theorem marks_len (k : Int) (n : Nat) : (marks k n).length = n := by simp [marks]
theorem marks_get {k : Int} {n i : Nat} (h : i < n) : (marks k n)[i]?.getD 0 = k + i := by
  simp [marks, List.getElem?_map, List.getElem?_range h]
/-- The first k of l, then the old ones. -/
def blend (k : Nat) (l m : List Int) : List Int := l.take k ++ m.drop k
theorem blend_zero (l m : List Int) : blend 0 l m = m := by simp [blend]
theorem blend_all {l m : List Int} (h : m.length = l.length) {k : Nat} (hk : l.length ≤ k) : blend k l m = l := by
  simp [blend, List.take_of_length_le hk, List.drop_eq_nil_of_le (show m.length ≤ k by omega)]
theorem blend_len {l m : List Int} (h : m.length = l.length) {k : Nat} (hk : k ≤ l.length) : (blend k l m).length = l.length := by
  simp [blend]; omega
theorem blend_set {l m : List Int} (h : m.length = l.length) {k : Nat} (hk : k < l.length) : (blend k l m).set k (l[k]?.getD 0) = blend (k + 1) l m := by
  unfold blend
  rw [List.set_append_right _ _ (by simp; omega), List.drop_eq_getElem_cons (show k < m.length by omega)]
  simp only [List.length_take]
  rw [Nat.min_eq_left (by omega), Nat.sub_self, List.set_cons_zero, List.take_succ_eq_append_getElem hk, List.getElem?_eq_getElem hk]
  simp only [List.append_assoc, List.cons_append, List.nil_append, Option.getD_some]
theorem getD_take {l : List Int} {k i : Nat} (h : i < k) : (l.take k)[i]?.getD 0 = l[i]?.getD 0 := by rw [List.getElem?_take, if_pos h]

section
variable {H : Type} {enc : TypeId × Value → H} {P : Program} {w : World}
/-- A slice of ints that came in. -/
theorem ints_row {t e : TypeId} {A : Option Addr} {len cap : Nat} {d : DataW H} {p : List MemPlace} (ht : P.underlying t = some (.slice e)) (he : P.underlying e = some (.int .i64)) (hc : P.cellsOf e = 1)
    (h : DataW.Trod enc P w 0 (fun _ => true) true t (.slice A len cap) d p) : ∃ l : List Int, IRow w A l ∧ l.length = len ∧ len ≤ 9223372036854775807 ∧ IBs l := by
  obtain ⟨fuel, hf⟩ := h
  rcases open_ints ht he hc hf with ⟨hcs, _⟩ | ⟨a, l', c', zs, hcs, _, hl, hm, hz, _, hcell, hwz⟩
  · simp [Value.cells] at hcs
    obtain ⟨rfl, rfl, rfl⟩ := hcs
    exact ⟨[], IRow.nil _ _, rfl, by omega, fun i => by simp⟩
  · simp [Value.cells] at hcs
    obtain ⟨rfl, rfl, rfl⟩ := hcs
    have hz' : zs.length = cap := by simpa using hz
    have hm' : cap ≤ 9223372036854775807 := by unfold maxLen at hm; omega
    refine ⟨zs.take len, fun hp => ?_, by simp; omega, by omega, fun i => ?_⟩
    · simp at hp
      obtain ⟨b, off, rfl, hc⟩ := ints_at hcell (by omega)
      refine ⟨b, off, rfl, fun i hi => ?_⟩
      simp at hi
      rw [hc i (by omega), getD_take (by omega)]
      simp
    · have hr := range_i64 hwz i
      by_cases hi : i < len
      · rw [getD_take hi]; exact hr
      · rw [List.getElem?_eq_none (by simp; omega)]; simp
end
end Go.Proofs.YtjajddhedahpnaaDoor
