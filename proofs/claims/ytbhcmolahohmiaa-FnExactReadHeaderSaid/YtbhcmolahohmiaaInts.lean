/- The contracts of the laws' helpers on []int: copy, comparison, marking, looking at the marks. -/
import Derived.Test.YtbhcmolahohmiaaRows
import Derived.Test.YtbhcmolahohmiaaRow
namespace Go.Proofs.Ytbhcmolahohmiaa
open Go.ChangeShapes Go.WideShapes Go.ChangeAt Go.RowKit
set_option linter.unusedVariables false
theorem tinfo : (Try.prog.info? 3).map (fun i => (i.zero, i.size, i.bytes)) = some (some (.int .i64 0), 1, 8) := by kernel_rfl
theorem make_ints (n : Nat) (hn : n ≤ 1048576) (w : World) :
    ∃ w', (Instr.makeSlice 28 (.int .i64 (n : Int)) (.int .i64 (n : Int))).run Try.prog w = .ok (.slice (some ⟨w.heap.size, 0, none⟩) n n) w' ∧
      IOwn w' w.heap.size w'.heap.size 3 1 (some ⟨w.heap.size, 0, none⟩) n n (List.replicate n 0) ∧ Below w.heap.size w w' := by
  obtain ⟨i0, hi, hz0, hz1, hz2⟩ := info_parts tinfo
  obtain ⟨w', hrun, h1, h2⟩ := run_make_full (P := Try.prog) w w.heap.size 28 3 i0 (.int .i64 0) 1 Try.underlying28 hi hz0 hz1 .i64 .i64 n (by rw [hz2]; omega) (by unfold maxLen; omega) (Nat.le_refl _)
  refine ⟨w', hrun, IOwn.of_owns ?_, ⟨h2.os, h2.tape, h2.output, h2.size, fun k hk => h2.block k hk (by simp)⟩⟩
  have e : (madeCells (Value.int .i64 0).cells (n * 1)).toList = (List.replicate n 0).map (Value.int .i64) := by
    rw [Nat.mul_one, List.map_replicate]
    exact toList_madeCells_one _ n
  rw [e] at h1
  exact h1
/-- What a call that hands back a new slice of ints comes to. -/
def NewInts (w : World) (l : List Int) (e : Ending) (w' : World) : Prop :=
  ∃ A n cap, e = .returned (.slice A n cap) ∧ IOwn w' w.heap.size w'.heap.size 3 1 A n cap l ∧ Below w.heap.size w w'
/-- .. and a bool. -/
def NewIntsB (w : World) (l : List Int) (b : Bool) (e : Ending) (w' : World) : Prop :=
  ∃ A n cap, e = .returned (.tuple #[.slice A n cap, .bool b]) ∧ IOwn w' w.heap.size w'.heap.size 3 1 A n cap l ∧ Below w.heap.size w w'
theorem NewIntsB.none_ {w w' : World} {e : Ending} (he : e = .returned (.tuple #[.slice none 0 0, .bool false])) (hb : Below w.heap.size w w') : NewIntsB w [] false e w' := ⟨none, 0, 0, he, IOwn.none_ _ _ _ _ _, hb⟩
theorem append_int {w : World} {ops : Array Oper} {rest : List Oper} {o : Oper} {a : Act} {Q : Exit → Act → World → Prop} (hgd : o.guard = none) (sO x : Operand)
    (ho : o.op = .call { callee := .builtin .append, args := #[sO, x], argTypes := #[28, 28] }) {lo hh : Nat} {A : Option Addr} {n cap : Nat} {l : List Int} (hs : a.eval sO = .slice A n cap) (hown : IOwn w lo hh 3 1 A n cap l)
    (g : Nat) (v : Int) (hx : a.eval x = .slice (some ⟨g, 0, none⟩) 1 1) (hc : w.cell? ⟨g, 0, none⟩ = some (.int .i64 v)) (hn : n ≤ 1099511627776) (hlo : lo ≤ w.heap.size)
    (h : ∀ A' cap' w', IOwn w' lo w'.heap.size 3 1 A' (n + 1) cap' (l ++ [v]) → Below lo w w' → wpList Try.prog ops Q rest (a.put o.dst (.slice A' (n + 1) cap')) w') : wpList Try.prog ops Q (o :: rest) a w := by
  obtain ⟨i0, hi, hz0, hz1, hz2⟩ := info_parts tinfo
  refine append_row hgd sO x 28 ho 3 i0 (.int .i64 0) 1 8 Try.underlying28 hi hz0 hz1 hz2 rfl (by decide) hs hown g [v] hx rfl ?_ hn (by omega) hlo h
  intro j hj
  obtain rfl : j = 0 := by omega
  exact hc
theorem step_append_int {w : World} {ops : Array Oper} {o : Oper} {a : Act} {K : Act → World → Prop} {Q : Exit → Act → World → Prop} {E : Prop} (hgd : o.guard = none) (sO x : Operand)
    (ho : o.op = .call { callee := .builtin .append, args := #[sO, x], argTypes := #[28, 28] }) {lo hh : Nat} {A : Option Addr} {n cap : Nat} {l : List Int} (hs : a.eval sO = .slice A n cap) (hown : IOwn w lo hh 3 1 A n cap l)
    (g : Nat) (v : Int) (hx : a.eval x = .slice (some ⟨g, 0, none⟩) 1 1) (hc : w.cell? ⟨g, 0, none⟩ = some (.int .i64 v)) (hn : n ≤ 1099511627776) (hlo : lo ≤ w.heap.size)
    (h : ∀ A' cap' w', IOwn w' lo w'.heap.size 3 1 A' (n + 1) cap' (l ++ [v]) → Below lo w w' → K (a.put o.dst (.slice A' (n + 1) cap')) w') : if Region.wanted o (yielded ops a.tmps) = true then Oper.wp Try.prog o a w K Q else E := by
  obtain ⟨i0, hi, hz0, hz1, hz2⟩ := info_parts tinfo
  refine step_append_row hgd sO x 28 ho 3 i0 (.int .i64 0) 1 8 Try.underlying28 hi hz0 hz1 hz2 rfl (by decide) hs hown g [v] hx rfl ?_ hn (by omega) hlo h
  intro j hj
  obtain rfl : j = 0 := by omega
  exact hc
/-- The slice bears the marks from k on. -/
def Marked (w : World) (lo hi : Nat) (A : Option Addr) (n cap : Nat) (k : Int) (e : Ending) (w' : World) : Prop :=
  e = .returned (.int .i64 (k + n)) ∧ IOwn w' lo hi 3 1 A n cap (marks k n) ∧ Chg lo hi w w'
end Go.Proofs.Ytbhcmolahohmiaa
