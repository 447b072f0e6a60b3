/- Rows of strings that a call owns: append, make. No condition. -/
import Derived.Test.YtmkmcobomlchfaaDoorPtSpec
import Derived.Lib.AppendIntMem
namespace Go.Proofs.YtmkmcobomlchfaaDoor
open Go.ChangeShapes Go.WideShapes Go.ChangeAt Go.RowKit
set_option linter.unusedVariables false
theorem sinfo : (Tryd.prog.info? 9).map (fun i => (i.zero, i.size, i.bytes)) = some (some (.string ByteArray.empty), 1, 16) := by kernel_rfl
/-- The call owns the strings. -/
def SOwn (w : World) (lo : Nat) (A : Option Addr) (n cap : Nat) (l : List ByteArray) : Prop := w.ownsRow lo 9 1 (.slice A n cap) n (l.map Value.string)
theorem append_str {w : World} {ops : Array Oper} {rest : List Oper} {o : Oper} {a : Act} {Q : Exit → Act → World → Prop} (hgd : o.guard = none) (sO x : Operand)
    (ho : o.op = .call { callee := .builtin .append, args := #[sO, x], argTypes := #[35, 35] }) {lo : Nat} {A : Option Addr} {n cap : Nat} {l : List ByteArray} (hs : a.eval sO = .slice A n cap) (hown : SOwn w lo A n cap l)
    (g : Nat) (v : ByteArray) (hx : a.eval x = .slice (some ⟨g, 0, none⟩) 1 1) (hc : w.cell? ⟨g, 0, none⟩ = some (.string v)) (hn : n ≤ 1048576) (hlo : lo ≤ w.heap.size)
    (h : ∀ A' cap' w', SOwn w' lo A' (n + 1) cap' (l ++ [v]) → Below lo w w' → wpList Tryd.prog ops Q rest (a.put o.dst (.slice A' (n + 1) cap')) w') : wpList Tryd.prog ops Q (o :: rest) a w := by
  obtain ⟨i0, hi, hz0, hz1, hz2⟩ := info_parts sinfo
  refine wpList_plain hgd fun _ hK => wp_append_own w sO x 35 ho lo 9 i0 (.string ByteArray.empty) 1 16 Tryd.underlying35 hi hz0 hz1 hz2 rfl (by decide) _ n _ hs hown ⟨g, 0, none⟩ 1 1 [.string v] hx rfl ?_ ?_ ?_ ?_ hlo ?_
  · intro j u hu
    rw [add_plain, Nat.zero_add]
    have hj : j < 1 := by have := (List.getElem?_eq_some_iff.1 hu).1; simpa using this
    obtain rfl : j = 0 := by omega
    rw [hc]
    simpa using hu
  · intro u hu
    simp at hu
    subst hu
    rfl
  · unfold maxLen; omega
  · omega
  · intro v' w' h1 h2 _
    rw [show l.map Value.string ++ [Value.string v] = (l ++ [v]).map Value.string by simp] at h1
    rcases h1.2 with ⟨_, h0⟩ | ⟨g', cap', cur, rfl, _⟩
    · omega
    · refine hK _ _ (h _ _ _ h1 ⟨h2.os, h2.tape, h2.output, h2.size, fun k hk => h2.block k (by omega) (fun e' => ?_)⟩)
      have := (hown.lt k e'.symm).1
      omega
theorem make_strs (n : Nat) (hn : n ≤ 1048576) (w : World) :
    ∃ w', (Instr.makeSlice 35 (.int .i64 0) (.int .i64 (n : Int))).run Tryd.prog w = .ok (.slice (some ⟨w.heap.size, 0, none⟩) 0 n) w' ∧ SOwn w' w.heap.size (some ⟨w.heap.size, 0, none⟩) 0 n [] ∧ Below w.heap.size w w' := by
  obtain ⟨i0, hi, hz0, hz1, hz2⟩ := info_parts sinfo
  obtain ⟨w', hrun, h1, h2⟩ := run_make_own (P := Tryd.prog) w w.heap.size 35 9 i0 (.string ByteArray.empty) 1 Tryd.underlying35 hi hz0 hz1 .i64 .i64 n (by rw [hz2]; omega) (by unfold maxLen; omega) (Nat.le_refl _)
  exact ⟨w', hrun, h1, ⟨h2.os, h2.tape, h2.output, h2.size, fun k hk => h2.block k hk (by simp)⟩⟩
theorem SOwn.nil (w : World) (lo : Nat) : SOwn w lo none 0 0 [] := World.ownsRow_nil w lo 9 1
theorem SOwn.old {w w' : World} {lo : Nat} {A : Option Addr} {n cap : Nat} {l : List ByteArray} (h : SOwn w lo A n cap l) (hb : Below w.heap.size w w') : SOwn w' lo A n cap l :=
  World.ownsRow.kept h (row := none) ⟨hb.os, hb.tape, hb.output, hb.size, fun k h1 _ => hb.block k h1⟩ (by rcases h : (Value.slice A n cap).ownBlock with _ | q <;> simp)
theorem SOwn.cells {w : World} {lo : Nat} {A : Option Addr} {n cap : Nat} {l : List ByteArray} (h : SOwn w lo A n cap l) (hn : 0 < n) : ∃ g, A = some ⟨g, 0, none⟩ ∧ lo ≤ g ∧ g < w.heap.size ∧ ∀ j x, l[j]? = some x → w.cell? ⟨g, j, none⟩ = some (.string x) := by
  rcases h.2 with ⟨_, h0⟩ | ⟨gg, cap', cur, hv, hlo, hgg, hcap, _⟩
  · omega
  · refine ⟨gg, by injection hv, hlo, (Array.getElem?_eq_some_iff.1 hgg).1, fun j x hj => ?_⟩
    obtain rfl : A = some ⟨gg, 0, none⟩ := by injection hv
    have hl := h.1
    have hjl := (List.getElem?_eq_some_iff.1 hj).1
    rw [List.length_map] at hl
    have e := h.cellAt j (by omega)
    rw [e, List.getElem?_map, hj]
    rfl
end Go.Proofs.YtmkmcobomlchfaaDoor
