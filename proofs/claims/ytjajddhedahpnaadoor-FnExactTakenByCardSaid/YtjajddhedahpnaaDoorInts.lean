/- The contracts of the laws' helpers on []int: copy, comparison, marking, looking at the marks. -/
import Derived.Test.YtjajddhedahpnaaDoorRows
import Derived.Test.YtjajddhedahpnaaDoorRow
namespace Go.Proofs.YtjajddhedahpnaaDoor
open Go.ChangeShapes Go.WideShapes Go.ChangeAt Go.RowKit
set_option linter.unusedVariables false
theorem tinfo : (Tryd.prog.info? 3).map (fun i => (i.zero, i.size, i.bytes)) = some (some (.int .i64 0), 1, 8) := by kernel_rfl
theorem make_ints (n : Nat) (hn : n ≤ 1048576) (w : World) :
    ∃ w', (Instr.makeSlice 42 (.int .i64 (n : Int)) (.int .i64 (n : Int))).run Tryd.prog w = .ok (.slice (some ⟨w.heap.size, 0, none⟩) n n) w' ∧
      IOwn w' w.heap.size w'.heap.size 3 1 (some ⟨w.heap.size, 0, none⟩) n n (List.replicate n 0) ∧ Below w.heap.size w w' := by
  obtain ⟨i0, hi, hz0, hz1, hz2⟩ := info_parts tinfo
  obtain ⟨w', hrun, h1, h2⟩ := run_make_full (P := Tryd.prog) w w.heap.size 42 3 i0 (.int .i64 0) 1 Tryd.underlying42 hi hz0 hz1 .i64 .i64 n (by rw [hz2]; omega) (by unfold maxLen; omega) (Nat.le_refl _)
  refine ⟨w', hrun, IOwn.of_owns ?_, ⟨h2.os, h2.tape, h2.output, h2.size, fun k hk => h2.block k hk (by simp)⟩⟩
  have e : (madeCells (Value.int .i64 0).cells (n * 1)).toList = (List.replicate n 0).map (Value.int .i64) := by
    rw [Nat.mul_one, List.map_replicate]
    exact toList_madeCells_one _ n
  rw [e] at h1
  exact h1
/-- What a call that hands back a new slice of ints comes to. -/
def NewInts (w : World) (l : List Int) (e : Ending) (w' : World) : Prop :=
  ∃ A n cap, e = .returned (.slice A n cap) ∧ IOwn w' w.heap.size w'.heap.size 3 1 A n cap l ∧ Below w.heap.size w w'
/-- .. and a bool. -/
def NewIntsB (w : World) (l : List Int) (b : Bool) (e : Ending) (w' : World) : Prop :=
  ∃ A n cap, e = .returned (.tuple #[.slice A n cap, .bool b]) ∧ IOwn w' w.heap.size w'.heap.size 3 1 A n cap l ∧ Below w.heap.size w w'
theorem NewIntsB.none_ {w w' : World} {e : Ending} (he : e = .returned (.tuple #[.slice none 0 0, .bool false])) (hb : Below w.heap.size w w') : NewIntsB w [] false e w' := ⟨none, 0, 0, he, IOwn.none_ _ _ _ _ _, hb⟩
theorem append_int {w : World} {ops : Array Oper} {rest : List Oper} {o : Oper} {a : Act} {Q : Exit → Act → World → Prop} (hgd : o.guard = none) (sO x : Operand)
    (ho : o.op = .call { callee := .builtin .append, args := #[sO, x], argTypes := #[42, 42] }) {lo hh : Nat} {A : Option Addr} {n cap : Nat} {l : List Int} (hs : a.eval sO = .slice A n cap) (hown : IOwn w lo hh 3 1 A n cap l)
    (g : Nat) (v : Int) (hx : a.eval x = .slice (some ⟨g, 0, none⟩) 1 1) (hc : w.cell? ⟨g, 0, none⟩ = some (.int .i64 v)) (hn : n ≤ 1099511627776) (hlo : lo ≤ w.heap.size)
    (h : ∀ A' cap' w', IOwn w' lo w'.heap.size 3 1 A' (n + 1) cap' (l ++ [v]) → Below lo w w' → wpList Tryd.prog ops Q rest (a.put o.dst (.slice A' (n + 1) cap')) w') : wpList Tryd.prog ops Q (o :: rest) a w := by
  obtain ⟨i0, hi, hz0, hz1, hz2⟩ := info_parts tinfo
  refine append_row hgd sO x 42 ho 3 i0 (.int .i64 0) 1 8 Tryd.underlying42 hi hz0 hz1 hz2 rfl (by decide) hs hown g [v] hx rfl ?_ hn (by omega) hlo h
  intro j hj
  obtain rfl : j = 0 := by omega
  exact hc
theorem step_append_int {w : World} {ops : Array Oper} {o : Oper} {a : Act} {K : Act → World → Prop} {Q : Exit → Act → World → Prop} {E : Prop} (hgd : o.guard = none) (sO x : Operand)
    (ho : o.op = .call { callee := .builtin .append, args := #[sO, x], argTypes := #[42, 42] }) {lo hh : Nat} {A : Option Addr} {n cap : Nat} {l : List Int} (hs : a.eval sO = .slice A n cap) (hown : IOwn w lo hh 3 1 A n cap l)
    (g : Nat) (v : Int) (hx : a.eval x = .slice (some ⟨g, 0, none⟩) 1 1) (hc : w.cell? ⟨g, 0, none⟩ = some (.int .i64 v)) (hn : n ≤ 1099511627776) (hlo : lo ≤ w.heap.size)
    (h : ∀ A' cap' w', IOwn w' lo w'.heap.size 3 1 A' (n + 1) cap' (l ++ [v]) → Below lo w w' → K (a.put o.dst (.slice A' (n + 1) cap')) w') : if Region.wanted o (yielded ops a.tmps) = true then Oper.wp Tryd.prog o a w K Q else E := by
  obtain ⟨i0, hi, hz0, hz1, hz2⟩ := info_parts tinfo
  refine step_append_row hgd sO x 42 ho 3 i0 (.int .i64 0) 1 8 Tryd.underlying42 hi hz0 hz1 hz2 rfl (by decide) hs hown g [v] hx rfl ?_ hn (by omega) hlo h
  intro j hj
  obtain rfl : j = 0 := by omega
  exact hc
theorem eqIntS_any (A B : Option Addr) (n cap cap' : Nat) (l : List Int) (w : World) (hl : l.length = n) (hn : n ≤ 9223372036854775807) (hr : IRow w A l) (hs : IRow w B l) :
    Calls Tryd.prog 16 #[.slice A n cap, .slice B n cap'] w fun e w' => e = .returned (.bool true) ∧ Below w.heap.size w w' := by
  have HL := Lib.hid hl
  have HR := Lib.hid hr
  have HS := Lib.hid hs
  clear hl hr hs
  go_enter Tryd.func16, Tryd.ntmps16
  go_wp2_with fail
  go_loopw [5] (fun i wr => ∃ k : Nat, k ≤ n ∧ i = .int .i64 k ∧ Below w.heap.size w wr) (fun i _ => n - (intOf i).toNat)
  case atStart => exact ⟨0, Nat.zero_le _, rfl, b0 _⟩
  case round =>
    obtain ⟨k, hk, rfl, hbw⟩ := hrel
    by_cases hlt : k < n
    · obtain ⟨g, off, rfl, hg, hc⟩ := (HR.out.below hbw).at_ (k := k) (by rw [HL.out]; exact hlt)
      have hck := hc k (by rw [HL.out]; exact hlt)
      obtain ⟨g', off', rfl, hg', hc'⟩ := (HS.out.below hbw).at_ (k := k) (by rw [HL.out]; exact hlt)
      have hck' := hc' k (by rw [HL.out]; exact hlt)
      have hi1 : ((k : Int)) < (n : Int) := by omega
      clear hc hc'
      go_wp2_with fail
      go_quiet (fail)
      go_wp2_with fail
      go_roundw
      case rel => exact ⟨k + 1, by omega, by go_num, bd hbw _⟩
      case measure => simp [intOf]; omega
    · obtain rfl : k = n := by omega
      go_wp2_with fail
      go_ret
      exact ⟨rfl, hbw⟩
/-- The slice bears the marks from k on. -/
def Marked (w : World) (lo hi : Nat) (A : Option Addr) (n cap : Nat) (k : Int) (e : Ending) (w' : World) : Prop :=
  e = .returned (.int .i64 (k + n)) ∧ IOwn w' lo hi 3 1 A n cap (marks k n) ∧ Chg lo hi w w'
theorem markIntS_any (A : Option Addr) (n cap : Nat) (l : List Int) (k : Int) (lo hi : Nat) (w : World) (ho : IOwn w lo hi 3 1 A n cap l) (hn : n ≤ 1099511627776) (k0 : 0 ≤ k) (k1 : k ≤ 1099511627776) :
    Calls Tryd.prog 20 #[.slice A n cap, .int .i64 k] w (Marked w lo hi A n cap k) := by
  have HL := Lib.hid (show l.length = n by simpa using ho.len)
  have HO := Lib.hid ho
  clear ho
  go_enter Tryd.func20, Tryd.ntmps20
  go_wp2_with fail
  go_loopw [1, 5] (fun m i wr => ∃ j : Nat, j ≤ n ∧ i = .int .i64 j ∧ m = .int .i64 (k + j) ∧ IOwn wr lo hi 3 1 A n cap (blend j (marks k n) l) ∧ Chg lo hi w wr) (fun _ i _ => n - (intOf i).toNat)
  case atStart => exact ⟨0, Nat.zero_le _, rfl, by simp, by rw [blend_zero]; exact HO.out, Chg.refl _ _ _⟩
  case round =>
    obtain ⟨j, hj, rfl, rfl, hown, hch⟩ := hrel
    have hML := marks_len k n
    by_cases hlt : j < n
    · have hbl := blend_len (l := marks k n) (m := l) (by rw [HL.out, hML]) (k := j) (by omega)
      obtain ⟨g, rfl, hg1, hg2, hg3, hc, hf⟩ := hown.at_ (k := j) (by rw [hbl, hML]; exact hlt)
      have hck := hc j (by rw [hbl, hML]; exact hlt)
      have hfk := hf j
      clear hc hf hbl hML
      have HOW := Lib.hid hown
      clear hown
      go_wp2_with fail
      go_roundw
      case rel =>
        refine ⟨j + 1, by omega, by go_num, by congr 1; omega, ?_, hch.setCell hg1 hg2 _⟩
        rw [← blend_set (by rw [HL.out, marks_len]) (by rw [marks_len]; exact hlt), marks_get hlt]
        exact HOW.out.set_ j _
      case measure => simp [intOf]; omega
    · obtain rfl : j = n := by omega
      have HOW := Lib.hid hown
      clear hown hML
      go_wp2_with fail
      go_ret
      refine ⟨rfl, ?_, hch⟩
      have h := HOW.out
      rw [blend_all (by rw [HL.out, marks_len]) (by rw [marks_len]; exact Nat.le_refl _)] at h
      exact h
theorem heldIntS_any (A : Option Addr) (n cap : Nat) (k : Int) (w : World) (hr : IRow w A (marks k n)) (hn : n ≤ 1099511627776) (k0 : 0 ≤ k) (k1 : k ≤ 1099511627776) :
    Calls Tryd.prog 21 #[.slice A n cap, .int .i64 k] w fun e w' => e = .returned (.int .i64 (k + n)) ∧ Below w.heap.size w w' := by
  have HR := Lib.hid hr
  clear hr
  go_enter Tryd.func21, Tryd.ntmps21
  go_wp2_with fail
  go_loopw [1, 5] (fun m i wr => ∃ j : Nat, j ≤ n ∧ i = .int .i64 j ∧ m = .int .i64 (k + j) ∧ Below w.heap.size w wr) (fun _ i _ => n - (intOf i).toNat)
  case atStart => exact ⟨0, Nat.zero_le _, rfl, by simp, b0 _⟩
  case round =>
    obtain ⟨j, hj, rfl, rfl, hbw⟩ := hrel
    by_cases hlt : j < n
    · obtain ⟨g, off, rfl, hg, hc⟩ := (HR.out.below hbw).at_ (k := j) (by rw [marks_len]; exact hlt)
      have hck := hc j (by rw [marks_len]; exact hlt)
      rw [marks_get hlt] at hck
      clear hc
      go_wp2_with fail
      go_roundw
      case rel => exact ⟨j + 1, by omega, by go_num, by congr 1; omega, hbw⟩
      case measure => simp [intOf]; omega
    · obtain rfl : j = n := by omega
      go_wp2_with fail
      go_ret
      exact ⟨rfl, hbw⟩
end Go.Proofs.YtjajddhedahpnaaDoor
