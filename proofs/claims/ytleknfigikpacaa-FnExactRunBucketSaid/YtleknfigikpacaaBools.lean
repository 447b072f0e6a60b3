/- The contracts of the laws' helpers on []bool: comparison, marking, looking at the marks; make and append. -/
import Derived.Test.YtleknfigikpacaaRows
import Derived.Test.YtleknfigikpacaaRowB
namespace Go.Proofs.Ytleknfigikpacaa
open Go.ChangeShapes Go.WideShapes Go.ChangeAt Go.RowKit
set_option linter.unusedVariables false
theorem tinfoB : (Try.prog.info? 4).map (fun i => (i.zero, i.size, i.bytes)) = some (some (.bool false), 1, 1) := by kernel_rfl
theorem make_bools (n : Nat) (hn : n ≤ 1048576) (w : World) :
    ∃ w', (Instr.makeSlice 50 (.int .i64 (n : Int)) (.int .i64 (n : Int))).run Try.prog w = .ok (.slice (some ⟨w.heap.size, 0, none⟩) n n) w' ∧
      BOwn w' w.heap.size w'.heap.size 4 1 (some ⟨w.heap.size, 0, none⟩) n n (List.replicate n false) ∧ Below w.heap.size w w' := by
  obtain ⟨i0, hi, hz0, hz1, hz2⟩ := info_parts tinfoB
  obtain ⟨w', hrun, h1, h2⟩ := run_make_full (P := Try.prog) w w.heap.size 50 4 i0 (.bool false) 1 Try.underlying50 hi hz0 hz1 .i64 .i64 n (by rw [hz2]; omega) (by unfold maxLen; omega) (Nat.le_refl _)
  refine ⟨w', hrun, BOwn.of_owns ?_, ⟨h2.os, h2.tape, h2.output, h2.size, fun k hk => h2.block k hk (by simp)⟩⟩
  have e : (madeCells (Value.bool false).cells (n * 1)).toList = (List.replicate n false).map (Value.bool) := by
    rw [Nat.mul_one, List.map_replicate]
    exact toList_madeCells_one _ n
  rw [e] at h1
  exact h1
theorem append_bool {w : World} {ops : Array Oper} {rest : List Oper} {o : Oper} {a : Act} {Q : Exit → Act → World → Prop} (hgd : o.guard = none) (sO x : Operand)
    (ho : o.op = .call { callee := .builtin .append, args := #[sO, x], argTypes := #[50, 50] }) {lo hh : Nat} {A : Option Addr} {n cap : Nat} {l : List Bool} (hs : a.eval sO = .slice A n cap) (hown : BOwn w lo hh 4 1 A n cap l)
    (g : Nat) (v : Bool) (hx : a.eval x = .slice (some ⟨g, 0, none⟩) 1 1) (hc : w.cell? ⟨g, 0, none⟩ = some (.bool v)) (hn : n ≤ 1099511627776) (hlo : lo ≤ w.heap.size)
    (h : ∀ A' cap' w', BOwn w' lo w'.heap.size 4 1 A' (n + 1) cap' (l ++ [v]) → Below lo w w' → wpList Try.prog ops Q rest (a.put o.dst (.slice A' (n + 1) cap')) w') : wpList Try.prog ops Q (o :: rest) a w := by
  obtain ⟨i0, hi, hz0, hz1, hz2⟩ := info_parts tinfoB
  refine append_rowB hgd sO x 50 ho 4 i0 (.bool false) 1 1 Try.underlying50 hi hz0 hz1 hz2 rfl (by decide) hs hown g [v] hx rfl ?_ hn (by omega) hlo h
  intro j hj
  obtain rfl : j = 0 := by omega
  exact hc
theorem eqBoolS_any (A B : Option Addr) (n cap cap' : Nat) (l : List Bool) (w : World) (hl : l.length = n) (hn : n ≤ 9223372036854775807) (hr : BRow w A l) (hs : BRow w B l) :
    Calls Try.prog 41 #[.slice A n cap, .slice B n cap'] w fun e w' => e = .returned (.bool true) ∧ Below w.heap.size w w' := by
  have HL := Lib.hid hl
  have HR := Lib.hid hr
  have HS := Lib.hid hs
  clear hl hr hs
  go_enter Try.func41, Try.ntmps41
  go_wp2_with fail
  go_loopw [5] (fun i wr => ∃ k : Nat, k ≤ n ∧ i = .int .i64 k ∧ Below w.heap.size w wr) (fun i _ => n - (intOf i).toNat)
  case atStart => exact ⟨0, Nat.zero_le _, rfl, b0 _⟩
  case round =>
    obtain ⟨k, hk, rfl, hbw⟩ := hrel
    by_cases hlt : k < n
    · obtain ⟨g, off, rfl, hg, hc⟩ := (HR.out.below hbw).at_ (k := k) (by rw [HL.out]; exact hlt)
      have hck := hc k (by rw [HL.out]; exact hlt)
      obtain ⟨g', off', rfl, hg', hc'⟩ := (HS.out.below hbw).at_ (k := k) (by rw [HL.out]; exact hlt)
      have hck' := hc' k (by rw [HL.out]; exact hlt)
      have hi1 : ((k : Int)) < (n : Int) := by omega
      clear hc hc'
      generalize l[k]?.getD false = v at *
      go_wp2_with fail
      go_quiet (fail)
      go_wp2_with fail
      go_roundw
      case rel => exact ⟨k + 1, by omega, by go_num, bd hbw _⟩
      case measure => simp [intOf]; omega
    · obtain rfl : k = n := by omega
      go_wp2_with fail
      go_ret
      exact ⟨rfl, hbw⟩
def mkB (k : Int) : Bool := decide (k % 3 = 0)
def marksB (k : Int) (n : Nat) : List Bool := (List.range n).map fun (i : Nat) => mkB (k + i)
theorem marksB_len (k : Int) (n : Nat) : (marksB k n).length = n := by simp [marksB]
theorem marksB_get {k : Int} {n i : Nat} (h : i < n) : (marksB k n)[i]?.getD false = mkB (k + i) := by
  simp [marksB, List.getElem?_map, List.getElem?_range h]
/-- The slice bears the marks from k on. -/
def MarkedB (w : World) (lo hi : Nat) (A : Option Addr) (n cap : Nat) (k : Int) (e : Ending) (w' : World) : Prop :=
  e = .returned (.int .i64 (k + n)) ∧ BOwn w' lo hi 4 1 A n cap (marksB k n) ∧ Chg lo hi w w'
theorem markBoolS_any (A : Option Addr) (n cap : Nat) (l : List Bool) (k : Int) (lo hi : Nat) (w : World) (ho : BOwn w lo hi 4 1 A n cap l) (hn : n ≤ 1099511627776) (k0 : 0 ≤ k) (k1 : k ≤ 1099511627776) :
    Calls Try.prog 43 #[.slice A n cap, .int .i64 k] w (MarkedB w lo hi A n cap k) := by
  have HL := Lib.hid (show l.length = n by simpa using ho.len)
  have HO := Lib.hid ho
  clear ho
  go_enter Try.func43, Try.ntmps43
  go_wp2_with fail
  go_loopw [1, 5] (fun m i wr => ∃ j : Nat, j ≤ n ∧ i = .int .i64 j ∧ m = .int .i64 (k + j) ∧ BOwn wr lo hi 4 1 A n cap (blendB j (marksB k n) l) ∧ Chg lo hi w wr) (fun _ i _ => n - (intOf i).toNat)
  case atStart => exact ⟨0, Nat.zero_le _, rfl, by simp, by rw [blendB_zero]; exact HO.out, Chg.refl _ _ _⟩
  case round =>
    obtain ⟨j, hj, rfl, rfl, hown, hch⟩ := hrel
    have hML := marksB_len k n
    by_cases hlt : j < n
    · have hbl := blendB_len (l := marksB k n) (m := l) (by rw [HL.out, hML]) (k := j) (by omega)
      obtain ⟨g, rfl, hg1, hg2, hg3, hc, hf⟩ := hown.at_ (k := j) (by rw [hbl, hML]; exact hlt)
      have hck := hc j (by rw [hbl, hML]; exact hlt)
      have hfk := hf j
      clear hc hf hbl hML
      have HOW := Lib.hid hown
      clear hown
      rcases hmk : mkB (k + j) with _ | _
      · have hmk' : ((k + (j : Int)) % 3 == 0) = false := hmk
        go_wp2_with fail
        go_roundw
        case rel =>
          refine ⟨j + 1, by omega, by go_num, by congr 1; omega, ?_, hch.setCell hg1 hg2 _⟩
          rw [← blendB_set (by rw [HL.out, marksB_len]) (by rw [marksB_len]; exact hlt), marksB_get hlt, hmk]
          exact HOW.out.set_ j _
        case measure => simp [intOf]; omega
      · have hmk' : ((k + (j : Int)) % 3 == 0) = true := hmk
        go_wp2_with fail
        go_roundw
        case rel =>
          refine ⟨j + 1, by omega, by go_num, by congr 1; omega, ?_, hch.setCell hg1 hg2 _⟩
          rw [← blendB_set (by rw [HL.out, marksB_len]) (by rw [marksB_len]; exact hlt), marksB_get hlt, hmk]
          exact HOW.out.set_ j _
        case measure => simp [intOf]; omega
    · obtain rfl : j = n := by omega
      have HOW := Lib.hid hown
      clear hown hML
      go_wp2_with fail
      go_ret
      refine ⟨rfl, ?_, hch⟩
      have h := HOW.out
      rw [blendB_all (by rw [HL.out, marksB_len]) (by rw [marksB_len]; exact Nat.le_refl _)] at h
      exact h
theorem heldBoolS_any (A : Option Addr) (n cap : Nat) (k : Int) (w : World) (hr : BRow w A (marksB k n)) (hn : n ≤ 1099511627776) (k0 : 0 ≤ k) (k1 : k ≤ 1099511627776) :
    Calls Try.prog 44 #[.slice A n cap, .int .i64 k] w fun e w' => e = .returned (.int .i64 (k + n)) ∧ Below w.heap.size w w' := by
  have HR := Lib.hid hr
  clear hr
  go_enter Try.func44, Try.ntmps44
  go_wp2_with fail
  go_loopw [1, 5] (fun m i wr => ∃ j : Nat, j ≤ n ∧ i = .int .i64 j ∧ m = .int .i64 (k + j) ∧ Below w.heap.size w wr) (fun _ i _ => n - (intOf i).toNat)
  case atStart => exact ⟨0, Nat.zero_le _, rfl, by simp, b0 _⟩
  case round =>
    obtain ⟨j, hj, rfl, rfl, hbw⟩ := hrel
    by_cases hlt : j < n
    · obtain ⟨g, off, rfl, hg, hc⟩ := (HR.out.below hbw).at_ (k := j) (by rw [marksB_len]; exact hlt)
      have hck := hc j (by rw [marksB_len]; exact hlt)
      rw [marksB_get hlt] at hck
      clear hc
      rcases hmk : mkB (k + j) with _ | _
      · rw [hmk] at hck
        have hmk' : ((k + (j : Int)) % 3 == 0) = false := hmk
        clear hmk
        go_wp2_with fail
        go_roundw
        case rel => exact ⟨j + 1, by omega, by go_num, by congr 1; omega, hbw⟩
        case measure => simp [intOf]; omega
      · rw [hmk] at hck
        have hmk' : ((k + (j : Int)) % 3 == 0) = true := hmk
        clear hmk
        go_wp2_with fail
        go_roundw
        case rel => exact ⟨j + 1, by omega, by go_num, by congr 1; omega, hbw⟩
        case measure => simp [intOf]; omega
    · obtain rfl : j = n := by omega
      go_wp2_with fail
      go_ret
      exact ⟨rfl, hbw⟩
end Go.Proofs.Ytleknfigikpacaa
