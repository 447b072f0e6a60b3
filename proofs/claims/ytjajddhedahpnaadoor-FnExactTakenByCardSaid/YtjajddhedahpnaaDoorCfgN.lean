/- The contracts of names and key words, on both sides. -/
import Derived.Test.YtjajddhedahpnaaDoorPk
import Derived.Test.YtjajddhedahpnaaDoorPacket
import Derived.Test.YtjajddhedahpnaaDoorBlk
namespace Go.Proofs.YtjajddhedahpnaaDoor
open Go.ChangeShapes Go.WideShapes Go.ChangeAt Go.RowKit
set_option linter.unusedVariables false
/-- The key words. -/
def kw : Nat → ByteArray
  | 0 => ⟨#[113, 100, 105, 115, 99]⟩
  | 1 => ⟨#[100, 101, 102, 97, 117, 108, 116]⟩
  | 2 => ⟨#[99, 108, 97, 115, 115]⟩
  | 3 => ⟨#[114, 97, 116, 101]⟩
  | 4 => ⟨#[99, 101, 105, 108]⟩
  | 5 => ⟨#[98, 117, 114, 115, 116]⟩
  | 6 => ⟨#[99, 98, 117, 114, 115, 116]⟩
  | 7 => ⟨#[112, 114, 105, 111]⟩
  | 8 => ⟨#[108, 105, 109, 105, 116]⟩
  | 9 => ⟨#[102, 105, 108, 116, 101, 114]⟩
  | 10 => ⟨#[115, 111, 117, 114, 99, 101]⟩
  | 11 => ⟨#[100, 101, 115, 116]⟩
  | 12 => ⟨#[112, 111, 114, 116]⟩
  | _ => ⟨#[109, 97, 114, 107]⟩
def isK (s : ByteArray) (j : Nat) : Bool := decide (kw j = s)
def keyB (s : ByteArray) : Bool := decide (0 ≤ fstI 14 (isK s))
def bat (s : ByteArray) (i : Nat) : Int := ((s.data.toList[i]?.getD 0).toNat : Int)
def sm (s : ByteArray) (i : Nat) : Bool := decide (97 ≤ bat s i ∧ bat s i ≤ 122)
def nmB (s : ByteArray) : Bool := (decide (1 ≤ s.size ∧ s.size ≤ 8) && allB s.size (sm s)) && !keyB s
theorem bat_b (s : ByteArray) (i : Nat) : 0 ≤ bat s i ∧ bat s i < 256 := by
  have := (s.data.toList[i]?.getD 0).toNat_lt
  unfold bat
  omega
theorem index_B {s : ByteArray} {i : Nat} (hi : i < s.size) (w : World) : (Instr.index 9 (.string s) (.int .i64 (i : Int))).run Tryd.prog w = .ok (.int .u8 (bat s i)) w := by
  rw [run_index_string w 9 s .i64 (i : Int) Tryd.underlying9, dif_pos ⟨by omega, by omega⟩]
  simp only [Int.toNat_natCast]
  have hl : i < s.data.toList.length := by simpa using hi
  have e : s[i]'hi = s.data.toList[i] := by
    simp
    rfl
  unfold bat
  rw [List.getElem?_eq_getElem hl, Option.getD_some, e]
theorem str_eq {a s : ByteArray} (h : a = s) : (a.toList == s.toList) = true := by subst h; exact beq_self_eq_true _
theorem str_ne {a s : ByteArray} (h : ¬ a = s) : (a.toList == s.toList) = false := by
  rw [beq_eq_false_iff_ne]
  intro e
  apply h
  simp only [ByteArray.toList_eq] at e
  exact ByteArray.ext (Array.toList_inj.1 e)
theorem isSmall_any (x : Int) (w : World) : Calls Tryd.prog 83 #[.int .u8 x] w fun e w' => e = .returned (.bool (decide (97 ≤ x ∧ x ≤ 122))) ∧ w = w' := by
  go_enter Tryd.func83, Tryd.ntmps83
  go_wp2
  all_goals
    go_ret
    exact ⟨ret_b (by rw [Bool.eq_iff_iff]; simp; try omega), rfl⟩
/-- The program's key words lie where they are read. -/
def KeysOk (w : World) : Prop := ∀ j, j < 14 → w.cell? ⟨0, j, none⟩ = some (.string (kw j))
theorem KeysOk.below {w w' : World} (h : KeysOk w) (hb : Below w.heap.size w w') : KeysOk w' := fun j hj => (bkeep hb 0 j (World.block_lt_of_cell? w _ (h j hj))).trans (h j hj)
theorem index_K {j : Nat} (hj : j < 14) (w : World) : (Instr.index 96 (.agg #[.string (kw 0), .string (kw 1), .string (kw 2), .string (kw 3), .string (kw 4), .string (kw 5), .string (kw 6), .string (kw 7), .string (kw 8), .string (kw 9), .string (kw 10), .string (kw 11), .string (kw 12), .string (kw 13)]) (.int .i64 (j : Int))).run Tryd.prog w = .ok (.string (kw j)) w := by
  obtain rfl | rfl | rfl | rfl | rfl | rfl | rfl | rfl | rfl | rfl | rfl | rfl | rfl | rfl : j = 0 ∨ j = 1 ∨ j = 2 ∨ j = 3 ∨ j = 4 ∨ j = 5 ∨ j = 6 ∨ j = 7 ∨ j = 8 ∨ j = 9 ∨ j = 10 ∨ j = 11 ∨ j = 12 ∨ j = 13 := by omega
  all_goals kernel_rfl
set_option maxHeartbeats 2000000 in
theorem implIsKey_any (s : ByteArray) (w : World) (hk : KeysOk w) : Calls Tryd.prog 84 #[.string s] w fun e w' => e = .returned (.bool (keyB s)) ∧ w = w' := by
  have k0 := hk 0 (by omega)
  have k1 := hk 1 (by omega)
  have k2 := hk 2 (by omega)
  have k3 := hk 3 (by omega)
  have k4 := hk 4 (by omega)
  have k5 := hk 5 (by omega)
  have k6 := hk 6 (by omega)
  have k7 := hk 7 (by omega)
  have k8 := hk 8 (by omega)
  have k9 := hk 9 (by omega)
  have k10 := hk 10 (by omega)
  have k11 := hk 11 (by omega)
  have k12 := hk 12 (by omega)
  have k13 := hk 13 (by omega)
  clear hk
  go_enter Tryd.func84, Tryd.ntmps84
  go_wp2_with fail
  go_loopw [6] (fun z wr => ∃ k : Nat, k ≤ 14 ∧ z = .int .i64 k ∧ (∀ j, j < k → isK s j = false) ∧ w = wr) (fun z _ => 14 - (intOf z).toNat)
  case atStart => exact ⟨0, by omega, rfl, none_zero, rfl⟩
  case round =>
    obtain ⟨k, hk, rfl, hall, rfl⟩ := hrel
    have HA := Lib.hid hall
    clear hall k0 k1 k2 k3 k4 k5 k6 k7 k8 k9 k10 k11 k12 k13
    by_cases hlt : k < 14
    · have hix := index_K hlt
      have hki : (k : Int) < 14 := by omega
      by_cases hh : kw k = s
      · have hR := Lib.hid (show keyB s = true from by unfold keyB; rw [fstI_hit hlt HA.out (show isK s k = true from decide_eq_true hh)]; exact decide_eq_true (by omega))
        have he := str_eq hh
        clear hh
        go_wp2_with fail
        go_ret
        exact ⟨by rw [hR.out]; rfl, rfl⟩
      · have hR := Lib.hid (none_succ HA.out (show isK s k = false from decide_eq_false hh))
        have he := str_ne hh
        go_wp2_with fail
        go_roundw
        case rel => exact ⟨k + 1, by omega, by go_num, hR.out, trivial⟩
        case measure => simp [intOf]; omega
    · obtain rfl : k = 14 := by omega
      have hR := Lib.hid (show keyB s = false from by unfold keyB; rw [fstI_none HA.out]; rfl)
      go_wp2_with fail
      go_ret
      exact ⟨by rw [hR.out]; rfl, rfl⟩
set_option maxHeartbeats 2000000 in
theorem hasS_any (s : ByteArray) (g : Nat) (w : World) (hc : ∀ j, j < 14 → w.cell? ⟨g, j, none⟩ = some (.string (kw j))) : Calls Tryd.prog 80 #[.slice (some ⟨g, 0, none⟩) 14 14, .string s] w fun e w' => e = .returned (.bool (keyB s)) ∧ w = w' := by
  have HC := Lib.hid hc
  clear hc
  go_enter Tryd.func80, Tryd.ntmps80
  go_wp2_with fail
  go_loopw [9] (fun z wr => ∃ k : Nat, k ≤ 14 ∧ z = .int .i64 k ∧ (∀ j, j < k → isK s j = false) ∧ w = wr) (fun z _ => 14 - (intOf z).toNat)
  case atStart => exact ⟨0, by omega, rfl, none_zero, rfl⟩
  case round =>
    obtain ⟨k, hk, rfl, hall, rfl⟩ := hrel
    have HA := Lib.hid hall
    clear hall
    by_cases hlt : k < 14
    · have hck := HC.out k hlt
      have hki : (k : Int) < 14 := by omega
      by_cases hh : kw k = s
      · have hR := Lib.hid (show keyB s = true from by unfold keyB; rw [fstI_hit hlt HA.out (show isK s k = true from decide_eq_true hh)]; exact decide_eq_true (by omega))
        have he := str_eq hh
        clear hh
        go_wp2_with fail
        go_ret
        exact ⟨by rw [hR.out]; rfl, rfl⟩
      · have hR := Lib.hid (none_succ HA.out (show isK s k = false from decide_eq_false hh))
        have he := str_ne hh
        go_wp2_with fail
        go_roundw
        case rel => exact ⟨k + 1, by omega, by go_num, hR.out, trivial⟩
        case measure => simp [intOf]; omega
    · obtain rfl : k = 14 := by omega
      have hR := Lib.hid (show keyB s = false from by unfold keyB; rw [fstI_none HA.out]; rfl)
      go_wp2_with fail
      go_ret
      exact ⟨by rw [hR.out]; rfl, rfl⟩
theorem tkKeys_any (w : World) : Calls Tryd.prog 81 #[] w fun e w' => e = .returned (.slice (some ⟨w.heap.size, 0, none⟩) 14 14) ∧ (∀ j, j < 14 → w'.cell? ⟨w.heap.size, j, none⟩ = some (.string (kw j))) ∧ Below w.heap.size w w' := by
  go_enter Tryd.func81, Tryd.ntmps81
  go_wp2_with fail
  go_ret
  refine ⟨rfl, fun j hj => ?_, ba (b0 w) _⟩
  obtain rfl | rfl | rfl | rfl | rfl | rfl | rfl | rfl | rfl | rfl | rfl | rfl | rfl | rfl : j = 0 ∨ j = 1 ∨ j = 2 ∨ j = 3 ∨ j = 4 ∨ j = 5 ∨ j = 6 ∨ j = 7 ∨ j = 8 ∨ j = 9 ∨ j = 10 ∨ j = 11 ∨ j = 12 ∨ j = 13 := by omega
  all_goals exact (Bk.new w _ _).cell _
theorem specIsKey_any (s : ByteArray) (w : World) : Calls Tryd.prog 59 #[.string s] w fun e w' => e = .returned (.bool (keyB s)) ∧ Below w.heap.size w w' := by
  go_enter Tryd.func59, Tryd.ntmps59
  go_wp2_with fail
  refine (tkKeys_any _).mono ?_
  rintro e w1 ⟨rfl, hc, hb⟩
  have HC := Lib.hid (hasS_any s _ _ hc)
  clear hc
  go_wp2_with fail
  refine HC.out.mono ?_
  rintro e w2 ⟨rfl, rfl⟩
  go_wp2_with fail
  go_ret
  exact ⟨rfl, hb⟩
theorem nmB_no {s : ByteArray} {k : Nat} (hk : k < s.size) (h : sm s k = false) : nmB s = false := by unfold nmB; rw [allB_no hk h, Bool.and_false]; rfl
theorem nmB_len {s : ByteArray} (h : decide (1 ≤ s.size ∧ s.size ≤ 8) = false) : nmB s = false := by unfold nmB; rw [h]; rfl
theorem nmB_yes {s : ByteArray} (h : ∀ k, k < s.size → sm s k = true) (hl : 1 ≤ s.size ∧ s.size ≤ 8) : nmB s = !keyB s := by unfold nmB; rw [allB_yes h, decide_eq_true hl]; rfl
set_option maxHeartbeats 2000000 in
theorem isName_any (s : ByteArray) (w : World) (hk : KeysOk w) : Calls Tryd.prog 65 #[.string s] w fun e w' => e = .returned (.bool (nmB s)) ∧ w = w' := by
  have HK := Lib.hid (implIsKey_any s w hk)
  clear hk
  by_cases hsz : 1 ≤ s.size ∧ s.size ≤ 8
  rotate_left
  · have hR := Lib.hid (nmB_len (decide_eq_false hsz))
    by_cases h1 : (s.size : Int) < 1
    · go_enter Tryd.func65, Tryd.ntmps65
      go_wp2_with fail
      go_ret
      exact ⟨by rw [hR.out]; rfl, rfl⟩
    · have h2 : (8 : Int) < (s.size : Int) := by omega
      go_enter Tryd.func65, Tryd.ntmps65
      go_wp2_with fail
      go_ret
      exact ⟨by rw [hR.out]; rfl, rfl⟩
  have h1 : ¬ (s.size : Int) < 1 := by omega
  have h2 : ¬ (8 : Int) < (s.size : Int) := by omega
  have HSZ := Lib.hid hsz
  clear hsz
  go_enter Tryd.func65, Tryd.ntmps65
  go_wp2_with fail
  go_loopw [3] (fun z wr => ∃ k : Nat, k ≤ s.size ∧ z = .int .i64 k ∧ (∀ j, j < k → sm s j = true) ∧ w = wr) (fun z _ => s.size - (intOf z).toNat)
  case atStart => exact ⟨0, by omega, rfl, all_zero, rfl⟩
  case round =>
    obtain ⟨k, hkk, rfl, hall, rfl⟩ := hrel
    have HA := Lib.hid hall
    clear hall
    by_cases hlt : k < s.size
    · have hki : (k : Int) < (s.size : Int) := by omega
      have hix := index_B hlt
      have hw5 : IntKind.i64.wrap ((k : Int) + 1) = (k : Int) + 1 := IntWalk.i64_in _ (by have := HSZ.out; omega)
      have HS := Lib.hid (fun W => isSmall_any (bat s k) W)
      rcases hh : sm s k with _ | _
      · have hR := Lib.hid (nmB_no hlt hh)
        have hd : decide (97 ≤ bat s k ∧ bat s k ≤ 122) = false := hh
        rw [hd] at HS
        clear hh hd
        generalize bat s k = x at *
        go_wp2_with fail
        refine (HS.out _).mono ?_
        rintro e w1 ⟨rfl, rfl⟩
        go_wp2_with fail
        go_ret
        exact ⟨by rw [hR.out]; rfl, rfl⟩
      · have hR := Lib.hid (all_succ HA.out hh)
        have hd : decide (97 ≤ bat s k ∧ bat s k ≤ 122) = true := hh
        rw [hd] at HS
        clear hh hd
        generalize bat s k = x at *
        go_wp2_with fail
        refine (HS.out _).mono ?_
        rintro e w1 ⟨rfl, rfl⟩
        go_wp2_with fail
        go_roundw
        case rel => exact ⟨k + 1, by omega, by go_num, hR.out, trivial⟩
        case measure => simp [intOf]; omega
    · obtain rfl : k = s.size := by omega
      have hki : ¬ (s.size : Int) < (s.size : Int) := by omega
      have hR := Lib.hid (nmB_yes HA.out HSZ.out)
      go_wp2_with fail
      refine HK.out.mono ?_
      rintro e w1 ⟨rfl, rfl⟩
      go_wp2_with fail
      go_ret
      exact ⟨ret_b hR.out.symm, rfl⟩
set_option maxHeartbeats 2000000 in
theorem cfName_any (s : ByteArray) (w : World) (hs : s.size ≤ 1048576) : Calls Tryd.prog 42 #[.string s] w fun e w' => e = .returned (.bool (nmB s)) ∧ Below w.heap.size w w' := by
  have HS := Lib.hid hs
  clear hs
  go_enter Tryd.func42, Tryd.ntmps42
  go_wp2_with fail
  go_loopw [3] (fun z wr => ∃ k : Nat, k ≤ s.size ∧ z = .int .i64 k ∧ (∀ j, j < k → sm s j = true) ∧ w = wr) (fun z _ => s.size - (intOf z).toNat)
  case atStart => exact ⟨0, by omega, rfl, all_zero, rfl⟩
  case round =>
    obtain ⟨k, hkk, rfl, hall, rfl⟩ := hrel
    have HA := Lib.hid hall
    clear hall
    by_cases hlt : k < s.size
    · have hki : (k : Int) < (s.size : Int) := by omega
      have hix := index_B hlt
      have hw5 : IntKind.i64.wrap ((k : Int) + 1) = (k : Int) + 1 := IntWalk.i64_in _ (by have := HS.out; omega)
      rcases hh : sm s k with _ | _
      · have hR := Lib.hid (nmB_no hlt hh)
        have hd := of_decide_eq_false hh
        clear hh
        generalize bat s k = x at *
        by_cases h97 : x < 97
        · clear hd
          go_wp2_with fail
          go_ret
          exact ⟨by rw [hR.out]; rfl, b0 w⟩
        · have h122 : 122 < x := by omega
          clear hd
          go_wp2_with fail
          go_ret
          exact ⟨by rw [hR.out]; rfl, b0 w⟩
      · have hR := Lib.hid (all_succ HA.out hh)
        have hd := of_decide_eq_true hh
        clear hh
        generalize bat s k = x at *
        have h97 : ¬ x < 97 := by omega
        have h122 : ¬ 122 < x := by omega
        clear hd
        go_wp2_with fail
        go_roundw
        case rel => exact ⟨k + 1, by omega, by go_num, hR.out, trivial⟩
        case measure => simp [intOf]; omega
    · obtain rfl : k = s.size := by omega
      have hki : ¬ (s.size : Int) < (s.size : Int) := by omega
      by_cases hl : 1 ≤ s.size ∧ s.size ≤ 8
      · have hR := Lib.hid (nmB_yes HA.out hl)
        have hd : decide ((1 : Int) ≤ (s.size : Int) ∧ (s.size : Int) ≤ 8) = true := decide_eq_true (by omega)
        have HI := Lib.hid (fun W => (hd ▸ l1In_any (s.size : Int) 1 8 W : Calls Tryd.prog 43 #[.int .i64 (s.size : Int), .int .i64 1, .int .i64 8] W fun e w' => e = .returned (.bool true) ∧ W = w'))
        clear hd hl
        go_wp2_with fail
        refine (HI.out _).mono ?_
        rintro e w1 ⟨rfl, rfl⟩
        go_wp2_with fail
        refine (specIsKey_any s _).mono ?_
        rintro e w2 ⟨rfl, hb⟩
        go_wp2_with fail
        go_ret
        exact ⟨ret_b hR.out.symm, hb⟩
      · have hR := Lib.hid (nmB_len (decide_eq_false hl))
        have hd : decide ((1 : Int) ≤ (s.size : Int) ∧ (s.size : Int) ≤ 8) = false := decide_eq_false (by omega)
        have HI := Lib.hid (fun W => (hd ▸ l1In_any (s.size : Int) 1 8 W : Calls Tryd.prog 43 #[.int .i64 (s.size : Int), .int .i64 1, .int .i64 8] W fun e w' => e = .returned (.bool false) ∧ W = w'))
        clear hd hl
        go_wp2_with fail
        refine (HI.out _).mono ?_
        rintro e w1 ⟨rfl, rfl⟩
        go_wp2_with fail
        go_ret
        exact ⟨by rw [hR.out]; rfl, b0 w⟩
end Go.Proofs.YtjajddhedahpnaaDoor
