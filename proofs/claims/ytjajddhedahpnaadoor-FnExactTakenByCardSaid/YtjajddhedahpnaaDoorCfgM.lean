/- The plain law of counting packets by their first filters, and the contract of what looks at each packet. -/
import Derived.Test.YtjajddhedahpnaaDoorCfgK
import Derived.Test.YtjajddhedahpnaaDoorInts
namespace Go.Proofs.YtjajddhedahpnaaDoor
open Go.ChangeShapes Go.WideShapes Go.ChangeAt Go.RowKit
set_option linter.unusedVariables false
/-- The place at which a packet counts. -/
def slt (F : List Fi) (p : Pk) : Nat := if ffst F p < 0 then F.length else (ffst F p).toNat
def stp (F : List Fi) (l : List Int) (p : Pk) : List Int := l.set (slt F p) (l[slt F p]?.getD 0 + 1)
def cntTo (F : List Fi) (P : List Pk) (k : Nat) : List Int := (P.take k).foldl (stp F) (List.replicate (F.length + 1) 0)
theorem cntTo_zero (F : List Fi) (P : List Pk) : cntTo F P 0 = List.replicate (F.length + 1) 0 := rfl
theorem cntTo_succ {F : List Fi} {P : List Pk} {k : Nat} {p : Pk} (h : P[k]? = some p) : cntTo F P (k + 1) = stp F (cntTo F P k) p := by
  obtain ⟨hk, hp⟩ := List.getElem?_eq_some_iff.1 h
  unfold cntTo
  rw [List.take_succ_eq_append_getElem hk, hp, List.foldl_append]
  rfl
theorem cntTo_len (F : List Fi) (P : List Pk) : ∀ k, (cntTo F P k).length = F.length + 1
  | 0 => by simp [cntTo]
  | k + 1 => by
    rcases h : P[k]? with _ | p
    · have h1 : P.length ≤ k := List.getElem?_eq_none_iff.1 h
      have e : cntTo F P (k + 1) = cntTo F P k := by unfold cntTo; rw [List.take_of_length_le h1, List.take_of_length_le (by omega)]
      rw [e, cntTo_len F P k]
    · rw [cntTo_succ h, stp, List.length_set, cntTo_len F P k]
theorem cntTo_b (F : List Fi) (P : List Pk) : ∀ (k j : Nat), 0 ≤ (cntTo F P k)[j]?.getD 0 ∧ (cntTo F P k)[j]?.getD 0 ≤ k
  | 0, j => by
    rw [cntTo_zero, List.getElem?_replicate]
    split <;> simp
  | k + 1, j => by
    have ih := cntTo_b F P k
    rcases h : P[k]? with _ | p
    · have h1 : P.length ≤ k := List.getElem?_eq_none_iff.1 h
      have e : cntTo F P (k + 1) = cntTo F P k := by unfold cntTo; rw [List.take_of_length_le h1, List.take_of_length_le (by omega)]
      rw [e]
      have := ih j
      omega
    · rw [cntTo_succ h, stp, List.getElem?_set]
      have h1 := ih j
      have h2 := ih (slt F p)
      split
      · split
        · simp only [Option.getD_some]
          omega
        · simp
          omega
      · omega
theorem slt_lt (F : List Fi) (p : Pk) : slt F p < F.length + 1 := by
  have h := ffst_b F p
  unfold slt
  split <;> omega
def pksAll (P : List Pk) : Bool := allB P.length (fun k => (pat P k).ok) && decide (P.length ≤ 60)
def tbR (nm : ByteArray) (L : List Cl) (F : List Fi) (df : Int) (P : List Pk) : List Int × Bool := if cg (nmB nm) L F df = true ∧ pksAll P = true then (cntTo F P P.length, true) else ([], false)
def TbE (w : World) (r : List Int × Bool) (e : Ending) (w' : World) : Prop := ∃ (A : Option Addr) (n cap : Nat), e = .returned (.tuple #[.slice A n cap, .bool r.2]) ∧ IOwn w' w.heap.size w'.heap.size 3 1 A n cap r.1 ∧ Below w.heap.size w w'
theorem TbE_no {w w' : World} {r : List Int × Bool} {e : Ending} (h : r = ([], false)) (he : e = .returned (.tuple #[.slice none 0 0, .bool false])) (hb : Below w.heap.size w w') : TbE w r e w' := by
  subst h
  exact ⟨none, 0, 0, he, IOwn.none_ _ _ _ _ _, hb⟩
theorem TbE_yes {w w' : World} {r : List Int × Bool} {l : List Int} {A : Option Addr} {n cap : Nat} {e : Ending} (h : r = (l, true)) (he : e = .returned (.tuple #[.slice A n cap, .bool true])) (ho : IOwn w' w.heap.size w'.heap.size 3 1 A n cap l) (hb : Below w.heap.size w w') : TbE w r e w' := by
  subst h
  exact ⟨A, n, cap, he, ho, hb⟩
theorem pksAll_no {P : List Pk} {k : Nat} (hk : k < P.length) (h : (pat P k).ok = false) : pksAll P = false := by
  unfold pksAll
  rw [allB_no (g := fun k => (pat P k).ok) hk h]
  rfl
theorem pksAll_yes {P : List Pk} {n : Nat} (hn : P.length = n) (h : ∀ k, k < n → (pat P k).ok = true) : pksAll P = decide (n ≤ 60) := by
  subst hn
  unfold pksAll
  rw [allB_yes (g := fun k => (pat P k).ok) h]
  rfl
theorem pksAll_long {P : List Pk} (h : 60 < P.length) : pksAll P = false := by
  unfold pksAll
  rw [decide_eq_false (show ¬ P.length ≤ 60 by omega), Bool.and_false]
set_option maxHeartbeats 1000000 in
theorem eachPacket_any (A : Option Addr) (n cap : Nat) (P : List Pk) (w : World) (hl : P.length = n) (hr : IRow w A (fl P)) (hn : n ≤ 1099511627776) : Calls Tryd.prog 38 #[.slice A n cap] w fun e w' => e = .returned (.bool (pksAll P)) ∧ Below w.heap.size w w' := by
  have HL := Lib.hid hl
  have HR := Lib.hid hr
  clear hl hr
  go_enter Tryd.func38, Tryd.ntmps38
  go_wp2_with fail
  go_loopw [7] (fun z wr => ∃ k : Nat, k ≤ n ∧ z = .int .i64 k ∧ (∀ j, j < k → (pat P j).ok = true) ∧ Below w.heap.size w wr) (fun z _ => n - (intOf z).toNat)
  case atStart => exact ⟨0, Nat.zero_le _, rfl, (fun j hj => by omega), b0 _⟩
  case round =>
    obtain ⟨k, hk, rfl, hall, hbw⟩ := hrel
    have HA := Lib.hid hall
    clear hall
    by_cases hlt : k < n
    · obtain ⟨g, off, p, rfl, hg, hpk, c0, c1, c2, c3, c4, c5⟩ := pk_at (HR.out.below hbw) (k := k) (by have := HL.out; omega)
      have hpp := pat_of hpk
      rcases hp : p.ok with _ | _
      · have hR := Lib.hid (pksAll_no (P := P) (k := k) (by have := HL.out; omega) (by rw [hpp]; exact hp))
        clear hpk hpp
        go_wp2_with fail
        refine (isPacket_b hp _).mono ?_
        rintro e w1 ⟨rfl, hb1⟩
        go_wp2_with fail
        go_ret
        exact ⟨by rw [hR.out]; rfl, bt (ba hbw _) hb1⟩
      · have hR := Lib.hid (all_succ (g := fun j => (pat P j).ok) HA.out (show (pat P k).ok = true by rw [hpp]; exact hp))
        clear hpk hpp
        go_wp2_with fail
        refine (isPacket_b hp _).mono ?_
        rintro e w1 ⟨rfl, hb1⟩
        go_wp2_with fail
        go_roundw
        case rel => exact ⟨k + 1, by omega, by go_num, hR.out, bt (ba hbw _) hb1⟩
        case measure => simp [intOf]; omega
    · obtain rfl : k = n := by omega
      have hR := Lib.hid (show pksAll P = decide ((k : Int) ≤ 60) from by rw [pksAll_yes HL.out HA.out, decide_eq_decide]; omega)
      go_wp2_with fail
      go_ret
      exact ⟨ret_b hR.out.symm, hbw⟩
end Go.Proofs.YtjajddhedahpnaaDoor
