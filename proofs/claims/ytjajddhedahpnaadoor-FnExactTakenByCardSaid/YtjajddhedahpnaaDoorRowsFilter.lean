/- The contracts of the laws' helpers on []Filter: copy, comparison, marking. -/
import Derived.Test.YtjajddhedahpnaaDoorRows
import Derived.Test.YtjajddhedahpnaaDoorFlat
import Derived.Deep.RegionHeld3
namespace Go.Proofs.YtjajddhedahpnaaDoor
open Go.ChangeShapes Go.WideShapes Go.ChangeAt Go.RowKit
set_option linter.unusedVariables false
theorem toFilter_any (v0 v1 v2 v3 v4 : Int) (w : World) :
    Calls Tryd.prog 50 #[.agg #[.int .i64 v0, .int .i64 v1, .int .i64 v2, .int .i64 v3, .int .i64 v4]] w fun e w' => e = .returned (.agg #[.int .i64 v0, .int .i64 v1, .int .i64 v2, .int .i64 v3, .int .i64 v4]) ∧ Below w.heap.size w w' := by
  go_enter Tryd.func50, Tryd.ntmps50
  go_wp2
  exact bodyPost_ret (v := .agg #[.int .i64 v0, .int .i64 v1, .int .i64 v2, .int .i64 v3, .int .i64 v4]) (by simp [results, Tryd.results50, go_sem]) rfl ⟨rfl, (by repeat (first | (with_reducible exact b0 _) | (with_reducible refine ba ?_ _) | (with_reducible refine bd ?_ _) | (with_reducible refine Below.drew ?_) | (with_reducible refine bs ?_ (by first | exact Nat.le_refl _ | exact Nat.le_add_right _ _ | omega) _) | (with_reducible refine bt ?_ (by assumption))))⟩
theorem eqFilter_any (v0 v1 v2 v3 v4 : Int) (w : World) :
    Calls Tryd.prog 57 #[.agg #[.int .i64 v0, .int .i64 v1, .int .i64 v2, .int .i64 v3, .int .i64 v4], .agg #[.int .i64 v0, .int .i64 v1, .int .i64 v2, .int .i64 v3, .int .i64 v4]] w fun e w' => e = .returned (.bool true) ∧ Below w.heap.size w w' := by
  go_enter Tryd.func57, Tryd.ntmps57
  go_wp2
  go_ret
  exact ⟨rfl, (by repeat (first | (with_reducible exact b0 _) | (with_reducible refine ba ?_ _) | (with_reducible refine bd ?_ _) | (with_reducible refine Below.drew ?_) | (with_reducible refine bs ?_ (by first | exact Nat.le_refl _ | exact Nat.le_add_right _ _ | omega) _) | (with_reducible refine bt ?_ (by assumption))))⟩
theorem tFilter : (Tryd.prog.info? 62).map (fun i => (i.zero, i.size, i.bytes)) = some (some (.agg #[.int .i64 0, .int .i64 0, .int .i64 0, .int .i64 0, .int .i64 0]), 5, 40) := by kernel_rfl
theorem madeFilter (n : Nat) : (madeCells (.agg #[.int .i64 0, .int .i64 0, .int .i64 0, .int .i64 0, .int .i64 0] : Value).cells (n * 5)).toList = (List.replicate (n * 5) (0 : Int)).map (Value.int .i64) := by
  apply List.ext_getElem?
  intro j
  by_cases hj : j < n * 5
  · have hm : j % 5 < 5 := Nat.mod_lt _ (by omega)
    have : (#[.int .i64 0, .int .i64 0, .int .i64 0, .int .i64 0, .int .i64 0] : Array Value)[j % 5]? = some (.int .i64 0) := by
      generalize j % 5 = m at hm
      obtain rfl | rfl | rfl | rfl | rfl : m = 0 ∨ m = 1 ∨ m = 2 ∨ m = 3 ∨ m = 4 := by omega
      all_goals rfl
    simp only [Array.getElem?_toList] 
    simp [madeCells, Value.cells, hj]
    simpa using congrArg (fun x => x.getD default) this
  · simp [madeCells, hj]
theorem make_Filter (n : Nat) (hn : n ≤ 1048576) (w : World) :
    ∃ w', (Instr.makeSlice 32 (.int .i64 (n : Int)) (.int .i64 (n : Int))).run Tryd.prog w = .ok (.slice (some ⟨w.heap.size, 0, none⟩) n n) w' ∧
      IOwn w' w.heap.size w'.heap.size 62 5 (some ⟨w.heap.size, 0, none⟩) n n (List.replicate (n * 5) 0) ∧ Below w.heap.size w w' := by
  obtain ⟨i0, hi, hz0, hz1, hz2⟩ := info_parts tFilter
  obtain ⟨w', hrun, h1, h2⟩ := run_make_full (P := Tryd.prog) w w.heap.size 32 62 i0 (.agg #[.int .i64 0, .int .i64 0, .int .i64 0, .int .i64 0, .int .i64 0]) 5 Tryd.underlying32 hi hz0 hz1 .i64 .i64 n (by rw [hz2]; omega) (by unfold maxLen; omega) (Nat.le_refl _)
  refine ⟨w', hrun, IOwn.of_owns ?_, ⟨h2.os, h2.tape, h2.output, h2.size, fun k hk => h2.block k hk (by simp)⟩⟩
  rw [madeFilter] at h1
  exact h1
def NewFilterS (w : World) (l : List Int) (e : Ending) (w' : World) : Prop :=
  ∃ A n cap, e = .returned (.slice A n cap) ∧ IOwn w' w.heap.size w'.heap.size 62 5 A n cap l ∧ Below w.heap.size w w'
set_option maxHeartbeats 1000000 in
theorem toFilterS_any (A : Option Addr) (n cap : Nat) (l : List Int) (w : World) (hl : l.length = n * 5) (hr : IRow w A l) (hn : n ≤ 1048576) :
    Calls Tryd.prog 30 #[.slice A n cap] w (NewFilterS w l) := by
  obtain ⟨w1, hmk, ho, hb⟩ := make_Filter n hn w
  have HL := Lib.hid hl
  have HR := Lib.hid hr
  have HO := Lib.hid ho
  clear hl hr ho
  go_enter Tryd.func30, Tryd.ntmps30
  go_wp2_with fail
  clear hmk
  go_loopw [4] (fun i wr => ∃ k : Nat, k ≤ n ∧ i = .int .i64 k ∧ IOwn wr w.heap.size wr.heap.size 62 5 (some ⟨w.heap.size, 0, none⟩) n n (blend (k * 5) l (List.replicate (n * 5) 0)) ∧ Below w.heap.size w wr) (fun i _ => n - (intOf i).toNat)
  case atStart => exact ⟨0, Nat.zero_le _, rfl, by rw [Nat.zero_mul, blend_zero]; exact HO.out, hb⟩
  case round =>
    obtain ⟨k, hk, rfl, hown, hbw⟩ := hrel
    by_cases hlt : k < n
    · have hkl : k * 5 + 5 ≤ n * 5 := by omega
      obtain ⟨g, off, rfl, hg, hc⟩ := (HR.out.below hbw).at_ (k := k * 5) (by have := HL.out; omega)
      have hc0 : wr.cell? ⟨g, off + k * 5, none⟩ = some (.int .i64 (l[k * 5]?.getD 0)) := by have h := hc (k * 5) (by have := HL.out; omega); simpa [Nat.add_assoc] using h
      have hc1 : wr.cell? ⟨g, off + k * 5 + 1, none⟩ = some (.int .i64 (l[k * 5 + 1]?.getD 0)) := by have h := hc (k * 5 + 1) (by have := HL.out; omega); simpa [Nat.add_assoc] using h
      have hc2 : wr.cell? ⟨g, off + k * 5 + 2, none⟩ = some (.int .i64 (l[k * 5 + 2]?.getD 0)) := by have h := hc (k * 5 + 2) (by have := HL.out; omega); simpa [Nat.add_assoc] using h
      have hc3 : wr.cell? ⟨g, off + k * 5 + 3, none⟩ = some (.int .i64 (l[k * 5 + 3]?.getD 0)) := by have h := hc (k * 5 + 3) (by have := HL.out; omega); simpa [Nat.add_assoc] using h
      have hc4 : wr.cell? ⟨g, off + k * 5 + 4, none⟩ = some (.int .i64 (l[k * 5 + 4]?.getD 0)) := by have h := hc (k * 5 + 4) (by have := HL.out; omega); simpa [Nat.add_assoc] using h
      clear hc
      have HOW := Lib.hid hown
      clear hown
      go_wp2_with fail
      refine (toFilter_any _ _ _ _ _ _).mono ?_
      rintro e w2 ⟨rfl, hb2⟩
      have HOW2 := Lib.hid (HOW.out.below hb2 (Nat.le_refl _))
      have z2 := hb2.size
      have hbl := blend_len (l := l) (m := List.replicate (n * 5) 0) (by simp [HL.out]) (k := k * 5) (by have := HL.out; omega)
      obtain ⟨g', hg', _, hg2, hg3, hc2, hf2⟩ := HOW2.out.at_ (k := k * 5) (by rw [hbl]; have := HL.out; omega)
      injection hg' with hg'
      injection hg' with hg'
      subst hg'
      have q0 := hc2 (k * 5) (by rw [hbl]; have := HL.out; omega)
      have f0 := hf2 (k * 5)
      have q1 := hc2 (k * 5 + 1) (by rw [hbl]; have := HL.out; omega)
      have f1 := hf2 (k * 5 + 1)
      have q2 := hc2 (k * 5 + 2) (by rw [hbl]; have := HL.out; omega)
      have f2 := hf2 (k * 5 + 2)
      have q3 := hc2 (k * 5 + 3) (by rw [hbl]; have := HL.out; omega)
      have f3 := hf2 (k * 5 + 3)
      have q4 := hc2 (k * 5 + 4) (by rw [hbl]; have := HL.out; omega)
      have f4 := hf2 (k * 5 + 4)
      clear hc2 hf2 hbl
      go_wp2_with fail
      go_roundw
      case rel =>
        refine ⟨k + 1, by omega, by go_num, ?_, bs (bs (bs (bs (bs (bt hbw hb2) (Nat.le_refl _) _) (Nat.le_refl _) _) (Nat.le_refl _) _) (Nat.le_refl _) _) (Nat.le_refl _) _⟩
        rw [show (k + 1) * 5 = k * 5 + 4 + 1 by omega, ← blend_set (l := l) (m := List.replicate (n * 5) 0) (k := k * 5 + 4) (by simp [HL.out]) (by have := HL.out; omega), ← blend_set (l := l) (m := List.replicate (n * 5) 0) (k := k * 5 + 3) (by simp [HL.out]) (by have := HL.out; omega), ← blend_set (l := l) (m := List.replicate (n * 5) 0) (k := k * 5 + 2) (by simp [HL.out]) (by have := HL.out; omega), ← blend_set (l := l) (m := List.replicate (n * 5) 0) (k := k * 5 + 1) (by simp [HL.out]) (by have := HL.out; omega), ← blend_set (l := l) (m := List.replicate (n * 5) 0) (k := k * 5) (by simp [HL.out]) (by have := HL.out; omega)]
        exact ((((((HOW2.out.set_ (k * 5) (l[k * 5]?.getD 0)).set_ (k * 5 + 1) (l[k * 5 + 1]?.getD 0)).set_ (k * 5 + 2) (l[k * 5 + 2]?.getD 0)).set_ (k * 5 + 3) (l[k * 5 + 3]?.getD 0)).set_ (k * 5 + 4) (l[k * 5 + 4]?.getD 0))).here
      case measure => simp [intOf]; omega
    · obtain rfl : k = n := by omega
      have HOW := Lib.hid hown
      clear hown
      go_wp2_with fail
      go_ret
      refine ⟨_, _, _, rfl, ?_, hbw⟩
      have h := HOW.out
      rw [blend_all (by simp [HL.out]) (by rw [HL.out]; exact Nat.le_refl _)] at h
      exact h
set_option maxHeartbeats 1000000 in
theorem eqFilterS_any (A B : Option Addr) (n cap cap' : Nat) (l : List Int) (w : World) (hl : l.length = n * 5) (hn : n ≤ 1099511627776) (hr : IRow w A l) (hs : IRow w B l) :
    Calls Tryd.prog 36 #[.slice A n cap, .slice B n cap'] w fun e w' => e = .returned (.bool true) ∧ Below w.heap.size w w' := by
  have HL := Lib.hid hl
  have HR := Lib.hid hr
  have HS := Lib.hid hs
  clear hl hr hs
  go_enter Tryd.func36, Tryd.ntmps36
  go_wp2_with fail
  go_loopw [5] (fun i wr => ∃ k : Nat, k ≤ n ∧ i = .int .i64 k ∧ Below w.heap.size w wr) (fun i _ => n - (intOf i).toNat)
  case atStart => exact ⟨0, Nat.zero_le _, rfl, b0 _⟩
  case round =>
    obtain ⟨k, hk, rfl, hbw⟩ := hrel
    by_cases hlt : k < n
    · have hkl : k * 5 + 5 ≤ n * 5 := by omega
      obtain ⟨g, off, rfl, hg, hc⟩ := (HR.out.below hbw).at_ (k := k * 5) (by have := HL.out; omega)
      obtain ⟨g', off', rfl, hg', hd⟩ := (HS.out.below hbw).at_ (k := k * 5) (by have := HL.out; omega)
      have hc0 : wr.cell? ⟨g, off + k * 5, none⟩ = some (.int .i64 (l[k * 5]?.getD 0)) := by have h := hc (k * 5) (by have := HL.out; omega); simpa [Nat.add_assoc] using h
      have hc1 : wr.cell? ⟨g, off + k * 5 + 1, none⟩ = some (.int .i64 (l[k * 5 + 1]?.getD 0)) := by have h := hc (k * 5 + 1) (by have := HL.out; omega); simpa [Nat.add_assoc] using h
      have hc2 : wr.cell? ⟨g, off + k * 5 + 2, none⟩ = some (.int .i64 (l[k * 5 + 2]?.getD 0)) := by have h := hc (k * 5 + 2) (by have := HL.out; omega); simpa [Nat.add_assoc] using h
      have hc3 : wr.cell? ⟨g, off + k * 5 + 3, none⟩ = some (.int .i64 (l[k * 5 + 3]?.getD 0)) := by have h := hc (k * 5 + 3) (by have := HL.out; omega); simpa [Nat.add_assoc] using h
      have hc4 : wr.cell? ⟨g, off + k * 5 + 4, none⟩ = some (.int .i64 (l[k * 5 + 4]?.getD 0)) := by have h := hc (k * 5 + 4) (by have := HL.out; omega); simpa [Nat.add_assoc] using h
      have hd0 : wr.cell? ⟨g', off' + k * 5, none⟩ = some (.int .i64 (l[k * 5]?.getD 0)) := by have h := hd (k * 5) (by have := HL.out; omega); simpa [Nat.add_assoc] using h
      have hd1 : wr.cell? ⟨g', off' + k * 5 + 1, none⟩ = some (.int .i64 (l[k * 5 + 1]?.getD 0)) := by have h := hd (k * 5 + 1) (by have := HL.out; omega); simpa [Nat.add_assoc] using h
      have hd2 : wr.cell? ⟨g', off' + k * 5 + 2, none⟩ = some (.int .i64 (l[k * 5 + 2]?.getD 0)) := by have h := hd (k * 5 + 2) (by have := HL.out; omega); simpa [Nat.add_assoc] using h
      have hd3 : wr.cell? ⟨g', off' + k * 5 + 3, none⟩ = some (.int .i64 (l[k * 5 + 3]?.getD 0)) := by have h := hd (k * 5 + 3) (by have := HL.out; omega); simpa [Nat.add_assoc] using h
      have hd4 : wr.cell? ⟨g', off' + k * 5 + 4, none⟩ = some (.int .i64 (l[k * 5 + 4]?.getD 0)) := by have h := hd (k * 5 + 4) (by have := HL.out; omega); simpa [Nat.add_assoc] using h
      clear hc hd
      have hi1 : ((k : Int)) < (n : Int) := by omega
      generalize l[k * 5]?.getD 0 = x0 at *
      generalize l[k * 5 + 1]?.getD 0 = x1 at *
      generalize l[k * 5 + 2]?.getD 0 = x2 at *
      generalize l[k * 5 + 3]?.getD 0 = x3 at *
      generalize l[k * 5 + 4]?.getD 0 = x4 at *
      go_wp2_with fail
      go_region_held3 (fun w' => w'.cell? ⟨g, off + k * 5, none⟩ = some (.int .i64 x0) ∧ w'.cell? ⟨g, off + k * 5 + 1, none⟩ = some (.int .i64 x1) ∧ w'.cell? ⟨g, off + k * 5 + 2, none⟩ = some (.int .i64 x2) ∧ w'.cell? ⟨g, off + k * 5 + 3, none⟩ = some (.int .i64 x3) ∧ w'.cell? ⟨g, off + k * 5 + 4, none⟩ = some (.int .i64 x4) ∧ w'.cell? ⟨g', off' + k * 5, none⟩ = some (.int .i64 x0) ∧ w'.cell? ⟨g', off' + k * 5 + 1, none⟩ = some (.int .i64 x1) ∧ w'.cell? ⟨g', off' + k * 5 + 2, none⟩ = some (.int .i64 x2) ∧ w'.cell? ⟨g', off' + k * 5 + 3, none⟩ = some (.int .i64 x3) ∧ w'.cell? ⟨g', off' + k * 5 + 4, none⟩ = some (.int .i64 x4)) (go_keep)
        (first
          | (go_at_call 57; refine (eqFilter_any _ _ _ _ _ _).mono ?_; rintro e w2 ⟨rfl, hb2⟩; have r2 := fun o => bkeep hb2 g o hg; have r2' := fun o => bkeep hb2 g' o hg'))
      go_wp2_with fail
      go_roundw
      case rel => exact ⟨k + 1, by omega, by go_num, bt hbw.drew hb2⟩
      case measure => simp [intOf]; omega
    · obtain rfl : k = n := by omega
      go_wp2_with fail
      go_ret
      exact ⟨rfl, hbw⟩
def MarkedFilter (w : World) (lo hi : Nat) (A : Option Addr) (n cap : Nat) (k : Int) (e : Ending) (w' : World) : Prop :=
  e = .returned (.int .i64 (k + (n * 5 : Nat))) ∧ IOwn w' lo hi 62 5 A n cap (marks k (n * 5)) ∧ Chg lo hi w w'
set_option maxHeartbeats 1000000 in
theorem markFilterS_any (A : Option Addr) (n cap : Nat) (l : List Int) (k : Int) (lo hi : Nat) (w : World) (ho : IOwn w lo hi 62 5 A n cap l) (hn : n ≤ 1099511627776) (k0 : 0 ≤ k) (k1 : k ≤ 1099511627776) :
    Calls Tryd.prog 41 #[.slice A n cap, .int .i64 k] w (MarkedFilter w lo hi A n cap k) := by
  have HL := Lib.hid ho.len
  have HO := Lib.hid ho
  clear ho
  go_enter Tryd.func41, Tryd.ntmps41
  go_wp2_with fail
  go_loopw [1, 5] (fun m i wr => ∃ j : Nat, j ≤ n ∧ i = .int .i64 j ∧ m = .int .i64 (k + (j : Int) * 5) ∧ IOwn wr lo hi 62 5 A n cap (blend (j * 5) (marks k (n * 5)) l) ∧ Chg lo hi w wr) (fun _ i _ => n - (intOf i).toNat)
  case atStart => exact ⟨0, Nat.zero_le _, rfl, by simp, by rw [Nat.zero_mul, blend_zero]; exact HO.out, Chg.refl _ _ _⟩
  case round =>
    obtain ⟨j, hj, rfl, rfl, hown, hch⟩ := hrel
    by_cases hlt : j < n
    · have hkl : j * 5 + 5 ≤ n * 5 := by omega
      have hML := marks_len k (n * 5)
      have hbl := blend_len (l := marks k (n * 5)) (m := l) (by rw [HL.out, hML]) (k := j * 5) (by omega)
      obtain ⟨g, rfl, hg1, hg2, hg3, hc, hf⟩ := hown.at_ (k := j * 5) (by rw [hbl, hML]; omega)
      have q0 := hc (j * 5) (by rw [hbl, hML]; omega)
      have f0 := hf (j * 5)
      have q1 := hc (j * 5 + 1) (by rw [hbl, hML]; omega)
      have f1 := hf (j * 5 + 1)
      have q2 := hc (j * 5 + 2) (by rw [hbl, hML]; omega)
      have f2 := hf (j * 5 + 2)
      have q3 := hc (j * 5 + 3) (by rw [hbl, hML]; omega)
      have f3 := hf (j * 5 + 3)
      have q4 := hc (j * 5 + 4) (by rw [hbl, hML]; omega)
      have f4 := hf (j * 5 + 4)
      clear hc hf hbl hML
      have HOW := Lib.hid hown
      clear hown
      go_wp2_with fail
      go_roundw
      case rel =>
        refine ⟨j + 1, by omega, by go_num, by congr 1; omega, ?_, (((((hch.setCell hg1 hg2 _).setCell hg1 hg2 _).setCell hg1 hg2 _).setCell hg1 hg2 _).setCell hg1 hg2 _)⟩
        have e0 : (k + (j : Int) * 5) = (marks k (n * 5))[j * 5]?.getD 0 := by rw [marks_get (by omega)]; omega
        have e1 : (k + (j : Int) * 5 + 1) = (marks k (n * 5))[j * 5 + 1]?.getD 0 := by rw [marks_get (by omega)]; omega
        have e2 : (k + (j : Int) * 5 + 1 + 1) = (marks k (n * 5))[j * 5 + 2]?.getD 0 := by rw [marks_get (by omega)]; omega
        have e3 : (k + (j : Int) * 5 + 1 + 1 + 1) = (marks k (n * 5))[j * 5 + 3]?.getD 0 := by rw [marks_get (by omega)]; omega
        have e4 : (k + (j : Int) * 5 + 1 + 1 + 1 + 1) = (marks k (n * 5))[j * 5 + 4]?.getD 0 := by rw [marks_get (by omega)]; omega
        have hl : ((((((blend (j * 5) (marks k (n * 5)) l).set (j * 5) (k + (j : Int) * 5)).set (j * 5 + 1) (k + (j : Int) * 5 + 1)).set (j * 5 + 2) (k + (j : Int) * 5 + 1 + 1)).set (j * 5 + 3) (k + (j : Int) * 5 + 1 + 1 + 1)).set (j * 5 + 4) (k + (j : Int) * 5 + 1 + 1 + 1 + 1)) = blend ((j + 1) * 5) (marks k (n * 5)) l := by
          rw [e4, e3, e2, e1, e0, blend_set (l := marks k (n * 5)) (m := l) (k := j * 5) (by rw [HL.out, marks_len]) (by rw [marks_len]; omega), blend_set (l := marks k (n * 5)) (m := l) (k := j * 5 + 1) (by rw [HL.out, marks_len]) (by rw [marks_len]; omega), blend_set (l := marks k (n * 5)) (m := l) (k := j * 5 + 2) (by rw [HL.out, marks_len]) (by rw [marks_len]; omega), blend_set (l := marks k (n * 5)) (m := l) (k := j * 5 + 3) (by rw [HL.out, marks_len]) (by rw [marks_len]; omega), blend_set (l := marks k (n * 5)) (m := l) (k := j * 5 + 4) (by rw [HL.out, marks_len]) (by rw [marks_len]; omega), show (j + 1) * 5 = j * 5 + 4 + 1 by omega]
        clear e0 e1 e2 e3 e4
        have h := (((((HOW.out.set_ (j * 5) (k + (j : Int) * 5)).set_ (j * 5 + 1) (k + (j : Int) * 5 + 1)).set_ (j * 5 + 2) (k + (j : Int) * 5 + 1 + 1)).set_ (j * 5 + 3) (k + (j : Int) * 5 + 1 + 1 + 1)).set_ (j * 5 + 4) (k + (j : Int) * 5 + 1 + 1 + 1 + 1))
        rw [hl] at h
        exact h
      case measure => simp [intOf]; omega
    · obtain rfl : j = n := by omega
      have HOW := Lib.hid hown
      clear hown
      go_wp2_with fail
      go_ret
      refine ⟨ret_i (by omega), ?_, hch⟩
      have h := HOW.out
      rw [blend_all (by rw [HL.out, marks_len]) (by rw [marks_len]; exact Nat.le_refl _)] at h
      exact h
theorem flatFilter {H : Type} (enc : TypeId × Value → H) (w : World) : Flat enc Tryd.prog w 78 5 := by
  intro fuel cs x h j hj
  have hl : cs.length = 5 := by
    obtain ⟨xs, n, _, _, hl, _⟩ := DataW.trod_struct Tryd.underlying78 h
    rw [hl]
    kernel_rfl
  obtain rfl | rfl | rfl | rfl | rfl : j = 0 ∨ j = 1 ∨ j = 2 ∨ j = 3 ∨ j = 4 := by omega
  · obtain ⟨c, hc⟩ : ∃ c, cs[0]? = some c := ⟨_, List.getElem?_eq_getElem (by omega)⟩
    obtain ⟨n, rfl, hw⟩ := leaf_int Tryd.underlying78 h 0 _ rfl Tryd.underlying3 (by kernel_rfl) hc
    exact ⟨n, hc, hw⟩
  · obtain ⟨c, hc⟩ : ∃ c, cs[1]? = some c := ⟨_, List.getElem?_eq_getElem (by omega)⟩
    obtain ⟨n, rfl, hw⟩ := leaf_int Tryd.underlying78 h 1 _ rfl Tryd.underlying3 (by kernel_rfl) hc
    exact ⟨n, hc, hw⟩
  · obtain ⟨c, hc⟩ : ∃ c, cs[2]? = some c := ⟨_, List.getElem?_eq_getElem (by omega)⟩
    obtain ⟨n, rfl, hw⟩ := leaf_int Tryd.underlying78 h 2 _ rfl Tryd.underlying3 (by kernel_rfl) hc
    exact ⟨n, hc, hw⟩
  · obtain ⟨c, hc⟩ : ∃ c, cs[3]? = some c := ⟨_, List.getElem?_eq_getElem (by omega)⟩
    obtain ⟨n, rfl, hw⟩ := leaf_int Tryd.underlying78 h 3 _ rfl Tryd.underlying3 (by kernel_rfl) hc
    exact ⟨n, hc, hw⟩
  · obtain ⟨c, hc⟩ : ∃ c, cs[4]? = some c := ⟨_, List.getElem?_eq_getElem (by omega)⟩
    obtain ⟨n, rfl, hw⟩ := leaf_int Tryd.underlying78 h 4 _ rfl Tryd.underlying3 (by kernel_rfl) hc
    exact ⟨n, hc, hw⟩
end Go.Proofs.YtjajddhedahpnaaDoor
