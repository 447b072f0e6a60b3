/- The contracts of the laws' helpers on []Send: copy, comparison, marking. -/
import Derived.Test.YtleknfigikpacaaRows
import Derived.Test.YtleknfigikpacaaFlat
import Derived.Deep.RegionHeld3
namespace Go.Proofs.Ytleknfigikpacaa
open Go.ChangeShapes Go.WideShapes Go.ChangeAt Go.RowKit
set_option linter.unusedVariables false
theorem toSend_any (v0 v1 : Int) (w : World) :
    Calls Try.prog 58 #[.agg #[.int .i64 v0, .int .i64 v1]] w fun e w' => e = .returned (.agg #[.int .i64 v0, .int .i64 v1]) ∧ Below w.heap.size w w' := by
  go_enter Try.func58, Try.ntmps58
  go_wp2
  exact bodyPost_ret (v := .agg #[.int .i64 v0, .int .i64 v1]) (by simp [results, Try.results58, go_sem]) rfl ⟨rfl, (by repeat (first | (with_reducible exact b0 _) | (with_reducible refine ba ?_ _) | (with_reducible refine bd ?_ _) | (with_reducible refine Below.drew ?_) | (with_reducible refine bs ?_ (by first | exact Nat.le_refl _ | exact Nat.le_add_right _ _ | omega) _) | (with_reducible refine bt ?_ (by assumption))))⟩
theorem eqSend_any (v0 v1 : Int) (w : World) :
    Calls Try.prog 60 #[.agg #[.int .i64 v0, .int .i64 v1], .agg #[.int .i64 v0, .int .i64 v1]] w fun e w' => e = .returned (.bool true) ∧ Below w.heap.size w w' := by
  go_enter Try.func60, Try.ntmps60
  go_wp2
  go_ret
  exact ⟨rfl, (by repeat (first | (with_reducible exact b0 _) | (with_reducible refine ba ?_ _) | (with_reducible refine bd ?_ _) | (with_reducible refine Below.drew ?_) | (with_reducible refine bs ?_ (by first | exact Nat.le_refl _ | exact Nat.le_add_right _ _ | omega) _) | (with_reducible refine bt ?_ (by assumption))))⟩
theorem tSend : (Try.prog.info? 66).map (fun i => (i.zero, i.size, i.bytes)) = some (some (.agg #[.int .i64 0, .int .i64 0]), 2, 16) := by kernel_rfl
theorem madeSend (n : Nat) : (madeCells (.agg #[.int .i64 0, .int .i64 0] : Value).cells (n * 2)).toList = (List.replicate (n * 2) (0 : Int)).map (Value.int .i64) := by
  apply List.ext_getElem?
  intro j
  by_cases hj : j < n * 2
  · have hm : j % 2 < 2 := Nat.mod_lt _ (by omega)
    have : (#[.int .i64 0, .int .i64 0] : Array Value)[j % 2]? = some (.int .i64 0) := by
      generalize j % 2 = m at hm
      obtain rfl | rfl : m = 0 ∨ m = 1 := by omega
      all_goals rfl
    simp only [Array.getElem?_toList] 
    simp [madeCells, Value.cells, hj]
    simpa using congrArg (fun x => x.getD default) this
  · simp [madeCells, hj]
theorem make_Send (n : Nat) (hn : n ≤ 1048576) (w : World) :
    ∃ w', (Instr.makeSlice 43 (.int .i64 (n : Int)) (.int .i64 (n : Int))).run Try.prog w = .ok (.slice (some ⟨w.heap.size, 0, none⟩) n n) w' ∧
      IOwn w' w.heap.size w'.heap.size 66 2 (some ⟨w.heap.size, 0, none⟩) n n (List.replicate (n * 2) 0) ∧ Below w.heap.size w w' := by
  obtain ⟨i0, hi, hz0, hz1, hz2⟩ := info_parts tSend
  obtain ⟨w', hrun, h1, h2⟩ := run_make_full (P := Try.prog) w w.heap.size 43 66 i0 (.agg #[.int .i64 0, .int .i64 0]) 2 Try.underlying43 hi hz0 hz1 .i64 .i64 n (by rw [hz2]; omega) (by unfold maxLen; omega) (Nat.le_refl _)
  refine ⟨w', hrun, IOwn.of_owns ?_, ⟨h2.os, h2.tape, h2.output, h2.size, fun k hk => h2.block k hk (by simp)⟩⟩
  rw [madeSend] at h1
  exact h1
def NewSendS (w : World) (l : List Int) (e : Ending) (w' : World) : Prop :=
  ∃ A n cap, e = .returned (.slice A n cap) ∧ IOwn w' w.heap.size w'.heap.size 66 2 A n cap l ∧ Below w.heap.size w w'
set_option maxHeartbeats 1000000 in
theorem toSendS_any (A : Option Addr) (n cap : Nat) (l : List Int) (w : World) (hl : l.length = n * 2) (hr : IRow w A l) (hn : n ≤ 1048576) :
    Calls Try.prog 32 #[.slice A n cap] w (NewSendS w l) := by
  obtain ⟨w1, hmk, ho, hb⟩ := make_Send n hn w
  have HL := Lib.hid hl
  have HR := Lib.hid hr
  have HO := Lib.hid ho
  clear hl hr ho
  go_enter Try.func32, Try.ntmps32
  go_wp2_with fail
  clear hmk
  go_loopw [4] (fun i wr => ∃ k : Nat, k ≤ n ∧ i = .int .i64 k ∧ IOwn wr w.heap.size wr.heap.size 66 2 (some ⟨w.heap.size, 0, none⟩) n n (blend (k * 2) l (List.replicate (n * 2) 0)) ∧ Below w.heap.size w wr) (fun i _ => n - (intOf i).toNat)
  case atStart => exact ⟨0, Nat.zero_le _, rfl, by rw [Nat.zero_mul, blend_zero]; exact HO.out, hb⟩
  case round =>
    obtain ⟨k, hk, rfl, hown, hbw⟩ := hrel
    by_cases hlt : k < n
    · have hkl : k * 2 + 2 ≤ n * 2 := by omega
      obtain ⟨g, off, rfl, hg, hc⟩ := (HR.out.below hbw).at_ (k := k * 2) (by have := HL.out; omega)
      have hc0 : wr.cell? ⟨g, off + k * 2, none⟩ = some (.int .i64 (l[k * 2]?.getD 0)) := by have h := hc (k * 2) (by have := HL.out; omega); simpa [Nat.add_assoc] using h
      have hc1 : wr.cell? ⟨g, off + k * 2 + 1, none⟩ = some (.int .i64 (l[k * 2 + 1]?.getD 0)) := by have h := hc (k * 2 + 1) (by have := HL.out; omega); simpa [Nat.add_assoc] using h
      clear hc
      have HOW := Lib.hid hown
      clear hown
      go_wp2_with fail
      refine (toSend_any _ _ _).mono ?_
      rintro e w2 ⟨rfl, hb2⟩
      have HOW2 := Lib.hid (HOW.out.below hb2 (Nat.le_refl _))
      have z2 := hb2.size
      have hbl := blend_len (l := l) (m := List.replicate (n * 2) 0) (by simp [HL.out]) (k := k * 2) (by have := HL.out; omega)
      obtain ⟨g', hg', _, hg2, hg3, hc2, hf2⟩ := HOW2.out.at_ (k := k * 2) (by rw [hbl]; have := HL.out; omega)
      injection hg' with hg'
      injection hg' with hg'
      subst hg'
      have q0 := hc2 (k * 2) (by rw [hbl]; have := HL.out; omega)
      have f0 := hf2 (k * 2)
      have q1 := hc2 (k * 2 + 1) (by rw [hbl]; have := HL.out; omega)
      have f1 := hf2 (k * 2 + 1)
      clear hc2 hf2 hbl
      go_wp2_with fail
      go_roundw
      case rel =>
        refine ⟨k + 1, by omega, by go_num, ?_, bs (bs (bt hbw hb2) (Nat.le_refl _) _) (Nat.le_refl _) _⟩
        rw [show (k + 1) * 2 = k * 2 + 1 + 1 by omega, ← blend_set (l := l) (m := List.replicate (n * 2) 0) (k := k * 2 + 1) (by simp [HL.out]) (by have := HL.out; omega), ← blend_set (l := l) (m := List.replicate (n * 2) 0) (k := k * 2) (by simp [HL.out]) (by have := HL.out; omega)]
        exact (((HOW2.out.set_ (k * 2) (l[k * 2]?.getD 0)).set_ (k * 2 + 1) (l[k * 2 + 1]?.getD 0))).here
      case measure => simp [intOf]; omega
    · obtain rfl : k = n := by omega
      have HOW := Lib.hid hown
      clear hown
      go_wp2_with fail
      go_ret
      refine ⟨_, _, _, rfl, ?_, hbw⟩
      have h := HOW.out
      rw [blend_all (by simp [HL.out]) (by rw [HL.out]; exact Nat.le_refl _)] at h
      exact h
set_option maxHeartbeats 1000000 in
theorem eqSendS_any (A B : Option Addr) (n cap cap' : Nat) (l : List Int) (w : World) (hl : l.length = n * 2) (hn : n ≤ 1099511627776) (hr : IRow w A l) (hs : IRow w B l) :
    Calls Try.prog 34 #[.slice A n cap, .slice B n cap'] w fun e w' => e = .returned (.bool true) ∧ Below w.heap.size w w' := by
  have HL := Lib.hid hl
  have HR := Lib.hid hr
  have HS := Lib.hid hs
  clear hl hr hs
  go_enter Try.func34, Try.ntmps34
  go_wp2_with fail
  go_loopw [5] (fun i wr => ∃ k : Nat, k ≤ n ∧ i = .int .i64 k ∧ Below w.heap.size w wr) (fun i _ => n - (intOf i).toNat)
  case atStart => exact ⟨0, Nat.zero_le _, rfl, b0 _⟩
  case round =>
    obtain ⟨k, hk, rfl, hbw⟩ := hrel
    by_cases hlt : k < n
    · have hkl : k * 2 + 2 ≤ n * 2 := by omega
      obtain ⟨g, off, rfl, hg, hc⟩ := (HR.out.below hbw).at_ (k := k * 2) (by have := HL.out; omega)
      obtain ⟨g', off', rfl, hg', hd⟩ := (HS.out.below hbw).at_ (k := k * 2) (by have := HL.out; omega)
      have hc0 : wr.cell? ⟨g, off + k * 2, none⟩ = some (.int .i64 (l[k * 2]?.getD 0)) := by have h := hc (k * 2) (by have := HL.out; omega); simpa [Nat.add_assoc] using h
      have hc1 : wr.cell? ⟨g, off + k * 2 + 1, none⟩ = some (.int .i64 (l[k * 2 + 1]?.getD 0)) := by have h := hc (k * 2 + 1) (by have := HL.out; omega); simpa [Nat.add_assoc] using h
      have hd0 : wr.cell? ⟨g', off' + k * 2, none⟩ = some (.int .i64 (l[k * 2]?.getD 0)) := by have h := hd (k * 2) (by have := HL.out; omega); simpa [Nat.add_assoc] using h
      have hd1 : wr.cell? ⟨g', off' + k * 2 + 1, none⟩ = some (.int .i64 (l[k * 2 + 1]?.getD 0)) := by have h := hd (k * 2 + 1) (by have := HL.out; omega); simpa [Nat.add_assoc] using h
      clear hc hd
      have hi1 : ((k : Int)) < (n : Int) := by omega
      generalize l[k * 2]?.getD 0 = x0 at *
      generalize l[k * 2 + 1]?.getD 0 = x1 at *
      go_wp2_with fail
      go_region_held3 (fun w' => w'.cell? ⟨g, off + k * 2, none⟩ = some (.int .i64 x0) ∧ w'.cell? ⟨g, off + k * 2 + 1, none⟩ = some (.int .i64 x1) ∧ w'.cell? ⟨g', off' + k * 2, none⟩ = some (.int .i64 x0) ∧ w'.cell? ⟨g', off' + k * 2 + 1, none⟩ = some (.int .i64 x1)) (go_keep)
        (first
          | (go_at_call 60; refine (eqSend_any _ _ _).mono ?_; rintro e w2 ⟨rfl, hb2⟩; have r2 := fun o => bkeep hb2 g o hg; have r2' := fun o => bkeep hb2 g' o hg'))
      go_wp2_with fail
      go_roundw
      case rel => exact ⟨k + 1, by omega, by go_num, bt hbw.drew hb2⟩
      case measure => simp [intOf]; omega
    · obtain rfl : k = n := by omega
      go_wp2_with fail
      go_ret
      exact ⟨rfl, hbw⟩
def MarkedSend (w : World) (lo hi : Nat) (A : Option Addr) (n cap : Nat) (k : Int) (e : Ending) (w' : World) : Prop :=
  e = .returned (.int .i64 (k + (n * 2 : Nat))) ∧ IOwn w' lo hi 66 2 A n cap (marks k (n * 2)) ∧ Chg lo hi w w'
set_option maxHeartbeats 1000000 in
theorem markSendS_any (A : Option Addr) (n cap : Nat) (l : List Int) (k : Int) (lo hi : Nat) (w : World) (ho : IOwn w lo hi 66 2 A n cap l) (hn : n ≤ 1099511627776) (k0 : 0 ≤ k) (k1 : k ≤ 1099511627776) :
    Calls Try.prog 42 #[.slice A n cap, .int .i64 k] w (MarkedSend w lo hi A n cap k) := by
  have HL := Lib.hid ho.len
  have HO := Lib.hid ho
  clear ho
  go_enter Try.func42, Try.ntmps42
  go_wp2_with fail
  go_loopw [1, 5] (fun m i wr => ∃ j : Nat, j ≤ n ∧ i = .int .i64 j ∧ m = .int .i64 (k + (j : Int) * 2) ∧ IOwn wr lo hi 66 2 A n cap (blend (j * 2) (marks k (n * 2)) l) ∧ Chg lo hi w wr) (fun _ i _ => n - (intOf i).toNat)
  case atStart => exact ⟨0, Nat.zero_le _, rfl, by simp, by rw [Nat.zero_mul, blend_zero]; exact HO.out, Chg.refl _ _ _⟩
  case round =>
    obtain ⟨j, hj, rfl, rfl, hown, hch⟩ := hrel
    by_cases hlt : j < n
    · have hkl : j * 2 + 2 ≤ n * 2 := by omega
      have hML := marks_len k (n * 2)
      have hbl := blend_len (l := marks k (n * 2)) (m := l) (by rw [HL.out, hML]) (k := j * 2) (by omega)
      obtain ⟨g, rfl, hg1, hg2, hg3, hc, hf⟩ := hown.at_ (k := j * 2) (by rw [hbl, hML]; omega)
      have q0 := hc (j * 2) (by rw [hbl, hML]; omega)
      have f0 := hf (j * 2)
      have q1 := hc (j * 2 + 1) (by rw [hbl, hML]; omega)
      have f1 := hf (j * 2 + 1)
      clear hc hf hbl hML
      have HOW := Lib.hid hown
      clear hown
      go_wp2_with fail
      go_roundw
      case rel =>
        refine ⟨j + 1, by omega, by go_num, by congr 1; omega, ?_, ((hch.setCell hg1 hg2 _).setCell hg1 hg2 _)⟩
        have e0 : (k + (j : Int) * 2) = (marks k (n * 2))[j * 2]?.getD 0 := by rw [marks_get (by omega)]; omega
        have e1 : (k + (j : Int) * 2 + 1) = (marks k (n * 2))[j * 2 + 1]?.getD 0 := by rw [marks_get (by omega)]; omega
        have hl : (((blend (j * 2) (marks k (n * 2)) l).set (j * 2) (k + (j : Int) * 2)).set (j * 2 + 1) (k + (j : Int) * 2 + 1)) = blend ((j + 1) * 2) (marks k (n * 2)) l := by
          rw [e1, e0, blend_set (l := marks k (n * 2)) (m := l) (k := j * 2) (by rw [HL.out, marks_len]) (by rw [marks_len]; omega), blend_set (l := marks k (n * 2)) (m := l) (k := j * 2 + 1) (by rw [HL.out, marks_len]) (by rw [marks_len]; omega), show (j + 1) * 2 = j * 2 + 1 + 1 by omega]
        clear e0 e1
        have h := ((HOW.out.set_ (j * 2) (k + (j : Int) * 2)).set_ (j * 2 + 1) (k + (j : Int) * 2 + 1))
        rw [hl] at h
        exact h
      case measure => simp [intOf]; omega
    · obtain rfl : j = n := by omega
      have HOW := Lib.hid hown
      clear hown
      go_wp2_with fail
      go_ret
      refine ⟨ret_i (by omega), ?_, hch⟩
      have h := HOW.out
      rw [blend_all (by rw [HL.out, marks_len]) (by rw [marks_len]; exact Nat.le_refl _)] at h
      exact h
theorem flatSend {H : Type} (enc : TypeId × Value → H) (w : World) : Flat enc Try.prog w 68 2 := by
  intro fuel cs x h j hj
  have hl : cs.length = 2 := by
    obtain ⟨xs, n, _, _, hl, _⟩ := DataW.trod_struct Try.underlying68 h
    rw [hl]
    kernel_rfl
  obtain rfl | rfl : j = 0 ∨ j = 1 := by omega
  · obtain ⟨c, hc⟩ : ∃ c, cs[0]? = some c := ⟨_, List.getElem?_eq_getElem (by omega)⟩
    obtain ⟨n, rfl, hw⟩ := leaf_int Try.underlying68 h 0 _ rfl Try.underlying3 (by kernel_rfl) hc
    exact ⟨n, hc, hw⟩
  · obtain ⟨c, hc⟩ : ∃ c, cs[1]? = some c := ⟨_, List.getElem?_eq_getElem (by omega)⟩
    obtain ⟨n, rfl, hw⟩ := leaf_int Try.underlying68 h 1 _ rfl Try.underlying3 (by kernel_rfl) hc
    exact ⟨n, hc, hw⟩
end Go.Proofs.Ytleknfigikpacaa
