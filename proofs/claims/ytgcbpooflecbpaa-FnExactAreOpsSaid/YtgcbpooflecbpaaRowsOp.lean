/- The contracts of the laws' helpers on []Op: copy, comparison, marking. -/
import Derived.Test.YtgcbpooflecbpaaRows
import Derived.Test.YtgcbpooflecbpaaFlat
import Derived.Test.YtgcbpooflecbpaaRowsPacket
import Derived.Test.YtgcbpooflecbpaaOw
import Derived.Deep.RegionHeld3
namespace Go.Proofs.Ytgcbpooflecbpaa
open Go.ChangeShapes Go.WideShapes Go.ChangeAt Go.RowKit
set_option linter.unusedVariables false
theorem toOp_any (v0 v1 v2 v3 v4 v5 v6 v7 : Int) (w : World) :
    Calls Try.prog 51 #[.agg #[.int .i64 v0, .int .i64 v1, .int .i64 v2, .int .i64 v3, .int .i64 v4, .int .i64 v5, .int .i64 v6, .int .i64 v7]] w fun e w' => e = .returned (.agg #[.int .i64 v0, .int .i64 v1, .int .i64 v2, .int .i64 v3, .int .i64 v4, .int .i64 v5, .int .i64 v6, .int .i64 v7]) ∧ Below w.heap.size w w' := by
  go_enter Try.func51, Try.ntmps51
  go_wp2_with fail
  refine (toPacket_any _ _ _ _ _ _ _).mono ?_
  rintro e w1 ⟨rfl, hg⟩
  have HB := Lib.hid (bt (ba (ba (ba (b0 w) _) _) _) hg)
  have q : Bk w1 (w.heap.size) 75 #[.int .i64 v0, .int .i64 v1, .int .i64 v2, .int .i64 v3, .int .i64 v4, .int .i64 v5, .int .i64 v6, .int .i64 v7] := (((Bk.new w _ _).alloc _).alloc _).old hg
  have zq : w.heap.size < w1.heap.size := q.lt
  have q_0 : w1.cell? ⟨w.heap.size, 0, none⟩ = some (.int .i64 v0) := q.cell 0
  have q_1 : w1.cell? ⟨w.heap.size, 1, none⟩ = some (.int .i64 v1) := q.cell 1
  have q_2 : w1.cell? ⟨w.heap.size, 2, none⟩ = some (.int .i64 v2) := q.cell 2
  have q_3 : w1.cell? ⟨w.heap.size, 3, none⟩ = some (.int .i64 v3) := q.cell 3
  have q_4 : w1.cell? ⟨w.heap.size, 4, none⟩ = some (.int .i64 v4) := q.cell 4
  have q_5 : w1.cell? ⟨w.heap.size, 5, none⟩ = some (.int .i64 v5) := q.cell 5
  have q_6 : w1.cell? ⟨w.heap.size, 6, none⟩ = some (.int .i64 v6) := q.cell 6
  have q_7 : w1.cell? ⟨w.heap.size, 7, none⟩ = some (.int .i64 v7) := q.cell 7
  have qf := q.free
  have Hq := Lib.hid q
  clear q
  have r : Bk w1 (w.heap.size + 1) 72 #[.int .i64 0, .int .i64 0, .int .i64 0, .int .i64 0, .int .i64 0, .int .i64 0, .int .i64 0, .int .i64 0] := ((Bk.new_ (by simp)).alloc _).old hg
  have zr : w.heap.size + 1 < w1.heap.size := r.lt
  have r_0 : w1.cell? ⟨w.heap.size + 1, 0, none⟩ = some (.int .i64 0) := r.cell 0
  have r_1 : w1.cell? ⟨w.heap.size + 1, 1, none⟩ = some (.int .i64 0) := r.cell 1
  have r_2 : w1.cell? ⟨w.heap.size + 1, 2, none⟩ = some (.int .i64 0) := r.cell 2
  have r_3 : w1.cell? ⟨w.heap.size + 1, 3, none⟩ = some (.int .i64 0) := r.cell 3
  have r_4 : w1.cell? ⟨w.heap.size + 1, 4, none⟩ = some (.int .i64 0) := r.cell 4
  have r_5 : w1.cell? ⟨w.heap.size + 1, 5, none⟩ = some (.int .i64 0) := r.cell 5
  have r_6 : w1.cell? ⟨w.heap.size + 1, 6, none⟩ = some (.int .i64 0) := r.cell 6
  have r_7 : w1.cell? ⟨w.heap.size + 1, 7, none⟩ = some (.int .i64 0) := r.cell 7
  have rf := r.free
  have Hr := Lib.hid r
  clear r
  have o : Bk w1 (w.heap.size + 1 + 1) 72 #[.int .i64 v0, .int .i64 0, .int .i64 0, .int .i64 0, .int .i64 0, .int .i64 0, .int .i64 0, .int .i64 0] := (Bk.new_ (by simp)).old hg
  have zo : w.heap.size + 1 + 1 < w1.heap.size := o.lt
  have o_0 : w1.cell? ⟨w.heap.size + 1 + 1, 0, none⟩ = some (.int .i64 v0) := o.cell 0
  have o_1 : w1.cell? ⟨w.heap.size + 1 + 1, 1, none⟩ = some (.int .i64 0) := o.cell 1
  have o_2 : w1.cell? ⟨w.heap.size + 1 + 1, 2, none⟩ = some (.int .i64 0) := o.cell 2
  have o_3 : w1.cell? ⟨w.heap.size + 1 + 1, 3, none⟩ = some (.int .i64 0) := o.cell 3
  have o_4 : w1.cell? ⟨w.heap.size + 1 + 1, 4, none⟩ = some (.int .i64 0) := o.cell 4
  have o_5 : w1.cell? ⟨w.heap.size + 1 + 1, 5, none⟩ = some (.int .i64 0) := o.cell 5
  have o_6 : w1.cell? ⟨w.heap.size + 1 + 1, 6, none⟩ = some (.int .i64 0) := o.cell 6
  have o_7 : w1.cell? ⟨w.heap.size + 1 + 1, 7, none⟩ = some (.int .i64 0) := o.cell 7
  have of := o.free
  have Ho := Lib.hid o
  clear o
  clear hg
  have n1 : ¬ w.heap.size + 1 = w.heap.size + 1 + 1 := by omega
  have n2 : ¬ w.heap.size + 1 + 1 = w.heap.size + 1 := by omega
  have n3 : ¬ w.heap.size = w.heap.size + 1 + 1 := by omega
  have n4 : ¬ w.heap.size + 1 + 1 = w.heap.size := by omega
  go_wp2_with fail
  exact bodyPost_ret (v := .agg #[.int .i64 v0, .int .i64 v1, .int .i64 v2, .int .i64 v3, .int .i64 v4, .int .i64 v5, .int .i64 v6, .int .i64 v7]) (by simp [results, Try.results51, go_sem, r_0, r_1, r_2, r_3, r_4, r_5, r_6, r_7]) rfl ⟨rfl, (by repeat (first | (with_reducible exact HB.out) | (with_reducible refine ba ?_ _) | (with_reducible refine bsB ?_ (by omega)) | (with_reducible refine bd ?_ _) | (with_reducible refine Below.drew ?_)))⟩
theorem eqOp_any (v0 v1 v2 v3 v4 v5 v6 v7 : Int) (w : World) :
    Calls Try.prog 53 #[.agg #[.int .i64 v0, .int .i64 v1, .int .i64 v2, .int .i64 v3, .int .i64 v4, .int .i64 v5, .int .i64 v6, .int .i64 v7], .agg #[.int .i64 v0, .int .i64 v1, .int .i64 v2, .int .i64 v3, .int .i64 v4, .int .i64 v5, .int .i64 v6, .int .i64 v7]] w fun e w' => e = .returned (.bool true) ∧ Below w.heap.size w w' := by
  go_enter Try.func53, Try.ntmps53
  go_wp2_with fail
  refine (eqPacket_any _ _ _ _ _ _ _).mono ?_
  rintro e w1 ⟨rfl, hg⟩
  have zhg := hg.size; (try simp at zhg); have c0hg := fun o => bkeep hg (w.heap.size) o (by first | omega | (simp; done) | (simp; omega)); have f0hg := fun o => bfree hg (w.heap.size) o (by first | omega | (simp; done) | (simp; omega)); have c1hg := fun o => bkeep hg (w.heap.size + 1) o (by first | omega | (simp; done) | (simp; omega)); have f1hg := fun o => bfree hg (w.heap.size + 1) o (by first | omega | (simp; done) | (simp; omega))
  go_wp2_with fail
  go_ret
  exact ⟨rfl, (by repeat (first | (with_reducible exact b0 _) | (with_reducible refine ba ?_ _) | (with_reducible refine bd ?_ _) | (with_reducible refine Below.drew ?_) | (with_reducible refine bs ?_ (by first | exact Nat.le_refl _ | exact Nat.le_add_right _ _ | omega) _) | (with_reducible refine bt ?_ (by assumption))))⟩
theorem tOp : (Try.prog.info? 72).map (fun i => (i.zero, i.size, i.bytes)) = some (some (.agg #[.int .i64 0, .int .i64 0, .int .i64 0, .int .i64 0, .int .i64 0, .int .i64 0, .int .i64 0, .int .i64 0]), 8, 64) := by kernel_rfl
theorem madeOp (n : Nat) : (madeCells (.agg #[.int .i64 0, .int .i64 0, .int .i64 0, .int .i64 0, .int .i64 0, .int .i64 0, .int .i64 0, .int .i64 0] : Value).cells (n * 8)).toList = (List.replicate (n * 8) (0 : Int)).map (Value.int .i64) := by
  apply List.ext_getElem?
  intro j
  by_cases hj : j < n * 8
  · have hm : j % 8 < 8 := Nat.mod_lt _ (by omega)
    have : (#[.int .i64 0, .int .i64 0, .int .i64 0, .int .i64 0, .int .i64 0, .int .i64 0, .int .i64 0, .int .i64 0] : Array Value)[j % 8]? = some (.int .i64 0) := by
      generalize j % 8 = m at hm
      obtain rfl | rfl | rfl | rfl | rfl | rfl | rfl | rfl : m = 0 ∨ m = 1 ∨ m = 2 ∨ m = 3 ∨ m = 4 ∨ m = 5 ∨ m = 6 ∨ m = 7 := by omega
      all_goals rfl
    simp only [Array.getElem?_toList] 
    simp [madeCells, Value.cells, hj]
    simpa using congrArg (fun x => x.getD default) this
  · simp [madeCells, hj]
theorem make_Op (n : Nat) (hn : n ≤ 1048576) (w : World) :
    ∃ w', (Instr.makeSlice 25 (.int .i64 (n : Int)) (.int .i64 (n : Int))).run Try.prog w = .ok (.slice (some ⟨w.heap.size, 0, none⟩) n n) w' ∧
      IOwn w' w.heap.size w'.heap.size 72 8 (some ⟨w.heap.size, 0, none⟩) n n (List.replicate (n * 8) 0) ∧ Below w.heap.size w w' := by
  obtain ⟨i0, hi, hz0, hz1, hz2⟩ := info_parts tOp
  obtain ⟨w', hrun, h1, h2⟩ := run_make_full (P := Try.prog) w w.heap.size 25 72 i0 (.agg #[.int .i64 0, .int .i64 0, .int .i64 0, .int .i64 0, .int .i64 0, .int .i64 0, .int .i64 0, .int .i64 0]) 8 Try.underlying25 hi hz0 hz1 .i64 .i64 n (by rw [hz2]; omega) (by unfold maxLen; omega) (Nat.le_refl _)
  refine ⟨w', hrun, IOwn.of_owns ?_, ⟨h2.os, h2.tape, h2.output, h2.size, fun k hk => h2.block k hk (by simp)⟩⟩
  rw [madeOp] at h1
  exact h1
def NewOpS (w : World) (l : List Int) (e : Ending) (w' : World) : Prop :=
  ∃ A n cap, e = .returned (.slice A n cap) ∧ IOwn w' w.heap.size w'.heap.size 72 8 A n cap l ∧ Below w.heap.size w w'
set_option maxHeartbeats 1000000 in
theorem toOpS_any (A : Option Addr) (n cap : Nat) (l : List Int) (w : World) (hl : l.length = n * 8) (hr : IRow w A l) (hn : n ≤ 1048576) :
    Calls Try.prog 15 #[.slice A n cap] w (NewOpS w l) := by
  obtain ⟨w1, hmk, ho, hb⟩ := make_Op n hn w
  have HL := Lib.hid hl
  have HR := Lib.hid hr
  have HO := Lib.hid ho
  clear hl hr ho
  go_enter Try.func15, Try.ntmps15
  go_wp2_with fail
  clear hmk
  go_loopw [4] (fun i wr => ∃ k : Nat, k ≤ n ∧ i = .int .i64 k ∧ IOwn wr w.heap.size wr.heap.size 72 8 (some ⟨w.heap.size, 0, none⟩) n n (blend (k * 8) l (List.replicate (n * 8) 0)) ∧ Below w.heap.size w wr) (fun i _ => n - (intOf i).toNat)
  case atStart => exact ⟨0, Nat.zero_le _, rfl, by rw [Nat.zero_mul, blend_zero]; exact HO.out, hb⟩
  case round =>
    obtain ⟨k, hk, rfl, hown, hbw⟩ := hrel
    by_cases hlt : k < n
    · have hkl : k * 8 + 8 ≤ n * 8 := by omega
      obtain ⟨g, off, rfl, hg, hc⟩ := (HR.out.below hbw).at_ (k := k * 8) (by have := HL.out; omega)
      have hc0 : wr.cell? ⟨g, off + k * 8, none⟩ = some (.int .i64 (l[k * 8]?.getD 0)) := by have h := hc (k * 8) (by have := HL.out; omega); simpa [Nat.add_assoc] using h
      have hc1 : wr.cell? ⟨g, off + k * 8 + 1, none⟩ = some (.int .i64 (l[k * 8 + 1]?.getD 0)) := by have h := hc (k * 8 + 1) (by have := HL.out; omega); simpa [Nat.add_assoc] using h
      have hc2 : wr.cell? ⟨g, off + k * 8 + 2, none⟩ = some (.int .i64 (l[k * 8 + 2]?.getD 0)) := by have h := hc (k * 8 + 2) (by have := HL.out; omega); simpa [Nat.add_assoc] using h
      have hc3 : wr.cell? ⟨g, off + k * 8 + 3, none⟩ = some (.int .i64 (l[k * 8 + 3]?.getD 0)) := by have h := hc (k * 8 + 3) (by have := HL.out; omega); simpa [Nat.add_assoc] using h
      have hc4 : wr.cell? ⟨g, off + k * 8 + 4, none⟩ = some (.int .i64 (l[k * 8 + 4]?.getD 0)) := by have h := hc (k * 8 + 4) (by have := HL.out; omega); simpa [Nat.add_assoc] using h
      have hc5 : wr.cell? ⟨g, off + k * 8 + 5, none⟩ = some (.int .i64 (l[k * 8 + 5]?.getD 0)) := by have h := hc (k * 8 + 5) (by have := HL.out; omega); simpa [Nat.add_assoc] using h
      have hc6 : wr.cell? ⟨g, off + k * 8 + 6, none⟩ = some (.int .i64 (l[k * 8 + 6]?.getD 0)) := by have h := hc (k * 8 + 6) (by have := HL.out; omega); simpa [Nat.add_assoc] using h
      have hc7 : wr.cell? ⟨g, off + k * 8 + 7, none⟩ = some (.int .i64 (l[k * 8 + 7]?.getD 0)) := by have h := hc (k * 8 + 7) (by have := HL.out; omega); simpa [Nat.add_assoc] using h
      clear hc
      have HOW := Lib.hid hown
      clear hown
      go_wp2_with fail
      refine (toOp_any _ _ _ _ _ _ _ _ _).mono ?_
      rintro e w2 ⟨rfl, hb2⟩
      have HOW2 := Lib.hid (HOW.out.below hb2 (Nat.le_refl _))
      have z2 := hb2.size
      have hbl := blend_len (l := l) (m := List.replicate (n * 8) 0) (by simp [HL.out]) (k := k * 8) (by have := HL.out; omega)
      obtain ⟨g', hg', _, hg2, hg3, hc2, hf2⟩ := HOW2.out.at_ (k := k * 8) (by rw [hbl]; have := HL.out; omega)
      injection hg' with hg'
      injection hg' with hg'
      subst hg'
      have q0 := hc2 (k * 8) (by rw [hbl]; have := HL.out; omega)
      have f0 := hf2 (k * 8)
      have q1 := hc2 (k * 8 + 1) (by rw [hbl]; have := HL.out; omega)
      have f1 := hf2 (k * 8 + 1)
      have q2 := hc2 (k * 8 + 2) (by rw [hbl]; have := HL.out; omega)
      have f2 := hf2 (k * 8 + 2)
      have q3 := hc2 (k * 8 + 3) (by rw [hbl]; have := HL.out; omega)
      have f3 := hf2 (k * 8 + 3)
      have q4 := hc2 (k * 8 + 4) (by rw [hbl]; have := HL.out; omega)
      have f4 := hf2 (k * 8 + 4)
      have q5 := hc2 (k * 8 + 5) (by rw [hbl]; have := HL.out; omega)
      have f5 := hf2 (k * 8 + 5)
      have q6 := hc2 (k * 8 + 6) (by rw [hbl]; have := HL.out; omega)
      have f6 := hf2 (k * 8 + 6)
      have q7 := hc2 (k * 8 + 7) (by rw [hbl]; have := HL.out; omega)
      have f7 := hf2 (k * 8 + 7)
      clear hc2 hf2 hbl
      go_wp2_with fail
      go_roundw
      case rel =>
        refine ⟨k + 1, by omega, by go_num, ?_, bs (bs (bs (bs (bs (bs (bs (bs (bt hbw hb2) (Nat.le_refl _) _) (Nat.le_refl _) _) (Nat.le_refl _) _) (Nat.le_refl _) _) (Nat.le_refl _) _) (Nat.le_refl _) _) (Nat.le_refl _) _) (Nat.le_refl _) _⟩
        rw [show (k + 1) * 8 = k * 8 + 7 + 1 by omega, ← blend_set (l := l) (m := List.replicate (n * 8) 0) (k := k * 8 + 7) (by simp [HL.out]) (by have := HL.out; omega), ← blend_set (l := l) (m := List.replicate (n * 8) 0) (k := k * 8 + 6) (by simp [HL.out]) (by have := HL.out; omega), ← blend_set (l := l) (m := List.replicate (n * 8) 0) (k := k * 8 + 5) (by simp [HL.out]) (by have := HL.out; omega), ← blend_set (l := l) (m := List.replicate (n * 8) 0) (k := k * 8 + 4) (by simp [HL.out]) (by have := HL.out; omega), ← blend_set (l := l) (m := List.replicate (n * 8) 0) (k := k * 8 + 3) (by simp [HL.out]) (by have := HL.out; omega), ← blend_set (l := l) (m := List.replicate (n * 8) 0) (k := k * 8 + 2) (by simp [HL.out]) (by have := HL.out; omega), ← blend_set (l := l) (m := List.replicate (n * 8) 0) (k := k * 8 + 1) (by simp [HL.out]) (by have := HL.out; omega), ← blend_set (l := l) (m := List.replicate (n * 8) 0) (k := k * 8) (by simp [HL.out]) (by have := HL.out; omega)]
        exact (((((((((HOW2.out.set_ (k * 8) (l[k * 8]?.getD 0)).set_ (k * 8 + 1) (l[k * 8 + 1]?.getD 0)).set_ (k * 8 + 2) (l[k * 8 + 2]?.getD 0)).set_ (k * 8 + 3) (l[k * 8 + 3]?.getD 0)).set_ (k * 8 + 4) (l[k * 8 + 4]?.getD 0)).set_ (k * 8 + 5) (l[k * 8 + 5]?.getD 0)).set_ (k * 8 + 6) (l[k * 8 + 6]?.getD 0)).set_ (k * 8 + 7) (l[k * 8 + 7]?.getD 0))).here
      case measure => simp [intOf]; omega
    · obtain rfl : k = n := by omega
      have HOW := Lib.hid hown
      clear hown
      go_wp2_with fail
      go_ret
      refine ⟨_, _, _, rfl, ?_, hbw⟩
      have h := HOW.out
      rw [blend_all (by simp [HL.out]) (by rw [HL.out]; exact Nat.le_refl _)] at h
      exact h
set_option maxHeartbeats 1000000 in
theorem eqOpS_any (A B : Option Addr) (n cap cap' : Nat) (l : List Int) (w : World) (hl : l.length = n * 8) (hn : n ≤ 1099511627776) (hr : IRow w A l) (hs : IRow w B l) :
    Calls Try.prog 17 #[.slice A n cap, .slice B n cap'] w fun e w' => e = .returned (.bool true) ∧ Below w.heap.size w w' := by
  have HL := Lib.hid hl
  have HR := Lib.hid hr
  have HS := Lib.hid hs
  clear hl hr hs
  go_enter Try.func17, Try.ntmps17
  go_wp2_with fail
  go_loopw [5] (fun i wr => ∃ k : Nat, k ≤ n ∧ i = .int .i64 k ∧ Below w.heap.size w wr) (fun i _ => n - (intOf i).toNat)
  case atStart => exact ⟨0, Nat.zero_le _, rfl, b0 _⟩
  case round =>
    obtain ⟨k, hk, rfl, hbw⟩ := hrel
    by_cases hlt : k < n
    · have hkl : k * 8 + 8 ≤ n * 8 := by omega
      obtain ⟨g, off, rfl, hg, hc⟩ := (HR.out.below hbw).at_ (k := k * 8) (by have := HL.out; omega)
      obtain ⟨g', off', rfl, hg', hd⟩ := (HS.out.below hbw).at_ (k := k * 8) (by have := HL.out; omega)
      have hc0 : wr.cell? ⟨g, off + k * 8, none⟩ = some (.int .i64 (l[k * 8]?.getD 0)) := by have h := hc (k * 8) (by have := HL.out; omega); simpa [Nat.add_assoc] using h
      have hc1 : wr.cell? ⟨g, off + k * 8 + 1, none⟩ = some (.int .i64 (l[k * 8 + 1]?.getD 0)) := by have h := hc (k * 8 + 1) (by have := HL.out; omega); simpa [Nat.add_assoc] using h
      have hc2 : wr.cell? ⟨g, off + k * 8 + 2, none⟩ = some (.int .i64 (l[k * 8 + 2]?.getD 0)) := by have h := hc (k * 8 + 2) (by have := HL.out; omega); simpa [Nat.add_assoc] using h
      have hc3 : wr.cell? ⟨g, off + k * 8 + 3, none⟩ = some (.int .i64 (l[k * 8 + 3]?.getD 0)) := by have h := hc (k * 8 + 3) (by have := HL.out; omega); simpa [Nat.add_assoc] using h
      have hc4 : wr.cell? ⟨g, off + k * 8 + 4, none⟩ = some (.int .i64 (l[k * 8 + 4]?.getD 0)) := by have h := hc (k * 8 + 4) (by have := HL.out; omega); simpa [Nat.add_assoc] using h
      have hc5 : wr.cell? ⟨g, off + k * 8 + 5, none⟩ = some (.int .i64 (l[k * 8 + 5]?.getD 0)) := by have h := hc (k * 8 + 5) (by have := HL.out; omega); simpa [Nat.add_assoc] using h
      have hc6 : wr.cell? ⟨g, off + k * 8 + 6, none⟩ = some (.int .i64 (l[k * 8 + 6]?.getD 0)) := by have h := hc (k * 8 + 6) (by have := HL.out; omega); simpa [Nat.add_assoc] using h
      have hc7 : wr.cell? ⟨g, off + k * 8 + 7, none⟩ = some (.int .i64 (l[k * 8 + 7]?.getD 0)) := by have h := hc (k * 8 + 7) (by have := HL.out; omega); simpa [Nat.add_assoc] using h
      have hd0 : wr.cell? ⟨g', off' + k * 8, none⟩ = some (.int .i64 (l[k * 8]?.getD 0)) := by have h := hd (k * 8) (by have := HL.out; omega); simpa [Nat.add_assoc] using h
      have hd1 : wr.cell? ⟨g', off' + k * 8 + 1, none⟩ = some (.int .i64 (l[k * 8 + 1]?.getD 0)) := by have h := hd (k * 8 + 1) (by have := HL.out; omega); simpa [Nat.add_assoc] using h
      have hd2 : wr.cell? ⟨g', off' + k * 8 + 2, none⟩ = some (.int .i64 (l[k * 8 + 2]?.getD 0)) := by have h := hd (k * 8 + 2) (by have := HL.out; omega); simpa [Nat.add_assoc] using h
      have hd3 : wr.cell? ⟨g', off' + k * 8 + 3, none⟩ = some (.int .i64 (l[k * 8 + 3]?.getD 0)) := by have h := hd (k * 8 + 3) (by have := HL.out; omega); simpa [Nat.add_assoc] using h
      have hd4 : wr.cell? ⟨g', off' + k * 8 + 4, none⟩ = some (.int .i64 (l[k * 8 + 4]?.getD 0)) := by have h := hd (k * 8 + 4) (by have := HL.out; omega); simpa [Nat.add_assoc] using h
      have hd5 : wr.cell? ⟨g', off' + k * 8 + 5, none⟩ = some (.int .i64 (l[k * 8 + 5]?.getD 0)) := by have h := hd (k * 8 + 5) (by have := HL.out; omega); simpa [Nat.add_assoc] using h
      have hd6 : wr.cell? ⟨g', off' + k * 8 + 6, none⟩ = some (.int .i64 (l[k * 8 + 6]?.getD 0)) := by have h := hd (k * 8 + 6) (by have := HL.out; omega); simpa [Nat.add_assoc] using h
      have hd7 : wr.cell? ⟨g', off' + k * 8 + 7, none⟩ = some (.int .i64 (l[k * 8 + 7]?.getD 0)) := by have h := hd (k * 8 + 7) (by have := HL.out; omega); simpa [Nat.add_assoc] using h
      clear hc hd
      have hi1 : ((k : Int)) < (n : Int) := by omega
      generalize l[k * 8]?.getD 0 = x0 at *
      generalize l[k * 8 + 1]?.getD 0 = x1 at *
      generalize l[k * 8 + 2]?.getD 0 = x2 at *
      generalize l[k * 8 + 3]?.getD 0 = x3 at *
      generalize l[k * 8 + 4]?.getD 0 = x4 at *
      generalize l[k * 8 + 5]?.getD 0 = x5 at *
      generalize l[k * 8 + 6]?.getD 0 = x6 at *
      generalize l[k * 8 + 7]?.getD 0 = x7 at *
      go_wp2_with fail
      go_region_held3 (fun w' => w'.cell? ⟨g, off + k * 8, none⟩ = some (.int .i64 x0) ∧ w'.cell? ⟨g, off + k * 8 + 1, none⟩ = some (.int .i64 x1) ∧ w'.cell? ⟨g, off + k * 8 + 2, none⟩ = some (.int .i64 x2) ∧ w'.cell? ⟨g, off + k * 8 + 3, none⟩ = some (.int .i64 x3) ∧ w'.cell? ⟨g, off + k * 8 + 4, none⟩ = some (.int .i64 x4) ∧ w'.cell? ⟨g, off + k * 8 + 5, none⟩ = some (.int .i64 x5) ∧ w'.cell? ⟨g, off + k * 8 + 6, none⟩ = some (.int .i64 x6) ∧ w'.cell? ⟨g, off + k * 8 + 7, none⟩ = some (.int .i64 x7) ∧ w'.cell? ⟨g', off' + k * 8, none⟩ = some (.int .i64 x0) ∧ w'.cell? ⟨g', off' + k * 8 + 1, none⟩ = some (.int .i64 x1) ∧ w'.cell? ⟨g', off' + k * 8 + 2, none⟩ = some (.int .i64 x2) ∧ w'.cell? ⟨g', off' + k * 8 + 3, none⟩ = some (.int .i64 x3) ∧ w'.cell? ⟨g', off' + k * 8 + 4, none⟩ = some (.int .i64 x4) ∧ w'.cell? ⟨g', off' + k * 8 + 5, none⟩ = some (.int .i64 x5) ∧ w'.cell? ⟨g', off' + k * 8 + 6, none⟩ = some (.int .i64 x6) ∧ w'.cell? ⟨g', off' + k * 8 + 7, none⟩ = some (.int .i64 x7)) (go_keep)
        (first
          | (go_at_call 53; refine (eqOp_any _ _ _ _ _ _ _ _ _).mono ?_; rintro e w2 ⟨rfl, hb2⟩; have r2 := fun o => bkeep hb2 g o hg; have r2' := fun o => bkeep hb2 g' o hg'))
      go_wp2_with fail
      go_roundw
      case rel => exact ⟨k + 1, by omega, by go_num, bt hbw.drew hb2⟩
      case measure => simp [intOf]; omega
    · obtain rfl : k = n := by omega
      go_wp2_with fail
      go_ret
      exact ⟨rfl, hbw⟩
theorem flatOp {H : Type} (enc : TypeId × Value → H) (w : World) : Flat enc Try.prog w 75 8 := by
  intro fuel cs x h j hj
  obtain ⟨xs, m, _, rfl, hl, hlen, hg⟩ := DataW.trod_struct Try.underlying75 h
  have hl8 : cs.length = 8 := by rw [hl]; kernel_rfl
  by_cases h0 : j = 0
  · subst h0
    obtain ⟨c, hc⟩ : ∃ c, cs[0]? = some c := ⟨_, List.getElem?_eq_getElem (by omega)⟩
    obtain ⟨n, rfl, hw⟩ := leaf_int Try.underlying75 h 0 _ rfl Try.underlying3 (by kernel_rfl) hc
    exact ⟨n, hc, hw⟩
  by_cases h7 : j = 7
  · subst h7
    obtain ⟨c, hc⟩ : ∃ c, cs[7]? = some c := ⟨_, List.getElem?_eq_getElem (by omega)⟩
    obtain ⟨n, rfl, hw⟩ := leaf_int Try.underlying75 h 2 _ rfl Try.underlying3 (by kernel_rfl) hc
    exact ⟨n, hc, hw⟩
  obtain ⟨k, rfl⟩ : ∃ k, j = k + 1 := ⟨j - 1, by omega⟩
  obtain ⟨x2, hx2⟩ : ∃ x2, xs[1]? = some x2 := ⟨_, List.getElem?_eq_getElem (by rw [hlen]; decide)⟩
  have h1 := (hg 1 _ rfl).trans hx2
  have hc : Try.prog.cellsOf 53 = 6 := by kernel_rfl
  have h2 : DataW.trod enc Try.prog w 0 (fun _ => true) true m 53 ((cs.drop 1).take 6) = some x2 := (congrArg (fun z => DataW.trod enc Try.prog w 0 (fun _ => true) true m 53 ((cs.drop 1).take z)) hc.symm).trans h1
  obtain ⟨n, hn, hw⟩ := flatPacket enc w _ _ _ h2 k (by omega)
  refine ⟨n, ?_, hw⟩
  rw [List.getElem?_take, List.getElem?_drop] at hn
  split at hn
  · rw [Nat.add_comm]
    exact hn
  · cases hn
end Go.Proofs.Ytgcbpooflecbpaa
