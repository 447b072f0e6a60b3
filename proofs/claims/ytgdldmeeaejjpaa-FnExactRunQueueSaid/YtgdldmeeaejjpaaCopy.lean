/- The contracts of what copies a queue's packets. -/
import Derived.Test.YtgdldmeeaejjpaaPut
import Derived.Lib.SliceRun
namespace Go.Proofs.Ytgdldmeeaejjpaa
open Go.ChangeShapes Go.WideShapes Go.ChangeAt Go.RowKit
set_option linter.unusedVariables false
theorem row_none {w : World} {l : List Int} (h : IRow w none l) : l = [] := by
  rcases Nat.eq_zero_or_pos l.length with h0 | h0
  · exact List.eq_nil_of_length_eq_zero h0
  · obtain ⟨g, off, he, _⟩ := h h0
    cases he
set_option maxHeartbeats 1000000 in
theorem clone_any (A : Option Addr) (n cap : Nat) (l : List Int) (w : World) (hl : l.length = n * 6) (hr : IRow w A l) (hn : n ≤ 1048576) :
    Calls Try.prog 94 #[.slice A n cap] w (NewPacketS w l) := by
  have heq := fun (w : World) => Lib.run_eql_slice_nil (P := Try.prog) w 28 35 A n cap 0 0 Try.underlying28
  rcases A with _ | ad
  · have h0 := row_none hr
    subst h0
    simp at heq
    go_enter Try.func94, Try.ntmps94
    go_wp2_with fail
    go_ret
    exact ⟨none, 0, 0, rfl, IOwn.none_ _ _ _ _ _, b0 _⟩
  · obtain ⟨i0, hi, hz0, hz1, hz2⟩ := info_parts tPacket
    have HI := Lib.hid hi
    have HZ0 := Lib.hid hz0
    have HZ1 := Lib.hid hz1
    have HZ2 := Lib.hid hz2
    clear hi hz0 hz1 hz2
    have HL := Lib.hid hl
    have HR := Lib.hid (fun (o : Obj) => hr.below (ba (b0 w) o))
    clear hl hr
    simp at heq
    go_enter Try.func94, Try.ntmps94
    go_wp2_with (at_builtin; refine append_many rfl _ _ _ rfl _ i0 _ 6 48 Try.underlying28 HI.out HZ0.out HZ1.out HZ2.out rfl (by decide) (lo := w.heap.size) (hh := w.heap.size + 1) (l := []) rfl (IOwn.lit0 w _ _ _ (Nat.le_refl _)) l rfl (fun h => by cases h) HL.out (HR.out _) (by omega) (by omega) (by simp) ?_; intro A' c' w4 ho3 hb3; simp only [Nat.zero_add, List.nil_append] at ho3; have HO3 := Lib.hid ho3; clear ho3)
    go_ret
    exact ⟨A', n, c', rfl, HO3.out, (ba (b0 w) _).trans hb3⟩
set_option maxHeartbeats 1000000 in
theorem copyQueue_any (li by_ : Int) (A : Option Addr) (n cap : Nat) (se dr : Int) (L : List Pk) (w : World) (hl : L.length = n) (hr : IRow w A (fl L)) (hn : n ≤ 1048576) :
    Calls Try.prog 55 #[.agg #[.int .i64 li, .int .i64 by_, .slice A n cap, .int .i64 se, .int .i64 dr]] w (NewQ w li by_ n L se dr) := by
  have HL := Lib.hid (show (fl L).length = n * 6 by rw [fl_len, hl])
  have HR := Lib.hid (fun (o p : Obj) => hr.below (ba (ba (b0 w) o) p))
  clear hl hr
  go_enter Try.func55, Try.ntmps55
  go_wp2_with fail
  refine (clone_any _ _ _ (fl L) _ HL.out (HR.out _ _) hn).mono ?_
  rintro e w1 ⟨A', n', cap', rfl, ho, hb⟩
  obtain rfl : n' = n := by have := ho.len; have := HL.out; omega
  have q : Bk w1 (w.heap.size) 30 #[.int .i64 li, .int .i64 by_, .slice A n' cap, .int .i64 se, .int .i64 dr] := ((Bk.new w _ _).alloc _).old hb
  have zq : w.heap.size < w1.heap.size := q.lt
  have q_0 : w1.cell? ⟨w.heap.size, 0, none⟩ = some (.int .i64 li) := q.cell 0
  have q_1 : w1.cell? ⟨w.heap.size, 1, none⟩ = some (.int .i64 by_) := q.cell 1
  have q_2 : w1.cell? ⟨w.heap.size, 2, none⟩ = some (.slice A n' cap) := q.cell 2
  have q_3 : w1.cell? ⟨w.heap.size, 3, none⟩ = some (.int .i64 se) := q.cell 3
  have q_4 : w1.cell? ⟨w.heap.size, 4, none⟩ = some (.int .i64 dr) := q.cell 4
  have qf := q.free
  have Hq := Lib.hid q
  clear q
  have r : Bk w1 (w.heap.size + 1) 30 #[.int .i64 0, .int .i64 0, .slice none 0 0, .int .i64 0, .int .i64 0] := (Bk.new_ (by simp)).old hb
  have zr : w.heap.size + 1 < w1.heap.size := r.lt
  have r_0 : w1.cell? ⟨w.heap.size + 1, 0, none⟩ = some (.int .i64 0) := r.cell 0
  have r_1 : w1.cell? ⟨w.heap.size + 1, 1, none⟩ = some (.int .i64 0) := r.cell 1
  have r_2 : w1.cell? ⟨w.heap.size + 1, 2, none⟩ = some (.slice none 0 0) := r.cell 2
  have r_3 : w1.cell? ⟨w.heap.size + 1, 3, none⟩ = some (.int .i64 0) := r.cell 3
  have r_4 : w1.cell? ⟨w.heap.size + 1, 4, none⟩ = some (.int .i64 0) := r.cell 4
  have rf := r.free
  have Hr := Lib.hid r
  clear r
  have HB := Lib.hid (bt (ba (ba (b0 w) _) _) hb)
  have HO := Lib.hid (ho.lo_le (lo' := w.heap.size + 1 + 1) (by simp))
  clear ho hb
  go_wp2_with fail
  refine bodyPost_ret (v := .agg #[.int .i64 li, .int .i64 by_, .slice A' n' cap', .int .i64 se, .int .i64 dr]) (by simp [results, Try.results55, go_sem, r_0, r_1, r_2, r_3, r_4]) rfl ⟨A', cap', rfl, ?_, ?_⟩
  · exact (by refine IOw.here (lo := w.heap.size + 1 + 1) ?_ (by omega); repeat (first | (with_reducible exact IOw.of HO.out) | (with_reducible refine IOw.alloc ?_ _) | (with_reducible refine IOw.farB ?_ (by omega)) | (with_reducible refine IOw.drewN ?_ _) | (with_reducible refine IOw.drew ?_)))
  · exact (by repeat (first | (with_reducible exact HB.out) | (with_reducible refine ba ?_ _) | (with_reducible refine bsB ?_ (by omega)) | (with_reducible refine bd ?_ _) | (with_reducible refine Below.drew ?_)))
theorem ifQueue_any (li by_ : Int) (A : Option Addr) (n cap : Nat) (se dr : Int) (w : World) :
    Calls Try.prog 58 #[.agg #[.int .i64 li, .int .i64 by_, .slice A n cap, .int .i64 se, .int .i64 dr]] w fun e w' => e = .returned (.bool (cnt se && cnt dr)) ∧ Below w.heap.size w w' := by
  rcases h4 : cnt se with _ | _
  · go_enter Try.func58, Try.ntmps58
    go_wp2_with (go_at_call 95; (with_reducible refine (isCount_b h4 _).mono ?_); rintro e w' ⟨rfl, rfl⟩)
    go_ret
    exact ⟨rfl, (by repeat (first | (with_reducible exact b0 _) | (with_reducible refine ba ?_ _) | (with_reducible refine bd ?_ _) | (with_reducible refine Below.drew ?_) | (with_reducible refine bs ?_ (by first | exact Nat.le_refl _ | exact Nat.le_add_right _ _ | omega) _) | (with_reducible refine bt ?_ (by assumption))))⟩
  · rcases h5 : cnt dr with _ | _
    all_goals
      go_enter Try.func58, Try.ntmps58
      go_wp2_with (first | (go_at_call 95; (with_reducible refine (isCount_b h4 _).mono ?_); rintro e w' ⟨rfl, rfl⟩) | (go_at_call 95; (with_reducible refine (isCount_b h5 _).mono ?_); rintro e w' ⟨rfl, rfl⟩))
      go_ret
      exact ⟨rfl, (by repeat (first | (with_reducible exact b0 _) | (with_reducible refine ba ?_ _) | (with_reducible refine bd ?_ _) | (with_reducible refine Below.drew ?_) | (with_reducible refine bs ?_ (by first | exact Nat.le_refl _ | exact Nat.le_add_right _ _ | omega) _) | (with_reducible refine bt ?_ (by assumption))))⟩
/-- append of one packet. -/
theorem append_pk {w : World} {ops : Array Oper} {rest : List Oper} {o : Oper} {a : Act} {Q : Exit → Act → World → Prop} (hgd : o.guard = none) (sO x : Operand)
    (ho : o.op = .call { callee := .builtin .append, args := #[sO, x], argTypes := #[28, 28] }) {lo hh : Nat} {A : Option Addr} {n cap : Nat} {L : List Pk} (hs : a.eval sO = .slice A n cap) (hown : IOwn w lo hh 35 6 A n cap (fl L))
    (g : Nat) (p : Pk) (hx : a.eval x = .slice (some ⟨g, 0, none⟩) 1 1) (hb : Bk w g 35 #[.int .i64 p.id, .int .i64 p.so, .int .i64 p.de, .int .i64 p.po, .int .i64 p.ma, .int .i64 p.si]) (hn : n ≤ 1099511627776) (hlo : lo ≤ w.heap.size)
    (h : ∀ A' cap' w', IOwn w' lo w'.heap.size 35 6 A' (n + 1) cap' (fl (L ++ [p])) → Below lo w w' → wpList Try.prog ops Q rest (a.put o.dst (.slice A' (n + 1) cap')) w') : wpList Try.prog ops Q (o :: rest) a w := by
  obtain ⟨i0, hi, hz0, hz1, hz2⟩ := info_parts tPacket
  refine append_row hgd sO x 28 ho 35 i0 _ 6 48 Try.underlying28 hi hz0 hz1 hz2 rfl (by decide) hs hown g [p.id, p.so, p.de, p.po, p.ma, p.si] hx rfl ?_ hn (by omega) hlo (by rw [← fl_snoc]; exact h)
  intro j hj
  obtain rfl | rfl | rfl | rfl | rfl | rfl : j = 0 ∨ j = 1 ∨ j = 2 ∨ j = 3 ∨ j = 4 ∨ j = 5 := by omega
  · exact hb.cell 0
  · exact hb.cell 1
  · exact hb.cell 2
  · exact hb.cell 3
  · exact hb.cell 4
  · exact hb.cell 5
end Go.Proofs.Ytgdldmeeaejjpaa
