/- The contracts of the laws' helpers on Queue: size, copy, comparison, marking. -/
import Derived.Test.YtgdldmeeaejjpaaQueue2
import Derived.Test.YtgdldmeeaejjpaaOw
namespace Go.Proofs.Ytgdldmeeaejjpaa
open Go.ChangeShapes Go.WideShapes Go.ChangeAt Go.RowKit
set_option linter.unusedVariables false
theorem szQueue_any (li by_ : Int) (A : Option Addr) (n cap : Nat) (se dr : Int) (w : World) (hn : n ≤ 9223372036854775807) {v : Int} (hv : (if n ≤ 1048576 then 1048576 - (n : Int) else -1) = v) :
    Calls Try.prog 12 #[.agg #[.int .i64 li, .int .i64 by_, .slice A n cap, .int .i64 se, .int .i64 dr], .int .i64 1048576] w fun e w' => e = .returned (.int .i64 v) ∧ Below w.heap.size w w' := by
  subst hv
  by_cases h : n ≤ 1048576
  · have h' : ¬ (1048576 : Int) < n := by omega
    have hR := Lib.hid (show (if n ≤ 1048576 then 1048576 - (n : Int) else -1) = 1048576 - (n : Int) by simp [h])
    go_enter Try.func12, Try.ntmps12
    go_wp2_with fail
    go_in
    go_wp2_with fail
    go_ret
    exact ⟨by first | rfl | (rw [hR.out]; rfl), (by repeat (first | (with_reducible exact b0 _) | (with_reducible refine ba ?_ _) | (with_reducible refine bd ?_ _) | (with_reducible refine Below.drew ?_) | (with_reducible refine bs ?_ (by first | exact Nat.le_refl _ | exact Nat.le_add_right _ _ | omega) _) | (with_reducible refine bt ?_ (by assumption))))⟩
  · have h' : (1048576 : Int) < n := by omega
    have hR := Lib.hid (show (if n ≤ 1048576 then 1048576 - (n : Int) else -1) = -1 by simp [h])
    go_enter Try.func12, Try.ntmps12
    go_wp2_with fail
    go_in
    go_wp2_with fail
    go_ret
    exact ⟨by first | rfl | (rw [hR.out]; rfl), (by repeat (first | (with_reducible exact b0 _) | (with_reducible refine ba ?_ _) | (with_reducible refine bd ?_ _) | (with_reducible refine Below.drew ?_) | (with_reducible refine bs ?_ (by first | exact Nat.le_refl _ | exact Nat.le_add_right _ _ | omega) _) | (with_reducible refine bt ?_ (by assumption))))⟩
/-- A queue whose packets are the call's own. -/
def NewQ (w : World) (li by_ : Int) (n : Nat) (L : List Pk) (se dr : Int) (e : Ending) (w' : World) : Prop :=
  ∃ A cap, e = .returned (.agg #[.int .i64 li, .int .i64 by_, .slice A n cap, .int .i64 se, .int .i64 dr]) ∧ IOwn w' w.heap.size w'.heap.size 35 6 A n cap (fl L) ∧ Below w.heap.size w w'
set_option maxHeartbeats 1000000 in
theorem toQueue_any (li by_ : Int) (A : Option Addr) (n cap : Nat) (se dr : Int) (L : List Pk) (w : World) (hl : L.length = n) (hr : IRow w A (fl L)) (hn : n ≤ 1048576) :
    Calls Try.prog 14 #[.agg #[.int .i64 li, .int .i64 by_, .slice A n cap, .int .i64 se, .int .i64 dr]] w (NewQ w li by_ n L se dr) := by
  have HL := Lib.hid (show (fl L).length = n * 6 by rw [fl_len, hl])
  have HR := Lib.hid (fun (o p q : Obj) => hr.below (ba (ba (ba (b0 w) o) p) q))
  clear hl hr
  go_enter Try.func14, Try.ntmps14
  go_wp2_with fail
  refine (toPacketS_any _ _ _ (fl L) _ HL.out (HR.out _ _ _) hn).mono ?_
  rintro e w1 ⟨A', n', cap', rfl, ho, hb⟩
  obtain rfl : n' = n := by have := ho.len; have := HL.out; omega
  have b0' := ((Bk.new_ (g := w.heap.size) (by simp)).alloc _ |>.alloc _).old hb
  have b1' := ((Bk.new_ (g := w.heap.size + 1) (by simp)).alloc _).old hb
  have b2' := (Bk.new_ (g := w.heap.size + 1 + 1) (by simp)).old hb
  have z0 := b0'.lt
  have z1 := b1'.lt
  have z2 := b2'.lt
  have k3 := b0'.cell 3
  have k4 := b0'.cell 4
  have l0 := b1'.cell 0
  have l1 := b1'.cell 1
  have l2 := b1'.cell 2
  have l3 := b1'.cell 3
  have l4 := b1'.cell 4
  have m0 := b2'.cell 0
  have m1 := b2'.cell 1
  have m2 := b2'.cell 2
  have m3 := b2'.cell 3
  have m4 := b2'.cell 4
  simp at k3 k4 l0 l1 l2 l3 l4 m0 m1 m2 m3 m4
  have lf := b1'.free
  have mf := b2'.free
  have HB := Lib.hid (bt (ba (ba (ba (b0 w) _) _) _) hb)
  have HO := Lib.hid (ho.lo_le (lo' := w.heap.size + 1 + 1 + 1) (by simp))
  clear ho hb b0' b1' b2'
  go_wp2_with fail
  refine bodyPost_ret (v := .agg #[.int .i64 li, .int .i64 by_, .slice A' n' cap', .int .i64 se, .int .i64 dr]) (by simp [results, Try.results14, go_sem, l0, l1, l2, l3, l4]) rfl ⟨A', cap', rfl, ?_, ?_⟩
  · exact (by refine IOw.here (lo := w.heap.size + 1 + 1 + 1) ?_ (by omega); repeat (first | (with_reducible exact IOw.of HO.out) | (with_reducible refine IOw.alloc ?_ _) | (with_reducible refine IOw.farB ?_ (by omega)) | (with_reducible refine IOw.drewN ?_ _) | (with_reducible refine IOw.drew ?_)))
  · exact (by repeat (first | (with_reducible exact HB.out) | (with_reducible refine ba ?_ _) | (with_reducible refine bsB ?_ (by omega)) | (with_reducible refine bd ?_ _) | (with_reducible refine Below.drew ?_)))
set_option maxHeartbeats 1000000 in
theorem eqQueue_any (li by_ : Int) (A B : Option Addr) (n cap cap' : Nat) (se dr : Int) (l : List Int) (w : World) (hl : l.length = n * 6) (hr : IRow w A l) (hs : IRow w B l) (hn : n ≤ 1099511627776) :
    Calls Try.prog 17 #[.agg #[.int .i64 li, .int .i64 by_, .slice A n cap, .int .i64 se, .int .i64 dr], .agg #[.int .i64 li, .int .i64 by_, .slice B n cap', .int .i64 se, .int .i64 dr]] w fun e w' => e = .returned (.bool true) ∧ Below w.heap.size w w' := by
  have HL := Lib.hid hl
  have HR := Lib.hid (fun (o p : Obj) => hr.below (ba (ba (b0 w) o) p))
  have HS := Lib.hid (fun (o p : Obj) => hs.below (ba (ba (b0 w) o) p))
  clear hl hr hs
  go_enter Try.func17, Try.ntmps17
  go_wp2_with fail
  refine (eqPacketS_any _ _ _ _ _ l _ HL.out hn (HR.out _ _) (HS.out _ _)).mono ?_
  rintro e w1 ⟨rfl, hg⟩
  have zhg := hg.size; (try simp at zhg); have c0hg := fun o => bkeep hg (w.heap.size) o (by first | omega | (simp; done) | (simp; omega)); have f0hg := fun o => bfree hg (w.heap.size) o (by first | omega | (simp; done) | (simp; omega)); have c1hg := fun o => bkeep hg (w.heap.size + 1) o (by first | omega | (simp; done) | (simp; omega)); have f1hg := fun o => bfree hg (w.heap.size + 1) o (by first | omega | (simp; done) | (simp; omega))
  go_wp2_with fail
  go_ret
  exact ⟨rfl, (by repeat (first | (with_reducible exact b0 _) | (with_reducible refine ba ?_ _) | (with_reducible refine bd ?_ _) | (with_reducible refine Below.drew ?_) | (with_reducible refine bs ?_ (by first | exact Nat.le_refl _ | exact Nat.le_add_right _ _ | omega) _) | (with_reducible refine bt ?_ (by assumption))))⟩
theorem markQueue_any (li by_ : Int) (A : Option Addr) (n cap : Nat) (se dr : Int) (l : List Int) (k : Int) (lo hi : Nat) (w : World) (ho : IOwn w lo hi 35 6 A n cap l) (hhi : hi ≤ w.heap.size) (hn : n ≤ 1099511627776) (k0 : 0 ≤ k) (k1 : k ≤ 1099511627776) :
    Calls Try.prog 19 #[.agg #[.int .i64 li, .int .i64 by_, .slice A n cap, .int .i64 se, .int .i64 dr], .int .i64 k] w (MarkedPacket w lo hi A n cap k) := by
  have HO := Lib.hid (fun (o : Obj) => ho.alloc o)
  clear ho
  go_enter Try.func19, Try.ntmps19
  go_wp2_with fail
  refine (markPacketS_any _ _ _ l _ _ _ _ (HO.out _) hn k0 k1).mono ?_
  rintro e w1 ⟨rfl, ho, hc⟩
  have HO1 := Lib.hid ho
  clear ho
  go_wp2_with fail
  go_ret
  exact ⟨rfl, HO1.out, (Chg.of_below (ba (b0 w) _)).trans hc⟩
theorem heldQueue_any (li by_ : Int) (A : Option Addr) (n cap : Nat) (se dr : Int) (k : Int) (w : World) (hr : IRow w A (marks k (n * 6))) (hn : n ≤ 1099511627776) (k0 : 0 ≤ k) (k1 : k ≤ 1099511627776) :
    Calls Try.prog 21 #[.agg #[.int .i64 li, .int .i64 by_, .slice A n cap, .int .i64 se, .int .i64 dr], .int .i64 k] w fun e w' => e = .returned (.int .i64 (k + (n * 6 : Nat))) ∧ Below w.heap.size w w' := by
  have HR := Lib.hid (fun (o : Obj) => hr.below (ba (b0 w) o))
  clear hr
  go_enter Try.func21, Try.ntmps21
  go_wp2_with fail
  refine (heldPacketS_any _ _ _ _ _ (HR.out _) hn k0 k1).mono ?_
  rintro e w1 ⟨rfl, hg⟩
  go_wp2_with fail
  go_ret
  exact ⟨rfl, (by repeat (first | (with_reducible exact b0 _) | (with_reducible refine ba ?_ _) | (with_reducible refine bd ?_ _) | (with_reducible refine Below.drew ?_) | (with_reducible refine bs ?_ (by first | exact Nat.le_refl _ | exact Nat.le_add_right _ _ | omega) _) | (with_reducible refine bt ?_ (by assumption))))⟩
end Go.Proofs.Ytgdldmeeaejjpaa
