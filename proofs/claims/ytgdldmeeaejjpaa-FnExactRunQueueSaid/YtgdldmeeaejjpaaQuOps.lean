/- The contracts of what copies a queue, checks it, and of the Ids of packets. -/
import Derived.Test.YtgdldmeeaejjpaaQuSmall
import Derived.Test.YtgdldmeeaejjpaaAppend
import Derived.Test.YtgdldmeeaejjpaaInts
import Derived.Deep.RegionHeld3
namespace Go.Proofs.Ytgdldmeeaejjpaa
open Go.ChangeShapes Go.WideShapes Go.ChangeAt Go.RowKit
set_option linter.unusedVariables false
/-! ### Ids -/
def idl (L : List Pk) (k : Nat) : List Int := (L.take k).map Pk.id
theorem idl_zero (L : List Pk) : idl L 0 = [] := by simp [idl]
theorem idl_succ {L : List Pk} {k : Nat} {p : Pk} (h : L[k]? = some p) : idl L (k + 1) = idl L k ++ [p.id] := by
  obtain ⟨hk, hp⟩ := List.getElem?_eq_some_iff.1 h
  simp [idl, List.take_succ_eq_append_getElem hk, hp]
theorem idl_all (L : List Pk) : idl L L.length = L.map Pk.id := by simp [idl]
set_option maxHeartbeats 1000000 in
theorem quIds_any (A : Option Addr) (n cap : Nat) (L : List Pk) (w : World) (hl : L.length = n) (hr : IRow w A (fl L)) (hn : n ≤ 1048576) :
    Calls Try.prog 51 #[.slice A n cap] w (NewInts w (L.map Pk.id)) := by
  have HL := Lib.hid hl
  have HR := Lib.hid hr
  clear hl hr
  go_enter Try.func51, Try.ntmps51
  go_wp2_with fail
  go_loopw [3, 8] (fun v i wr => ∃ (k : Nat) (B : Option Addr) (c : Nat), k ≤ n ∧ i = .int .i64 k ∧ v = .slice B k c ∧ IOwn wr w.heap.size wr.heap.size 3 1 B k c (idl L k) ∧ Below w.heap.size w wr) (fun _ i _ => n - (intOf i).toNat)
  case atStart => first | exact ⟨0, none, 0, Nat.zero_le _, rfl, rfl, by rw [idl_zero]; exact IOwn.none_ _ _ _ _ _, b0 _⟩ | exact ⟨0, _, 0, Nat.zero_le _, rfl, rfl, by rw [idl_zero]; exact (IOwn.lit0 w _ _ _ (Nat.le_refl _)).here, ba (b0 _) _⟩
  case round =>
    obtain ⟨k, B, c, hk, rfl, rfl, hown, hbw⟩ := hrel
    have HO := Lib.hid hown
    clear hown
    have zb := hbw.size
    by_cases hlt : k < n
    · obtain ⟨g, off, p, rfl, hg, hpk, c0, c1, c2, c3, c4, c5⟩ := pk_at (HR.out.below hbw) (k := k) (by have := HL.out; omega)
      have HE := Lib.hid (idl_succ hpk)
      clear hpk
      go_wp2_with (at_builtin; refine append_int rfl _ _ rfl (lo := w.heap.size) (hh := wr.heap.size + 1 + 1) (l := idl L k) rfl (((HO.out.alloc _).alloc _).more (by omega)) (wr.heap.size + 1) p.id rfl ((Bk.new_ (by simp)).cell 0) (by omega) (by simp; omega) ?_; intro B' c' w4 ho3 hb3; rw [← HE.out] at ho3; have HO3 := Lib.hid ho3; clear ho3)
      go_roundw
      case rel => exact ⟨k + 1, B', c', by omega, by go_num, rfl, HO3.out, (ba (ba hbw _) _).trans hb3⟩
      case measure => simp [intOf]; omega
    · obtain rfl : k = n := by omega
      go_wp2_with fail
      go_ret
      refine ⟨B, k, c, rfl, ?_, hbw⟩
      rw [← idl_all, HL.out]
      exact HO.out
/-! ### quWith -/
set_option maxRecDepth 100000 in
set_option maxHeartbeats 2000000 in
theorem quWith_any (li by_ : Int) (A : Option Addr) (n cap : Nat) (se dr : Int) (X : Option Addr) (m c : Nat) (M : List Pk) (ds dd : Int) (w : World) (hm : M.length = m) (hr : IRow w X (fl M)) (hX : X = none → c = 0) (hmb : m ≤ 1048576)
    (s1 : 0 ≤ se ∧ se ≤ 1000000) (d1 : 0 ≤ dr ∧ dr ≤ 1000000) (s2 : 0 ≤ ds ∧ ds ≤ 1000000) (d2 : 0 ≤ dd ∧ dd ≤ 1000000) :
    Calls Try.prog 49 #[.agg #[.int .i64 li, .int .i64 by_, .slice A n cap, .int .i64 se, .int .i64 dr], .slice X m c, .int .i64 ds, .int .i64 dd] w (NewQ w li by_ m M (se + ds) (dr + dd)) := by
  have HM := Lib.hid (show (fl M).length = m * 6 by rw [fl_len, hm])
  have HR := Lib.hid (fun (W : World) (hb : Below w.heap.size w W) => hr.below hb)
  clear hm hr
  have HX := Lib.hid hX
  clear hX
  obtain ⟨i0, hi, hz0, hz1, hz2⟩ := info_parts tPacket
  have HI := Lib.hid hi
  have HZ0 := Lib.hid hz0
  have HZ1 := Lib.hid hz1
  have HZ2 := Lib.hid hz2
  clear hi hz0 hz1 hz2
  have ws : IntKind.i64.wrap (se + ds) = se + ds := IntWalk.i64_in _ (by omega)
  have wd : IntKind.i64.wrap (dr + dd) = dr + dd := IntWalk.i64_in _ (by omega)
  go_enter Try.func49, Try.ntmps49
  go_wp2_with fail
  obtain ⟨W, hW⟩ : ∃ W, W = ((w.alloc (.cells #[.int .i64 li, .int .i64 by_, .slice A n cap, .int .i64 se, .int .i64 dr] 30)).alloc (.cells #[.int .i64 0, .int .i64 0, .slice none 0 0, .int .i64 0, .int .i64 0] 30)) := ⟨_, rfl⟩
  rw [← hW]
  have b1 : Bk W w.heap.size 30 #[.int .i64 li, .int .i64 by_, .slice A n cap, .int .i64 se, .int .i64 dr] := by rw [hW]; exact (Bk.new w _ _).alloc _
  have b2 : Bk W (w.heap.size + 1) 30 #[.int .i64 0, .int .i64 0, .slice none 0 0, .int .i64 0, .int .i64 0] := by rw [hW]; exact Bk.new_ (by simp)
  have HBW := Lib.hid (show Below w.heap.size w W by rw [hW]; exact ba (ba (b0 w) _) _)
  have zW : W.heap.size = w.heap.size + 1 + 1 := by rw [hW]; simp
  have HZW := Lib.hid zW
  have zW1 : w.heap.size + 1 < W.heap.size := by omega
  have zW0 : w.heap.size < W.heap.size := by omega
  clear hW zW
  have k0 := b1.cell 0
  have k1 := b1.cell 1
  have k3 := b1.cell 3
  have k4 := b1.cell 4
  have l0 := b2.cell 0
  have l1 := b2.cell 1
  have l2 := b2.cell 2
  have l3 := b2.cell 3
  have l4 := b2.cell 4
  simp at k0 k1 k3 k4 l0 l1 l2 l3 l4
  have lf := b2.free
  have HB2 := Lib.hid b2
  clear b1 b2
  go_region_held3 (fun w' => w'.cell? ⟨w.heap.size, 0, none⟩ = some (.int .i64 li) ∧ w'.cell? ⟨w.heap.size, 1, none⟩ = some (.int .i64 by_) ∧ w'.cell? ⟨w.heap.size, 3, none⟩ = some (.int .i64 se) ∧ w'.cell? ⟨w.heap.size, 4, none⟩ = some (.int .i64 dr)) (first | go_keep | (go_split_ands; refine ⟨?_, ?_, ?_, ?_⟩ <;> first | exact (hb3.cell (p := ⟨w.heap.size, _, none⟩) zW0).trans (by assumption) | (rw [hb3.cell (p := ⟨w.heap.size, _, none⟩) zW0]; simp [k0, k1, k3, k4, zW0])))
    (first
      | (refine step_append_many (by rfl) _ _ _ (by rfl) _ i0 _ 6 48 Try.underlying28 HI.out HZ0.out HZ1.out HZ2.out rfl (by decide) (lo := W.heap.size) (hh := W.heap.size + 1) (l := []) (by rfl) (IOwn.lit0 W.drew _ _ _ (Nat.le_refl _)) (fl M) (by rfl) HX.out HM.out (HR.out _ (ba HBW.out.drew _)) (by omega) (by omega) (by simp) ?_; intro A' c' w4 ho3 hb3; have r3 := fun o => hb3.cell (p := ⟨w.heap.size + 1, o, none⟩) zW1; have rf3 := fun o => hb3.frozen (p := ⟨w.heap.size + 1, o, none⟩) zW1))
  have b4 := (HB2.out.alloc (.cells #[] 35)).drew.below hb3 zW1
  have n0 := b4.cell 0
  have n1 := b4.cell 1
  have n2 := b4.cell 2
  have n3 := b4.cell 3
  have n4 := b4.cell 4
  simp at n0 n1 n2 n3 n4
  have HB4 := Lib.hid ((ba HBW.out (.cells #[] 35)).drew.trans (hb3.mono (Nat.le_of_lt zW0)))
  simp only [Nat.zero_add, List.nil_append] at ho3
  have HO4 := Lib.hid (ho3.lo_le (lo' := w.heap.size + 1 + 1) (Nat.le_of_eq HZW.out.symm))
  clear ws wd b4 ho3 hb3 r3 rf3
  go_wp2_with fail
  refine bodyPost_ret (v := .agg #[.int .i64 li, .int .i64 by_, .slice A' m c', .int .i64 (se + ds), .int .i64 (dr + dd)]) (by simp [results, Try.results49, go_sem, n0, n1, n2, n3, n4]) rfl ⟨A', c', rfl, ?_, ?_⟩
  · exact (by refine IOw.here (lo := w.heap.size + 1 + 1) ?_ (by omega); repeat (first | (with_reducible exact IOw.of HO4.out) | (with_reducible refine IOw.alloc ?_ _) | (with_reducible refine IOw.farB ?_ (by omega)) | (with_reducible refine IOw.drewN ?_ _) | (with_reducible refine IOw.drew ?_)))
  · exact (by repeat (first | (with_reducible exact HB4.out) | (with_reducible refine ba ?_ _) | (with_reducible refine bsB ?_ (by omega)) | (with_reducible refine bd ?_ _) | (with_reducible refine Below.drew ?_)))
/-! ### quIf -/
/-- A queue whose packets are the call's own, and a bool. -/
def NewQB (w : World) (li by_ : Int) (n : Nat) (L : List Pk) (se dr : Int) (b : Bool) (e : Ending) (w' : World) : Prop :=
  ∃ A cap, e = .returned (.tuple #[.agg #[.int .i64 li, .int .i64 by_, .slice A n cap, .int .i64 se, .int .i64 dr], .bool b]) ∧ IOwn w' w.heap.size w'.heap.size 35 6 A n cap (fl L) ∧ Below w.heap.size w w'
theorem quIf_no (li by_ : Int) (A : Option Addr) (n cap : Nat) (se dr : Int) (L : List Pk) (w : World) (hl : L.length = n) (hr : IRow w A (fl L)) (hn : n ≤ 1048576) (h : qok li by_ L se dr = false) :
    Calls Try.prog 53 #[.agg #[.int .i64 li, .int .i64 by_, .slice A n cap, .int .i64 se, .int .i64 dr]] w fun e w' => e = .returned (.tuple #[.agg #[.int .i64 0, .int .i64 0, .slice none 0 0, .int .i64 0, .int .i64 0], .bool false]) ∧ Below w.heap.size w w' := by
  have HL := Lib.hid hl
  have HR := Lib.hid (fun (o p : Obj) => hr.below (ba (ba (b0 w) o) p))
  clear hl hr
  go_enter Try.func53, Try.ntmps53
  go_wp2_with fail
  refine (quGood_any _ _ _ _ _ _ _ L _ HL.out (HR.out _ _) (by omega)).mono ?_
  rw [h]
  rintro e w1 ⟨rfl, hg⟩
  have zhg := hg.size; (try simp at zhg); have c0hg := fun o => bkeep hg (w.heap.size) o (by first | omega | (simp; done) | (simp; omega)); have f0hg := fun o => bfree hg (w.heap.size) o (by first | omega | (simp; done) | (simp; omega)); have c1hg := fun o => bkeep hg (w.heap.size + 1) o (by first | omega | (simp; done) | (simp; omega)); have f1hg := fun o => bfree hg (w.heap.size + 1) o (by first | omega | (simp; done) | (simp; omega))
  go_wp2_with fail
  exact bodyPost_ret (v := .tuple #[.agg #[.int .i64 0, .int .i64 0, .slice none 0 0, .int .i64 0, .int .i64 0], .bool false]) (by simp [results, Try.results53, go_sem, c1hg]) rfl ⟨rfl, (by repeat (first | (with_reducible exact b0 _) | (with_reducible refine ba ?_ _) | (with_reducible refine bd ?_ _) | (with_reducible refine Below.drew ?_) | (with_reducible refine bs ?_ (by first | exact Nat.le_refl _ | exact Nat.le_add_right _ _ | omega) _) | (with_reducible refine bt ?_ (by assumption))))⟩
theorem quIf_yes (li by_ : Int) (A : Option Addr) (n cap : Nat) (se dr : Int) (L : List Pk) (w : World) (hl : L.length = n) (hr : IRow w A (fl L)) (hn : n ≤ 1048576) (h : qok li by_ L se dr = true) :
    Calls Try.prog 53 #[.agg #[.int .i64 li, .int .i64 by_, .slice A n cap, .int .i64 se, .int .i64 dr]] w fun e w' => e = .returned (.tuple #[.agg #[.int .i64 li, .int .i64 by_, .slice A n cap, .int .i64 se, .int .i64 dr], .bool true]) ∧ Below w.heap.size w w' := by
  have HL := Lib.hid hl
  have HR := Lib.hid (fun (o p : Obj) => hr.below (ba (ba (b0 w) o) p))
  clear hl hr
  go_enter Try.func53, Try.ntmps53
  go_wp2_with fail
  refine (quGood_any _ _ _ _ _ _ _ L _ HL.out (HR.out _ _) (by omega)).mono ?_
  rw [h]
  rintro e w1 ⟨rfl, hg⟩
  have zhg := hg.size; (try simp at zhg); have c0hg := fun o => bkeep hg (w.heap.size) o (by first | omega | (simp; done) | (simp; omega)); have f0hg := fun o => bfree hg (w.heap.size) o (by first | omega | (simp; done) | (simp; omega)); have c1hg := fun o => bkeep hg (w.heap.size + 1) o (by first | omega | (simp; done) | (simp; omega)); have f1hg := fun o => bfree hg (w.heap.size + 1) o (by first | omega | (simp; done) | (simp; omega))
  go_wp2_with fail
  exact bodyPost_ret (v := .tuple #[.agg #[.int .i64 li, .int .i64 by_, .slice A n cap, .int .i64 se, .int .i64 dr], .bool true]) (by simp [results, Try.results53, go_sem, c1hg]) rfl ⟨rfl, (by repeat (first | (with_reducible exact b0 _) | (with_reducible refine ba ?_ _) | (with_reducible refine bd ?_ _) | (with_reducible refine Below.drew ?_) | (with_reducible refine bs ?_ (by first | exact Nat.le_refl _ | exact Nat.le_add_right _ _ | omega) _) | (with_reducible refine bt ?_ (by assumption))))⟩
end Go.Proofs.Ytgdldmeeaejjpaa
