/- The contract of the reference's ReadHeader. -/
import Derived.Test.YtbhcmolahohmiaaHdSpec
import Derived.Deep.DeepCutAuto
namespace Go.Proofs.Ytbhcmolahohmiaa
open Go.ChangeShapes Go.WideShapes Go.ChangeAt Go.RowKit
set_option linter.unusedVariables false
set_option maxHeartbeats 2000000 in
theorem specReadHeader_any (s : ByteArray) (w : World) : Calls Try.prog 4 #[.string s] w (RhP w s) := by
  by_cases hs : s.size = 16
  rotate_left
  · have h0 : rhOk s = false := by simp [rhOk, hs]
    have HN := Lib.hid h0
    have hne : ((s.size : Int) != 16) = true := by rw [bne_iff_ne]; omega
    clear h0 hs
    go_enter Try.func4, Try.ntmps4
    go_wp2_with fail
    exact bodyPost_ret (v := .tuple #[.agg #[.int .i64 0, .int .i64 0, .int .i64 0, .int .i64 0, .int .i64 0, .int .i64 0], .bool false]) (by simp [results, Try.results4, go_sem]) rfl (RhP_no HN.out rfl (by repeat (first | (with_reducible exact b0 _) | (with_reducible refine ba ?_ _) | (with_reducible refine bd ?_ _) | (with_reducible refine Below.drew ?_) | (with_reducible refine bs ?_ (by first | exact Nat.le_refl _ | exact Nat.le_add_right _ _ | omega) _) | (with_reducible refine bt ?_ (by assumption)))))
  have hsz : (s.size : Int) = 16 := by omega
  have HS := Lib.hid hs
  clear hs
  go_enter Try.func4, Try.ntmps4
  go_wp2_with fail
  obtain ⟨W, hW⟩ : ∃ W, W = w.alloc (.cells #[.int .i64 0, .int .i64 0, .int .i64 0, .int .i64 0, .int .i64 0, .int .i64 0] 23) := ⟨_, rfl⟩
  rw [← hW]
  have HR := Lib.hid (show Bk W w.heap.size 23 #[.int .i64 0, .int .i64 0, .int .i64 0, .int .i64 0, .int .i64 0, .int .i64 0] from by rw [hW]; exact Bk.new _ _ _)
  have HBW := Lib.hid (show Below w.heap.size w W from by rw [hW]; exact ba (b0 w) _)
  have zW : w.heap.size < W.heap.size := by rw [hW]; simp
  clear hW
  go_loopw [4, 5] (fun v i wr => ∃ (k : Nat) (z : Int) (C : Option Addr) (c : Nat), k ≤ 8 ∧ z = 2 * (k : Int) ∧ i = .int .i64 z ∧ v = .slice C k c ∧ IOwn wr W.heap.size wr.heap.size 3 1 C k c (nms s k) ∧ Below W.heap.size W wr) (fun _ i _ => 16 - (intOf i).toNat)
  case atStart => exact ⟨0, 0, none, 0, by omega, rfl, rfl, rfl, IOwn.none_ _ _ _ _ _, b0 _⟩
  case round =>
    obtain ⟨k, z, C, c, hk, hz, rfl, rfl, ho, hbw⟩ := hrel
    have HO := Lib.hid ho
    have HW := Lib.hid hbw
    have zr := hbw.size
    have HZ := Lib.hid hz
    clear ho hbw
    by_cases hlt : k < 8
    · have g0 : 0 ≤ z := by omega
      have g1 : z < 16 := by omega
      have g2 : z + 1 < 16 := by omega
      have ix0 := index_A (s := s) (i := 2 * k) (by have := HS.out; omega) (z := z) (by omega)
      have ix1 := index_A (s := s) (i := 2 * k + 1) (by have := HS.out; omega) (z := z + 1) (by omega)
      have bA := btA_b s (2 * k)
      have bB := btA_b s (2 * k + 1)
      have HN := Lib.hid (show nms s (k + 1) = nms s k ++ [256 * btA s (2 * k) + btA s (2 * k + 1)] from nms_succ s k)
      clear hz
      generalize btA s (2 * k) = a at *
      generalize btA s (2 * k + 1) = b at *
      have wa : IntKind.i64.wrap a = a := IntWalk.i64_in _ (by omega)
      have wb : IntKind.i64.wrap b = b := IntWalk.i64_in _ (by omega)
      have wc : IntKind.i64.wrap (256 * a) = 256 * a := IntWalk.i64_in _ (by omega)
      have ws : IntKind.i64.wrap (256 * a + b) = 256 * a + b := IntWalk.i64_in _ (by omega)
      have wz : IntKind.i64.wrap (z + 1) = z + 1 := IntWalk.i64_in _ (by omega)
      go_wp2_with fail
      go_region_held3 (fun w' => True) (trivial)
        ((refine step_append_int (by rfl) _ _ (by rfl) (lo := W.heap.size) (hh := wr.heap.size) (l := nms s k) (by rfl) ((HO.out.alloc _).drew) wr.heap.size (256 * a + b) (by rfl) (by go_simp) (by omega) (by simp; omega) ?_; intro C' c' w4 ho4 hb4))
      all_goals
        rw [← HN.out] at ho4
        have HO4 := Lib.hid ho4
        have HW4 := Lib.hid ((ba HW.out _).drew.trans hb4)
        clear ho4 hb4
        go_wp2_with fail
        go_roundw
        case rel => exact ⟨k + 1, z + 2, C', c', by omega, by have := HZ.out; omega, rfl, rfl, HO4.out, HW4.out⟩
        case measure => simp [intOf]; omega
    · obtain rfl : k = 8 := by omega
      have g0 : ¬ z < 16 := by omega
      clear hz
      obtain ⟨g, rfl, l1, l2, l3, hcs, hfr⟩ := HO.out.at_ (k := 0) (by simp [nms])
      have HC := Lib.hid (fun (i : Nat) (hi : i < 8) => show wr.cell? ⟨g, i, none⟩ = some (.int .i64 (nmA s i)) from by have h := hcs i (by simp [nms]; exact hi); rwa [nms_get hi] at h)
      clear hcs hfr
      obtain ⟨p, hpo⟩ : ∃ p, p = pOf s := ⟨_, rfl⟩
      have b0 := nmA_b s 0
      have b1 := nmA_b s 1
      have wm : IntKind.i64.wrap (65536 * nmA s 0) = 65536 * nmA s 0 := IntWalk.i64_in _ (by omega)
      have wp : IntKind.i64.wrap (65536 * nmA s 0 + nmA s 1) = p.id := by rw [hpo]; exact IntWalk.i64_in _ (by omega)
      have c0 := HC.out 0 (by omega)
      have c1 := HC.out 1 (by omega)
      have c2 : wr.cell? ⟨g, 2, none⟩ = some (.int .i64 p.so) := by rw [hpo]; exact HC.out 2 (by omega)
      have c3 : wr.cell? ⟨g, 3, none⟩ = some (.int .i64 p.de) := by rw [hpo]; exact HC.out 3 (by omega)
      have c4 : wr.cell? ⟨g, 4, none⟩ = some (.int .i64 p.po) := by rw [hpo]; exact HC.out 4 (by omega)
      have c5 : wr.cell? ⟨g, 5, none⟩ = some (.int .i64 p.ma) := by rw [hpo]; exact HC.out 5 (by omega)
      have c6 : wr.cell? ⟨g, 6, none⟩ = some (.int .i64 p.si) := by rw [hpo]; exact HC.out 6 (by omega)
      have HPO := Lib.hid hpo
      have HRR := Lib.hid (HR.out.old HW.out)
      have HBR := Lib.hid (bt HBW.out HW.out)
      clear hpo b0 b1
      go_wp2_with fail
      go_cut [6] (fun a6 wx => a6 = .pointer (some ⟨wr.heap.size, 0, none⟩) ∧ Bk wx w.heap.size 23 #[.int .i64 0, .int .i64 0, .int .i64 0, .int .i64 0, .int .i64 0, .int .i64 0] ∧ Bk wx wr.heap.size 23 #[.int .i64 p.id, .int .i64 p.so, .int .i64 p.de, .int .i64 p.po, .int .i64 p.ma, .int .i64 p.si] ∧ Below w.heap.size w wx)
      case first =>
        go_region_held3 (fun w' => w'.cell? ⟨g, 0, none⟩ = some (.int .i64 (nmA s 0)) ∧ w'.cell? ⟨g, 1, none⟩ = some (.int .i64 (nmA s 1)) ∧ w'.cell? ⟨g, 2, none⟩ = some (.int .i64 p.so) ∧ w'.cell? ⟨g, 3, none⟩ = some (.int .i64 p.de) ∧ w'.cell? ⟨g, 4, none⟩ = some (.int .i64 p.po) ∧ w'.cell? ⟨g, 5, none⟩ = some (.int .i64 p.ma) ∧ w'.cell? ⟨g, 6, none⟩ = some (.int .i64 p.si)) (go_keep) (fail)
        all_goals
          go_wp2_with fail
          go_meet
          exact ⟨rfl, by repeat' (first | (with_reducible exact HRR.out) | (with_reducible refine Bk.alloc ?_ _) | (with_reducible refine Bk.drew ?_)), by first | exact (Bk.new _ _ _).drew | exact Bk.new _ _ _, by repeat' (first | (with_reducible exact HBR.out) | (with_reducible refine ba ?_ _) | (with_reducible refine Below.drew ?_))⟩
      obtain ⟨V, hwc⟩ : ∃ x, x = wc := ⟨_, rfl⟩
      subst hwc
      obtain ⟨rfl, hc1, hc2, hbv⟩ := hcut
      have C1 := Lib.hid hc1
      have C2 := Lib.hid hc2
      have HBV := Lib.hid hbv
      clear hc1 hc2 hbv
      have nq : ¬ w.heap.size = wr.heap.size := by omega
      have nr : ¬ wr.heap.size = w.heap.size := by omega
      clear c0 c1 c2 c3 c4 c5 c6 wm wp
      rcases hp : p.ok with _ | _
      · have HN := Lib.hid (show rhOk s = false from by unfold rhOk; rw [← HPO.out, hp, Bool.and_false, Bool.false_and])
        have b : Bk V (wr.heap.size) 23 #[.int .i64 p.id, .int .i64 p.so, .int .i64 p.de, .int .i64 p.po, .int .i64 p.ma, .int .i64 p.si] := C2.out
        have zb : wr.heap.size < V.heap.size := b.lt
        have b_0 : V.cell? ⟨wr.heap.size, 0, none⟩ = some (.int .i64 p.id) := b.cell 0
        have b_1 : V.cell? ⟨wr.heap.size, 1, none⟩ = some (.int .i64 p.so) := b.cell 1
        have b_2 : V.cell? ⟨wr.heap.size, 2, none⟩ = some (.int .i64 p.de) := b.cell 2
        have b_3 : V.cell? ⟨wr.heap.size, 3, none⟩ = some (.int .i64 p.po) := b.cell 3
        have b_4 : V.cell? ⟨wr.heap.size, 4, none⟩ = some (.int .i64 p.ma) := b.cell 4
        have b_5 : V.cell? ⟨wr.heap.size, 5, none⟩ = some (.int .i64 p.si) := b.cell 5
        have bf := b.free
        have Hb := Lib.hid b
        clear b
        go_wp2_with fail
        refine (pkGood_b hp _).mono ?_
        rintro e w4 ⟨rfl, hb4⟩
        have HB4 := Lib.hid (bt HBV.out hb4)
        have D1 := Lib.hid (C1.out.old hb4)
        have D2 := Lib.hid (C2.out.old hb4)
        clear hb4 b_0 b_1 b_2 b_3 b_4 b_5 bf zb
        have r : Bk w4 (w.heap.size) 23 #[.int .i64 0, .int .i64 0, .int .i64 0, .int .i64 0, .int .i64 0, .int .i64 0] := D1.out
        have zr : w.heap.size < w4.heap.size := r.lt
        have r_0 : w4.cell? ⟨w.heap.size, 0, none⟩ = some (.int .i64 0) := r.cell 0
        have r_1 : w4.cell? ⟨w.heap.size, 1, none⟩ = some (.int .i64 0) := r.cell 1
        have r_2 : w4.cell? ⟨w.heap.size, 2, none⟩ = some (.int .i64 0) := r.cell 2
        have r_3 : w4.cell? ⟨w.heap.size, 3, none⟩ = some (.int .i64 0) := r.cell 3
        have r_4 : w4.cell? ⟨w.heap.size, 4, none⟩ = some (.int .i64 0) := r.cell 4
        have r_5 : w4.cell? ⟨w.heap.size, 5, none⟩ = some (.int .i64 0) := r.cell 5
        have rf := r.free
        have Hr := Lib.hid r
        clear r
        go_wp2_with fail
        exact bodyPost_ret (v := .tuple #[.agg #[.int .i64 0, .int .i64 0, .int .i64 0, .int .i64 0, .int .i64 0, .int .i64 0], .bool false]) (by simp [results, Try.results4, go_sem, r_0, r_1, r_2, r_3, r_4, r_5]) rfl (RhP_no HN.out rfl (by repeat (first | (with_reducible exact HB4.out) | (with_reducible refine ba ?_ _) | (with_reducible refine bsB ?_ (by omega)) | (with_reducible refine bd ?_ _) | (with_reducible refine Below.drew ?_))))
      by_cases hh : (⟨(hdr p).toArray⟩ : ByteArray) = s
      · have HN := Lib.hid (show rhOk s = true from by unfold rhOk; rw [← HPO.out, hp, decide_eq_true HS.out, decide_eq_true hh]; rfl)
        have b : Bk V (wr.heap.size) 23 #[.int .i64 p.id, .int .i64 p.so, .int .i64 p.de, .int .i64 p.po, .int .i64 p.ma, .int .i64 p.si] := C2.out
        have zb : wr.heap.size < V.heap.size := b.lt
        have b_0 : V.cell? ⟨wr.heap.size, 0, none⟩ = some (.int .i64 p.id) := b.cell 0
        have b_1 : V.cell? ⟨wr.heap.size, 1, none⟩ = some (.int .i64 p.so) := b.cell 1
        have b_2 : V.cell? ⟨wr.heap.size, 2, none⟩ = some (.int .i64 p.de) := b.cell 2
        have b_3 : V.cell? ⟨wr.heap.size, 3, none⟩ = some (.int .i64 p.po) := b.cell 3
        have b_4 : V.cell? ⟨wr.heap.size, 4, none⟩ = some (.int .i64 p.ma) := b.cell 4
        have b_5 : V.cell? ⟨wr.heap.size, 5, none⟩ = some (.int .i64 p.si) := b.cell 5
        have bf := b.free
        have Hb := Lib.hid b
        clear b
        go_wp2_with fail
        refine (pkGood_b hp _).mono ?_
        rintro e w4 ⟨rfl, hb4⟩
        have HB4 := Lib.hid (bt HBV.out hb4)
        have D1 := Lib.hid (C1.out.old hb4)
        have D2 := Lib.hid (C2.out.old hb4)
        clear hb4 b_0 b_1 b_2 b_3 b_4 b_5 bf zb
        have b : Bk w4 (wr.heap.size) 23 #[.int .i64 p.id, .int .i64 p.so, .int .i64 p.de, .int .i64 p.po, .int .i64 p.ma, .int .i64 p.si] := D2.out
        have zb : wr.heap.size < w4.heap.size := b.lt
        have b_0 : w4.cell? ⟨wr.heap.size, 0, none⟩ = some (.int .i64 p.id) := b.cell 0
        have b_1 : w4.cell? ⟨wr.heap.size, 1, none⟩ = some (.int .i64 p.so) := b.cell 1
        have b_2 : w4.cell? ⟨wr.heap.size, 2, none⟩ = some (.int .i64 p.de) := b.cell 2
        have b_3 : w4.cell? ⟨wr.heap.size, 3, none⟩ = some (.int .i64 p.po) := b.cell 3
        have b_4 : w4.cell? ⟨wr.heap.size, 4, none⟩ = some (.int .i64 p.ma) := b.cell 4
        have b_5 : w4.cell? ⟨wr.heap.size, 5, none⟩ = some (.int .i64 p.si) := b.cell 5
        have bf := b.free
        have Hb := Lib.hid b
        clear b
        go_wp2_with fail
        refine (pkHeader_any hp _).mono ?_
        rintro e w5 ⟨rfl, hb5⟩
        have HB5 := Lib.hid (bt HB4.out hb5)
        have F2 := Lib.hid (D2.out.old hb5)
        have r : Bk w5 (w.heap.size) 23 #[.int .i64 0, .int .i64 0, .int .i64 0, .int .i64 0, .int .i64 0, .int .i64 0] := D1.out.old hb5
        have zr : w.heap.size < w5.heap.size := r.lt
        have r_0 : w5.cell? ⟨w.heap.size, 0, none⟩ = some (.int .i64 0) := r.cell 0
        have r_1 : w5.cell? ⟨w.heap.size, 1, none⟩ = some (.int .i64 0) := r.cell 1
        have r_2 : w5.cell? ⟨w.heap.size, 2, none⟩ = some (.int .i64 0) := r.cell 2
        have r_3 : w5.cell? ⟨w.heap.size, 3, none⟩ = some (.int .i64 0) := r.cell 3
        have r_4 : w5.cell? ⟨w.heap.size, 4, none⟩ = some (.int .i64 0) := r.cell 4
        have r_5 : w5.cell? ⟨w.heap.size, 5, none⟩ = some (.int .i64 0) := r.cell 5
        have rf := r.free
        have Hr := Lib.hid r
        clear r
        clear hb5 b_0 b_1 b_2 b_3 b_4 b_5 bf zb
        have b : Bk w5 (wr.heap.size) 23 #[.int .i64 p.id, .int .i64 p.so, .int .i64 p.de, .int .i64 p.po, .int .i64 p.ma, .int .i64 p.si] := F2.out
        have zb : wr.heap.size < w5.heap.size := b.lt
        have b_0 : w5.cell? ⟨wr.heap.size, 0, none⟩ = some (.int .i64 p.id) := b.cell 0
        have b_1 : w5.cell? ⟨wr.heap.size, 1, none⟩ = some (.int .i64 p.so) := b.cell 1
        have b_2 : w5.cell? ⟨wr.heap.size, 2, none⟩ = some (.int .i64 p.de) := b.cell 2
        have b_3 : w5.cell? ⟨wr.heap.size, 3, none⟩ = some (.int .i64 p.po) := b.cell 3
        have b_4 : w5.cell? ⟨wr.heap.size, 4, none⟩ = some (.int .i64 p.ma) := b.cell 4
        have b_5 : w5.cell? ⟨wr.heap.size, 5, none⟩ = some (.int .i64 p.si) := b.cell 5
        have bf := b.free
        have Hb := Lib.hid b
        clear b
        go_wp2_with fail
        exact bodyPost_ret (v := .tuple #[.agg #[.int .i64 (p.id), .int .i64 (p.so), .int .i64 (p.de), .int .i64 (p.po), .int .i64 (p.ma), .int .i64 (p.si)], .bool true]) (by simp [results, Try.results4, go_sem, r_0, r_1, r_2, r_3, r_4, r_5]) rfl (RhP_yes HN.out (by rw [← HPO.out]) (by repeat (first | (with_reducible exact HB5.out) | (with_reducible refine ba ?_ _) | (with_reducible refine bsB ?_ (by omega)) | (with_reducible refine bd ?_ _) | (with_reducible refine Below.drew ?_))))
      · have hne := str_ne hh
        have HN := Lib.hid (show rhOk s = false from by unfold rhOk; rw [← HPO.out, decide_eq_false hh, Bool.and_false])
        have b : Bk V (wr.heap.size) 23 #[.int .i64 p.id, .int .i64 p.so, .int .i64 p.de, .int .i64 p.po, .int .i64 p.ma, .int .i64 p.si] := C2.out
        have zb : wr.heap.size < V.heap.size := b.lt
        have b_0 : V.cell? ⟨wr.heap.size, 0, none⟩ = some (.int .i64 p.id) := b.cell 0
        have b_1 : V.cell? ⟨wr.heap.size, 1, none⟩ = some (.int .i64 p.so) := b.cell 1
        have b_2 : V.cell? ⟨wr.heap.size, 2, none⟩ = some (.int .i64 p.de) := b.cell 2
        have b_3 : V.cell? ⟨wr.heap.size, 3, none⟩ = some (.int .i64 p.po) := b.cell 3
        have b_4 : V.cell? ⟨wr.heap.size, 4, none⟩ = some (.int .i64 p.ma) := b.cell 4
        have b_5 : V.cell? ⟨wr.heap.size, 5, none⟩ = some (.int .i64 p.si) := b.cell 5
        have bf := b.free
        have Hb := Lib.hid b
        clear b
        go_wp2_with fail
        refine (pkGood_b hp _).mono ?_
        rintro e w4 ⟨rfl, hb4⟩
        have HB4 := Lib.hid (bt HBV.out hb4)
        have D1 := Lib.hid (C1.out.old hb4)
        have D2 := Lib.hid (C2.out.old hb4)
        clear hb4 b_0 b_1 b_2 b_3 b_4 b_5 bf zb
        have b : Bk w4 (wr.heap.size) 23 #[.int .i64 p.id, .int .i64 p.so, .int .i64 p.de, .int .i64 p.po, .int .i64 p.ma, .int .i64 p.si] := D2.out
        have zb : wr.heap.size < w4.heap.size := b.lt
        have b_0 : w4.cell? ⟨wr.heap.size, 0, none⟩ = some (.int .i64 p.id) := b.cell 0
        have b_1 : w4.cell? ⟨wr.heap.size, 1, none⟩ = some (.int .i64 p.so) := b.cell 1
        have b_2 : w4.cell? ⟨wr.heap.size, 2, none⟩ = some (.int .i64 p.de) := b.cell 2
        have b_3 : w4.cell? ⟨wr.heap.size, 3, none⟩ = some (.int .i64 p.po) := b.cell 3
        have b_4 : w4.cell? ⟨wr.heap.size, 4, none⟩ = some (.int .i64 p.ma) := b.cell 4
        have b_5 : w4.cell? ⟨wr.heap.size, 5, none⟩ = some (.int .i64 p.si) := b.cell 5
        have bf := b.free
        have Hb := Lib.hid b
        clear b
        go_wp2_with fail
        refine (pkHeader_any hp _).mono ?_
        rintro e w5 ⟨rfl, hb5⟩
        have HB5 := Lib.hid (bt HB4.out hb5)
        have F2 := Lib.hid (D2.out.old hb5)
        have r : Bk w5 (w.heap.size) 23 #[.int .i64 0, .int .i64 0, .int .i64 0, .int .i64 0, .int .i64 0, .int .i64 0] := D1.out.old hb5
        have zr : w.heap.size < w5.heap.size := r.lt
        have r_0 : w5.cell? ⟨w.heap.size, 0, none⟩ = some (.int .i64 0) := r.cell 0
        have r_1 : w5.cell? ⟨w.heap.size, 1, none⟩ = some (.int .i64 0) := r.cell 1
        have r_2 : w5.cell? ⟨w.heap.size, 2, none⟩ = some (.int .i64 0) := r.cell 2
        have r_3 : w5.cell? ⟨w.heap.size, 3, none⟩ = some (.int .i64 0) := r.cell 3
        have r_4 : w5.cell? ⟨w.heap.size, 4, none⟩ = some (.int .i64 0) := r.cell 4
        have r_5 : w5.cell? ⟨w.heap.size, 5, none⟩ = some (.int .i64 0) := r.cell 5
        have rf := r.free
        have Hr := Lib.hid r
        clear r
        clear hb5 b_0 b_1 b_2 b_3 b_4 b_5 bf zb
        go_wp2_with fail
        exact bodyPost_ret (v := .tuple #[.agg #[.int .i64 0, .int .i64 0, .int .i64 0, .int .i64 0, .int .i64 0, .int .i64 0], .bool false]) (by simp [results, Try.results4, go_sem, r_0, r_1, r_2, r_3, r_4, r_5]) rfl (RhP_no HN.out rfl (by repeat (first | (with_reducible exact HB5.out) | (with_reducible refine ba ?_ _) | (with_reducible refine bsB ?_ (by omega)) | (with_reducible refine bd ?_ _) | (with_reducible refine Below.drew ?_))))
end Go.Proofs.Ytbhcmolahohmiaa
