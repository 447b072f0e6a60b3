/- The contract of the program's ParsePacket. -/
import Derived.Test.YtmkmcobomlchfaaDoorPpSpec
import Derived.Test.YtmkmcobomlchfaaDoorPtImpl
import Derived.Lib.AtoiErrMem
namespace Go.Proofs.YtmkmcobomlchfaaDoor
open Go.ChangeShapes Go.WideShapes Go.ChangeAt Go.RowKit
set_option linter.unusedVariables false
/-- What the library's variables must hold. -/
structure LibOk (w : World) : Prop where
  tab : Lib.TabBelow Tryd.prog w.heap.size w "internal/strconv.uint64pow10" .u64 Lib.pow10Tab
  e0 : ∃ t p, w.cell? ⟨0, 0, none⟩ = some (.iface t p)
  e1 : ∃ t p, w.cell? ⟨1, 0, none⟩ = some (.iface t p)
  mx : ∃ m, w.cell? ⟨2, 0, none⟩ = some (.int .i64 m)
theorem cell_below {w w' : World} {b o : Nat} {v : Value} (hb : Below w.heap.size w w') (h : w.cell? ⟨b, o, none⟩ = some v) : w'.cell? ⟨b, o, none⟩ = some v :=
  (bkeep hb b o (World.block_lt_of_cell? w _ h)).trans h
theorem LibOk.below {w w' : World} (h : LibOk w) (hb : Below w.heap.size w w') : LibOk w' := by
  obtain ⟨t, ⟨a, b, e0⟩, ⟨c, d, e1⟩, ⟨m, mx⟩⟩ := h
  exact ⟨fun w'' hb' => t w'' (bt hb hb'), ⟨a, b, cell_below hb e0⟩, ⟨c, d, cell_below hb e1⟩, ⟨m, cell_below hb mx⟩⟩
theorem split_any (s : ByteArray) (hs : s.size ≤ 1048576) (w : World) (hl : LibOk w) :
    Calls Tryd.prog 16 #[.string s, .string ⟨#[32]⟩] w fun e w' => e = .returned (.slice (some ⟨w.heap.size, 0, none⟩) (sp s.data.toList).length (sp s.data.toList).length) ∧ (∀ j x, (sp s.data.toList)[j]? = some x → w'.cell? ⟨w.heap.size, j, none⟩ = some (.string (mkS x))) ∧ w.heap.size < w'.heap.size ∧ Below w.heap.size w w' := by
  obtain ⟨m, hm⟩ := hl.mx
  refine (Tryd.strings_Split s ⟨#[32]⟩ m w (by omega) hm (by decide)).mono ?_
  rintro e w' ⟨rfl, rfl⟩
  have h1 := Lib.splitB_all ⟨#[32]⟩ (by decide) 0 _ s rfl
  rw [splitB_sp, List.length_map] at h1
  rw [← h1, splitB_sp]
  refine ⟨rfl, fun j x hj => ?_, by simp, ba (b0 w) _⟩
  rw [(Bk.new w _ _).cell j, List.getElem?_toArray, List.getElem?_map, List.getElem?_map, hj]
  rfl
theorem atoi_ok (l : List UInt8) (hl : l.length ≤ 1048576) (v : Int) (h : Lib.atoiAll l = .ok v) (w : World) :
    Calls Tryd.prog 17 #[.string (mkS l)] w fun e w' => e = .returned (.tuple #[.int .i64 v, .nilIface]) ∧ Below w.heap.size w w' := by
  refine (Tryd.strconv_Atoi_ok (mkS l) (by rw [slen]; exact Nat.le_trans hl (by decide)) v h w).mono ?_
  rintro e w' ⟨rfl, rfl | ⟨t, rfl⟩⟩
  · exact ⟨rfl, b0 _⟩
  · exact ⟨rfl, Lib.bytesWorld_below _ _ _⟩
theorem atoi_no (l : List UInt8) (hl : l.length ≤ 1048576) (h : ∀ v, Lib.atoiAll l ≠ .ok v) (w : World) (hL : LibOk w) :
    Calls Tryd.prog 17 #[.string (mkS l)] w fun e w' => ∃ x N, e = .returned (.tuple #[.int .i64 x, .iface 60 (.pointer (some ⟨N, 0, none⟩))]) ∧ Below w.heap.size w w' := by
  obtain ⟨_, ⟨a, b, e0⟩, ⟨c, d, e1⟩, _⟩ := hL
  rcases hc : Lib.atoiAll l with v | _ | _
  · exact absurd hc (h v)
  · refine (Any.strconv_Atoi_syntax Tryd.laysC172 (mkS l) (by rw [slen]; exact Nat.le_trans hl (by decide)) hc _ w e0 (.inr ⟨a, b, rfl⟩)).mono ?_
    rintro e w' ⟨N, rfl, _, _, hb⟩
    exact ⟨_, N, rfl, hb⟩
  · refine (Tryd.strconv_Atoi_range (mkS l) (by rw [slen]; exact Nat.le_trans hl (by decide)) hc _ w e1 (.inr ⟨c, d, rfl⟩)).mono ?_
    rintro e w' ⟨N, rfl, _, _, hb⟩
    exact ⟨_, N, rfl, hb⟩
/-- The numbers read so far. -/
def nc (l : List UInt8) (k j : Nat) : Value := .int .i64 (if j < k then vv l j else 0)
def ncs (l : List UInt8) (k : Nat) : Array Value := #[nc l k 0, nc l k 1, nc l k 2, nc l k 3, nc l k 4, nc l k 5]
theorem ncs_set (l : List UInt8) {k : Nat} (hk : k < 6) : (ncs l k).setIfInBounds k (.int .i64 (vv l k)) = ncs l (k + 1) := by
  obtain rfl | rfl | rfl | rfl | rfl | rfl : k = 0 ∨ k = 1 ∨ k = 2 ∨ k = 3 ∨ k = 4 ∨ k = 5 := by omega
  all_goals simp [ncs, nc]
theorem ncs_full (l : List UInt8) : ncs l 6 = #[.int .i64 (atP l).id, .int .i64 (atP l).so, .int .i64 (atP l).de, .int .i64 (atP l).po, .int .i64 (atP l).ma, .int .i64 (atP l).si] := rfl
set_option maxHeartbeats 2000000 in
theorem parsePacket_any (s : ByteArray) (hs : s.size ≤ 1048576) (w : World) (hL : LibOk w) : Calls Tryd.prog 9 #[.string s] w (PpEnd w s.data.toList) := by
  go_enter Tryd.func9, Tryd.ntmps9
  go_wp2_with fail
  obtain ⟨W, hW⟩ : ∃ W, W = w.alloc (.cells #[.int .i64 0, .int .i64 0, .int .i64 0, .int .i64 0, .int .i64 0, .int .i64 0] 26) := ⟨_, rfl⟩
  rw [← hW]
  have HR := Lib.hid (show Bk W w.heap.size 26 #[.int .i64 0, .int .i64 0, .int .i64 0, .int .i64 0, .int .i64 0, .int .i64 0] from by rw [hW]; exact Bk.new _ _ _)
  have HBW := Lib.hid (show Below w.heap.size w W from by rw [hW]; exact ba (b0 w) _)
  have zW : w.heap.size < W.heap.size := by rw [hW]; simp
  clear hW
  have HL := Lib.hid hL
  clear hL
  refine (split_any s hs W (HL.out.below HBW.out)).mono ?_
  rintro e w1 ⟨rfl, hcs, hg1, hb1⟩
  have HB1 := Lib.hid (bt HBW.out hb1)
  have R1 := Lib.hid (HR.out.old hb1)
  clear hb1 HBW HR
  generalize W.heap.size = g at *
  by_cases hl : (sp s.data.toList).length = 6
  rotate_left
  · have HN := Lib.hid (PpR_len hl)
    have hne : (((sp s.data.toList).length : Int) != 6) = true := by rw [bne_iff_ne]; omega
    clear hcs
    have r : Bk w1 (w.heap.size) 26 #[.int .i64 0, .int .i64 0, .int .i64 0, .int .i64 0, .int .i64 0, .int .i64 0] := R1.out
    have zr : w.heap.size < w1.heap.size := r.lt
    have r_0 : w1.cell? ⟨w.heap.size, 0, none⟩ = some (.int .i64 0) := r.cell 0
    have r_1 : w1.cell? ⟨w.heap.size, 1, none⟩ = some (.int .i64 0) := r.cell 1
    have r_2 : w1.cell? ⟨w.heap.size, 2, none⟩ = some (.int .i64 0) := r.cell 2
    have r_3 : w1.cell? ⟨w.heap.size, 3, none⟩ = some (.int .i64 0) := r.cell 3
    have r_4 : w1.cell? ⟨w.heap.size, 4, none⟩ = some (.int .i64 0) := r.cell 4
    have r_5 : w1.cell? ⟨w.heap.size, 5, none⟩ = some (.int .i64 0) := r.cell 5
    have rf := r.free
    have Hr := Lib.hid r
    clear r
    go_wp2_with fail
    exact bodyPost_ret (v := .tuple #[.agg #[.int .i64 0, .int .i64 0, .int .i64 0, .int .i64 0, .int .i64 0, .int .i64 0], .bool false]) (by simp [results, Tryd.results9, go_sem, r_0, r_1, r_2, r_3, r_4, r_5]) rfl (PpEnd_no HN.out rfl (by repeat (first | (with_reducible exact HB1.out) | (with_reducible refine ba ?_ _) | (with_reducible refine bsB ?_ (by omega)) | (with_reducible refine bd ?_ _) | (with_reducible refine Below.drew ?_))))
  have HC := Lib.hid (show ∀ j, j < 6 → w1.cell? ⟨g, j, none⟩ = some (.string (mkS (pc s.data.toList j))) from fun j hj => hcs j _ (by unfold pc; rw [List.getElem?_eq_getElem (by omega)]; rfl))
  have HSZ := Lib.hid (show ∀ j, (pc s.data.toList j).length ≤ 1048576 from fun j => Nat.le_trans (pc_size _ j) (by rw [← slen]; exact hs))
  clear hcs
  rw [hl]
  clear hl
  go_wp2_with fail
  have HLw := Lib.hid (HL.out.below HB1.out)
  have zz : w.heap.size < w1.heap.size := by omega
  have n0 : ncs s.data.toList 0 = #[.int .i64 0, .int .i64 0, .int .i64 0, .int .i64 0, .int .i64 0, .int .i64 0] := by simp [ncs, nc]
  go_loopw [20] (fun i wr => ∃ k : Nat, k ≤ 6 ∧ i = .int .i64 (k : Int) ∧ Bk wr w1.heap.size 37 (ncs s.data.toList k) ∧ Below w1.heap.size w1 wr) (fun i _ => 6 - (intOf i).toNat)
  case atStart => exact ⟨0, by omega, rfl, by rw [n0]; exact Bk.new _ _ _, ba (b0 w1) _⟩
  case round =>
    obtain ⟨k, hk, rfl, hbk, hbw⟩ := hrel
    have HK := Lib.hid hbk
    have HW := Lib.hid hbw
    have zr := hbk.lt
    clear hbk hbw n0
    by_cases hlt : k < 6
    · have hc : wr.cell? ⟨g, k, none⟩ = some (.string (mkS (pc s.data.toList k))) := cell_below HW.out (HC.out k hlt)
      have g0 : (0 : Int) ≤ (k : Int) := by omega
      have g1 : (k : Int) < 6 := by omega
      by_cases hA : ∃ v, Lib.atoiAll (pc s.data.toList k) = .ok v
      · obtain ⟨v, hv⟩ := hA
        have hvv : vv s.data.toList k = v := by unfold vv; rw [hv]
        have HS := Lib.hid (ncs_set s.data.toList hlt)
        rw [hvv] at HS
        have HAT := Lib.hid (atoi_ok _ (HSZ.out k) v hv)
        clear hv hvv
        generalize mkS (pc s.data.toList k) = pk at *
        go_wp2_with fail
        refine (HAT.out _).mono ?_
        rintro e w4 ⟨rfl, hb4⟩
        have K4 := Lib.hid (HK.out.old hb4)
        have HB4 := Lib.hid (bt HW.out hb4)
        have z4 := hb4.size
        clear hb4
        obtain ⟨c4, hc4⟩ : ∃ v, w4.cell? ⟨w1.heap.size, k, none⟩ = some v := ⟨_, by
          rw [K4.out.cell k]
          exact Array.getElem?_eq_getElem (by simp [ncs]; omega)⟩
        have hf4 := K4.out.free k
        go_wp2_with fail
        go_roundw
        case rel => exact ⟨k + 1, by omega, by simp, by rw [← HS.out]; exact K4.out.set k _, HB4.out.setCell (Nat.le_refl _) _⟩
        case measure => simp [intOf]; omega
      · have HN := Lib.hid (PpR_err (l := s.data.toList) hlt (fun v hv => hA ⟨v, hv⟩))
        have HAT := Lib.hid (atoi_no _ (HSZ.out k) (fun v hv => hA ⟨v, hv⟩))
        clear hA
        generalize mkS (pc s.data.toList k) = pk at *
        go_wp2_with fail
        refine (HAT.out _ (HLw.out.below HW.out)).mono ?_
        rintro e w4 ⟨x, N, rfl, hb4⟩
        have HB4 := Lib.hid (bt HB1.out (bt HW.out hb4))
        have r : Bk w4 (w.heap.size) 26 #[.int .i64 0, .int .i64 0, .int .i64 0, .int .i64 0, .int .i64 0, .int .i64 0] := (R1.out.old HW.out).old hb4
        have zr : w.heap.size < w4.heap.size := r.lt
        have r_0 : w4.cell? ⟨w.heap.size, 0, none⟩ = some (.int .i64 0) := r.cell 0
        have r_1 : w4.cell? ⟨w.heap.size, 1, none⟩ = some (.int .i64 0) := r.cell 1
        have r_2 : w4.cell? ⟨w.heap.size, 2, none⟩ = some (.int .i64 0) := r.cell 2
        have r_3 : w4.cell? ⟨w.heap.size, 3, none⟩ = some (.int .i64 0) := r.cell 3
        have r_4 : w4.cell? ⟨w.heap.size, 4, none⟩ = some (.int .i64 0) := r.cell 4
        have r_5 : w4.cell? ⟨w.heap.size, 5, none⟩ = some (.int .i64 0) := r.cell 5
        have rf := r.free
        have Hr := Lib.hid r
        clear r
        clear hb4
        go_wp2_with fail
        exact bodyPost_ret (v := .tuple #[.agg #[.int .i64 0, .int .i64 0, .int .i64 0, .int .i64 0, .int .i64 0, .int .i64 0], .bool false]) (by simp [results, Tryd.results9, go_sem, r_0, r_1, r_2, r_3, r_4, r_5]) rfl (PpEnd_no HN.out rfl (by repeat (first | (with_reducible exact HB4.out) | (with_reducible refine ba ?_ _) | (with_reducible refine bsB ?_ (by omega)) | (with_reducible refine bd ?_ _) | (with_reducible refine Below.drew ?_))))
    · obtain rfl : k = 6 := by omega
      obtain ⟨p, hpo⟩ : ∃ p, p = atP s.data.toList := ⟨_, rfl⟩
      have HPO := Lib.hid hpo
      have hk6 := HK.out
      rw [ncs_full, ← hpo] at hk6
      have HR6 := Lib.hid (R1.out.old HW.out)
      have HB6 := Lib.hid (bt HB1.out HW.out)
      clear hpo
      have a : Bk wr (w1.heap.size) 37 #[.int .i64 p.id, .int .i64 p.so, .int .i64 p.de, .int .i64 p.po, .int .i64 p.ma, .int .i64 p.si] := hk6
      have za : w1.heap.size < wr.heap.size := a.lt
      have a_0 : wr.cell? ⟨w1.heap.size, 0, none⟩ = some (.int .i64 p.id) := a.cell 0
      have a_1 : wr.cell? ⟨w1.heap.size, 1, none⟩ = some (.int .i64 p.so) := a.cell 1
      have a_2 : wr.cell? ⟨w1.heap.size, 2, none⟩ = some (.int .i64 p.de) := a.cell 2
      have a_3 : wr.cell? ⟨w1.heap.size, 3, none⟩ = some (.int .i64 p.po) := a.cell 3
      have a_4 : wr.cell? ⟨w1.heap.size, 4, none⟩ = some (.int .i64 p.ma) := a.cell 4
      have a_5 : wr.cell? ⟨w1.heap.size, 5, none⟩ = some (.int .i64 p.si) := a.cell 5
      have af := a.free
      have Ha := Lib.hid a
      clear a
      clear hk6
      go_wp2_with fail
      obtain ⟨V, hV⟩ : ∃ V, V = wr.alloc (.cells #[.int .i64 p.id, .int .i64 p.so, .int .i64 p.de, .int .i64 p.po, .int .i64 p.ma, .int .i64 p.si] 26) := ⟨_, rfl⟩
      rw [← hV]
      have C1 := Lib.hid (show Bk V w.heap.size 26 #[.int .i64 0, .int .i64 0, .int .i64 0, .int .i64 0, .int .i64 0, .int .i64 0] from by rw [hV]; exact HR6.out.alloc _)
      have C2 := Lib.hid (show Bk V wr.heap.size 26 #[.int .i64 p.id, .int .i64 p.so, .int .i64 p.de, .int .i64 p.po, .int .i64 p.ma, .int .i64 p.si] from by rw [hV]; exact Bk.new _ _ _)
      have HBV := Lib.hid (show Below w.heap.size w V from by rw [hV]; exact ba HB6.out _)
      have nq : ¬ w.heap.size = wr.heap.size := by omega
      have nr : ¬ wr.heap.size = w.heap.size := by omega
      clear hV a_0 a_1 a_2 a_3 a_4 a_5 af za
      rcases hp : p.ok with _ | _
      · have HN := Lib.hid (PpR_at (l := s.data.toList) (fun h => by rw [← HPO.out, hp] at h; cases h))
        have b : Bk V (wr.heap.size) 26 #[.int .i64 p.id, .int .i64 p.so, .int .i64 p.de, .int .i64 p.po, .int .i64 p.ma, .int .i64 p.si] := C2.out
        have zb : wr.heap.size < V.heap.size := b.lt
        have b_0 : V.cell? ⟨wr.heap.size, 0, none⟩ = some (.int .i64 p.id) := b.cell 0
        have b_1 : V.cell? ⟨wr.heap.size, 1, none⟩ = some (.int .i64 p.so) := b.cell 1
        have b_2 : V.cell? ⟨wr.heap.size, 2, none⟩ = some (.int .i64 p.de) := b.cell 2
        have b_3 : V.cell? ⟨wr.heap.size, 3, none⟩ = some (.int .i64 p.po) := b.cell 3
        have b_4 : V.cell? ⟨wr.heap.size, 4, none⟩ = some (.int .i64 p.ma) := b.cell 4
        have b_5 : V.cell? ⟨wr.heap.size, 5, none⟩ = some (.int .i64 p.si) := b.cell 5
        have bf := b.free
        have Hb := Lib.hid b
        clear b
        go_wp2_with fail
        refine (isPacket_b hp _).mono ?_
        rintro e w4 ⟨rfl, hb4⟩
        have HB4 := Lib.hid (bt HBV.out hb4)
        have D1 := Lib.hid (C1.out.old hb4)
        have D2 := Lib.hid (C2.out.old hb4)
        clear hb4 b_0 b_1 b_2 b_3 b_4 b_5 bf zb
        have r : Bk w4 (w.heap.size) 26 #[.int .i64 0, .int .i64 0, .int .i64 0, .int .i64 0, .int .i64 0, .int .i64 0] := D1.out
        have zr : w.heap.size < w4.heap.size := r.lt
        have r_0 : w4.cell? ⟨w.heap.size, 0, none⟩ = some (.int .i64 0) := r.cell 0
        have r_1 : w4.cell? ⟨w.heap.size, 1, none⟩ = some (.int .i64 0) := r.cell 1
        have r_2 : w4.cell? ⟨w.heap.size, 2, none⟩ = some (.int .i64 0) := r.cell 2
        have r_3 : w4.cell? ⟨w.heap.size, 3, none⟩ = some (.int .i64 0) := r.cell 3
        have r_4 : w4.cell? ⟨w.heap.size, 4, none⟩ = some (.int .i64 0) := r.cell 4
        have r_5 : w4.cell? ⟨w.heap.size, 5, none⟩ = some (.int .i64 0) := r.cell 5
        have rf := r.free
        have Hr := Lib.hid r
        clear r
        go_wp2_with fail
        exact bodyPost_ret (v := .tuple #[.agg #[.int .i64 0, .int .i64 0, .int .i64 0, .int .i64 0, .int .i64 0, .int .i64 0], .bool false]) (by simp [results, Tryd.results9, go_sem, r_0, r_1, r_2, r_3, r_4, r_5]) rfl (PpEnd_no HN.out rfl (by repeat (first | (with_reducible exact HB4.out) | (with_reducible refine ba ?_ _) | (with_reducible refine bsB ?_ (by omega)) | (with_reducible refine bd ?_ _) | (with_reducible refine Below.drew ?_))))
      by_cases hh : ptx p = s.data.toList
      · have HN := Lib.hid (PpR_yes hp hh)
        have hsE : (⟨(ptx p).toArray⟩ : ByteArray) = s := by rw [hh]
        have b : Bk V (wr.heap.size) 26 #[.int .i64 p.id, .int .i64 p.so, .int .i64 p.de, .int .i64 p.po, .int .i64 p.ma, .int .i64 p.si] := C2.out
        have zb : wr.heap.size < V.heap.size := b.lt
        have b_0 : V.cell? ⟨wr.heap.size, 0, none⟩ = some (.int .i64 p.id) := b.cell 0
        have b_1 : V.cell? ⟨wr.heap.size, 1, none⟩ = some (.int .i64 p.so) := b.cell 1
        have b_2 : V.cell? ⟨wr.heap.size, 2, none⟩ = some (.int .i64 p.de) := b.cell 2
        have b_3 : V.cell? ⟨wr.heap.size, 3, none⟩ = some (.int .i64 p.po) := b.cell 3
        have b_4 : V.cell? ⟨wr.heap.size, 4, none⟩ = some (.int .i64 p.ma) := b.cell 4
        have b_5 : V.cell? ⟨wr.heap.size, 5, none⟩ = some (.int .i64 p.si) := b.cell 5
        have bf := b.free
        have Hb := Lib.hid b
        clear b
        go_wp2_with fail
        refine (isPacket_b hp _).mono ?_
        rintro e w4 ⟨rfl, hb4⟩
        have HB4 := Lib.hid (bt HBV.out hb4)
        have D1 := Lib.hid (C1.out.old hb4)
        have D2 := Lib.hid (C2.out.old hb4)
        clear hb4 b_0 b_1 b_2 b_3 b_4 b_5 bf zb
        have b : Bk w4 (wr.heap.size) 26 #[.int .i64 p.id, .int .i64 p.so, .int .i64 p.de, .int .i64 p.po, .int .i64 p.ma, .int .i64 p.si] := D2.out
        have zb : wr.heap.size < w4.heap.size := b.lt
        have b_0 : w4.cell? ⟨wr.heap.size, 0, none⟩ = some (.int .i64 p.id) := b.cell 0
        have b_1 : w4.cell? ⟨wr.heap.size, 1, none⟩ = some (.int .i64 p.so) := b.cell 1
        have b_2 : w4.cell? ⟨wr.heap.size, 2, none⟩ = some (.int .i64 p.de) := b.cell 2
        have b_3 : w4.cell? ⟨wr.heap.size, 3, none⟩ = some (.int .i64 p.po) := b.cell 3
        have b_4 : w4.cell? ⟨wr.heap.size, 4, none⟩ = some (.int .i64 p.ma) := b.cell 4
        have b_5 : w4.cell? ⟨wr.heap.size, 5, none⟩ = some (.int .i64 p.si) := b.cell 5
        have bf := b.free
        have Hb := Lib.hid b
        clear b
        go_wp2_with fail
        refine (packetText_any hp _ (HL.out.below HB4.out).tab).mono ?_
        rw [hsE]
        rintro e w5 ⟨rfl, hb5⟩
        have HB5 := Lib.hid (bt HB4.out hb5)
        have F2 := Lib.hid (D2.out.old hb5)
        have r : Bk w5 (w.heap.size) 26 #[.int .i64 0, .int .i64 0, .int .i64 0, .int .i64 0, .int .i64 0, .int .i64 0] := D1.out.old hb5
        have zr : w.heap.size < w5.heap.size := r.lt
        have r_0 : w5.cell? ⟨w.heap.size, 0, none⟩ = some (.int .i64 0) := r.cell 0
        have r_1 : w5.cell? ⟨w.heap.size, 1, none⟩ = some (.int .i64 0) := r.cell 1
        have r_2 : w5.cell? ⟨w.heap.size, 2, none⟩ = some (.int .i64 0) := r.cell 2
        have r_3 : w5.cell? ⟨w.heap.size, 3, none⟩ = some (.int .i64 0) := r.cell 3
        have r_4 : w5.cell? ⟨w.heap.size, 4, none⟩ = some (.int .i64 0) := r.cell 4
        have r_5 : w5.cell? ⟨w.heap.size, 5, none⟩ = some (.int .i64 0) := r.cell 5
        have rf := r.free
        have Hr := Lib.hid r
        clear r
        clear hb5 b_0 b_1 b_2 b_3 b_4 b_5 bf zb
        have b : Bk w5 (wr.heap.size) 26 #[.int .i64 p.id, .int .i64 p.so, .int .i64 p.de, .int .i64 p.po, .int .i64 p.ma, .int .i64 p.si] := F2.out
        have zb : wr.heap.size < w5.heap.size := b.lt
        have b_0 : w5.cell? ⟨wr.heap.size, 0, none⟩ = some (.int .i64 p.id) := b.cell 0
        have b_1 : w5.cell? ⟨wr.heap.size, 1, none⟩ = some (.int .i64 p.so) := b.cell 1
        have b_2 : w5.cell? ⟨wr.heap.size, 2, none⟩ = some (.int .i64 p.de) := b.cell 2
        have b_3 : w5.cell? ⟨wr.heap.size, 3, none⟩ = some (.int .i64 p.po) := b.cell 3
        have b_4 : w5.cell? ⟨wr.heap.size, 4, none⟩ = some (.int .i64 p.ma) := b.cell 4
        have b_5 : w5.cell? ⟨wr.heap.size, 5, none⟩ = some (.int .i64 p.si) := b.cell 5
        have bf := b.free
        have Hb := Lib.hid b
        clear b
        go_wp2_with fail
        exact bodyPost_ret (v := .tuple #[.agg #[.int .i64 (p.id), .int .i64 (p.so), .int .i64 (p.de), .int .i64 (p.po), .int .i64 (p.ma), .int .i64 (p.si)], .bool true]) (by simp [results, Tryd.results9, go_sem, r_0, r_1, r_2, r_3, r_4, r_5]) rfl (PpEnd_yes HN.out rfl (by repeat (first | (with_reducible exact HB5.out) | (with_reducible refine ba ?_ _) | (with_reducible refine bsB ?_ (by omega)) | (with_reducible refine bd ?_ _) | (with_reducible refine Below.drew ?_))))
      · have HN := Lib.hid (PpR_at (l := s.data.toList) (fun _ => by rw [← HPO.out]; exact hh))
        have hne := str_mkS hh
        have b : Bk V (wr.heap.size) 26 #[.int .i64 p.id, .int .i64 p.so, .int .i64 p.de, .int .i64 p.po, .int .i64 p.ma, .int .i64 p.si] := C2.out
        have zb : wr.heap.size < V.heap.size := b.lt
        have b_0 : V.cell? ⟨wr.heap.size, 0, none⟩ = some (.int .i64 p.id) := b.cell 0
        have b_1 : V.cell? ⟨wr.heap.size, 1, none⟩ = some (.int .i64 p.so) := b.cell 1
        have b_2 : V.cell? ⟨wr.heap.size, 2, none⟩ = some (.int .i64 p.de) := b.cell 2
        have b_3 : V.cell? ⟨wr.heap.size, 3, none⟩ = some (.int .i64 p.po) := b.cell 3
        have b_4 : V.cell? ⟨wr.heap.size, 4, none⟩ = some (.int .i64 p.ma) := b.cell 4
        have b_5 : V.cell? ⟨wr.heap.size, 5, none⟩ = some (.int .i64 p.si) := b.cell 5
        have bf := b.free
        have Hb := Lib.hid b
        clear b
        go_wp2_with fail
        refine (isPacket_b hp _).mono ?_
        rintro e w4 ⟨rfl, hb4⟩
        have HB4 := Lib.hid (bt HBV.out hb4)
        have D1 := Lib.hid (C1.out.old hb4)
        have D2 := Lib.hid (C2.out.old hb4)
        clear hb4 b_0 b_1 b_2 b_3 b_4 b_5 bf zb
        have b : Bk w4 (wr.heap.size) 26 #[.int .i64 p.id, .int .i64 p.so, .int .i64 p.de, .int .i64 p.po, .int .i64 p.ma, .int .i64 p.si] := D2.out
        have zb : wr.heap.size < w4.heap.size := b.lt
        have b_0 : w4.cell? ⟨wr.heap.size, 0, none⟩ = some (.int .i64 p.id) := b.cell 0
        have b_1 : w4.cell? ⟨wr.heap.size, 1, none⟩ = some (.int .i64 p.so) := b.cell 1
        have b_2 : w4.cell? ⟨wr.heap.size, 2, none⟩ = some (.int .i64 p.de) := b.cell 2
        have b_3 : w4.cell? ⟨wr.heap.size, 3, none⟩ = some (.int .i64 p.po) := b.cell 3
        have b_4 : w4.cell? ⟨wr.heap.size, 4, none⟩ = some (.int .i64 p.ma) := b.cell 4
        have b_5 : w4.cell? ⟨wr.heap.size, 5, none⟩ = some (.int .i64 p.si) := b.cell 5
        have bf := b.free
        have Hb := Lib.hid b
        clear b
        go_wp2_with fail
        refine (packetText_any hp _ (HL.out.below HB4.out).tab).mono ?_
        rintro e w5 ⟨rfl, hb5⟩
        have HB5 := Lib.hid (bt HB4.out hb5)
        have F2 := Lib.hid (D2.out.old hb5)
        have r : Bk w5 (w.heap.size) 26 #[.int .i64 0, .int .i64 0, .int .i64 0, .int .i64 0, .int .i64 0, .int .i64 0] := D1.out.old hb5
        have zr : w.heap.size < w5.heap.size := r.lt
        have r_0 : w5.cell? ⟨w.heap.size, 0, none⟩ = some (.int .i64 0) := r.cell 0
        have r_1 : w5.cell? ⟨w.heap.size, 1, none⟩ = some (.int .i64 0) := r.cell 1
        have r_2 : w5.cell? ⟨w.heap.size, 2, none⟩ = some (.int .i64 0) := r.cell 2
        have r_3 : w5.cell? ⟨w.heap.size, 3, none⟩ = some (.int .i64 0) := r.cell 3
        have r_4 : w5.cell? ⟨w.heap.size, 4, none⟩ = some (.int .i64 0) := r.cell 4
        have r_5 : w5.cell? ⟨w.heap.size, 5, none⟩ = some (.int .i64 0) := r.cell 5
        have rf := r.free
        have Hr := Lib.hid r
        clear r
        clear hb5 b_0 b_1 b_2 b_3 b_4 b_5 bf zb
        go_wp2_with fail
        exact bodyPost_ret (v := .tuple #[.agg #[.int .i64 0, .int .i64 0, .int .i64 0, .int .i64 0, .int .i64 0, .int .i64 0], .bool false]) (by simp [results, Tryd.results9, go_sem, r_0, r_1, r_2, r_3, r_4, r_5]) rfl (PpEnd_no HN.out rfl (by repeat (first | (with_reducible exact HB5.out) | (with_reducible refine ba ?_ _) | (with_reducible refine bsB ?_ (by omega)) | (with_reducible refine bd ?_ _) | (with_reducible refine Below.drew ?_))))
end Go.Proofs.YtmkmcobomlchfaaDoor
