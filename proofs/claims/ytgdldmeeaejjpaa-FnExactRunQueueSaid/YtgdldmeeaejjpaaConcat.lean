/- The contracts of slices.Grow on the nil slice of packets and of slices.Concat on slices of packets. -/
import Derived.Test.YtgdldmeeaejjpaaNest
import Derived.Test.YtgdldmeeaejjpaaCopy
import Derived.Lib.AppendZeros
namespace Go.Proofs.Ytgdldmeeaejjpaa
open Go.ChangeShapes Go.WideShapes Go.ChangeAt Go.RowKit
set_option linter.unusedVariables false
set_option maxHeartbeats 1000000 in
theorem grow_any (c : Nat) (w : World) (hc : c ≤ 1048576) : Calls Try.prog 98 #[.slice none 0 0, .int .i64 (c : Int)] w (NewPacketS w []) := by
  rcases Nat.eq_zero_or_pos c with rfl | h0
  · go_enter Try.func98, Try.ntmps98
    go_wp2_with fail
    go_ret
    exact ⟨none, 0, 0, rfl, IOwn.none_ _ _ _ _ _, b0 _⟩
  obtain ⟨i0, hi, hz0, hz1, hz2⟩ := info_parts tPacket
  have hr := fun ty => Lib.run_append_nil_zeros (P := Try.prog) w 28 3 ty 35 i0 _ .i64 .i64 Try.underlying28 Try.underlying3 hi hz0 c h0 (by rw [hz1]; omega) (by omega) (by rw [hz2]; omega)
  have hG1 := grownCap_ge w c 0 35
  have hG2 := grownCap_le_maxLen w c 0 35 (by unfold maxLen; omega)
  generalize grownCap w c 0 35 = G at *
  have hG3 : G ≤ 9223372036854775807 := by unfold maxLen at hG2; omega
  have HO := Lib.hid (show IOwn (w.drew.alloc (.cells (Builtin.zeroCells ((.agg #[.int .i64 0, .int .i64 0, .int .i64 0, .int .i64 0, .int .i64 0, .int .i64 0] : Value)).cells c ++ Builtin.zeroCells ((.agg #[.int .i64 0, .int .i64 0, .int .i64 0, .int .i64 0, .int .i64 0, .int .i64 0] : Value)).cells (G - c)) 35)) w.heap.size (w.heap.size + 1) 35 6 (some ⟨w.heap.size, 0, none⟩) 0 G [] by
    refine ⟨⟨by simp, .inr ⟨w.heap.size, G, _, rfl, Nat.le_refl _, heap_alloc_new w.drew _, Nat.zero_le _, hG2, ?_, by simp⟩⟩, fun k hk => ?_⟩
    · rw [Array.size_append, size_zeroCells, size_zeroCells]
      show c * 6 + (G - c) * 6 = G * 6
      omega
    · have : w.heap.size = k := by simpa [Value.ownBlock] using hk
      omega)
  clear hi hz0 hz1 hz2
  have hR := Lib.hid hr
  clear hr
  go_enter Try.func98, Try.ntmps98
  go_wp2_with (at_builtin; refine Lib.wpList_append_run _ rfl _ _ _ _ rfl _ _ rfl rfl _ _ (hR.out _) ?_)
  go_ret
  exact ⟨_, _, _, rfl, HO.out.here, (ba (b0 w).drew _)⟩
def fcat (F : List (List Pk)) (k : Nat) : List Pk := (F.take k).flatten
theorem fcat_zero (F : List (List Pk)) : fcat F 0 = [] := by simp [fcat]
theorem fcat_succ {F : List (List Pk)} {k : Nat} {L : List Pk} (h : F[k]? = some L) : fcat F (k + 1) = fcat F k ++ L := by
  obtain ⟨hk, e⟩ := List.getElem?_eq_some_iff.1 h
  simp [fcat, List.take_succ_eq_append_getElem hk, e]
theorem fcat_all {F : List (List Pk)} {n : Nat} (h : F.length ≤ n) : fcat F n = F.flatten := by rw [fcat, List.take_of_length_le h]
theorem fcat_le (F : List (List Pk)) (k : Nat) : (fcat F k).length ≤ F.flatten.length := by
  have h1 : F.flatten = (F.take k).flatten ++ (F.drop k).flatten := by rw [← List.flatten_append, List.take_append_drop]
  rw [h1, List.length_append]
  unfold fcat
  omega
set_option maxRecDepth 100000 in
set_option maxHeartbeats 2000000 in
theorem concat_any (A : Option Addr) (n cap : Nat) (F : List (List Pk)) (w : World) (hl : F.length = n) (hr : NRow w A (F.map fl)) (hn : n ≤ 1048576) (ht : F.flatten.length ≤ 1048576) :
    Calls Try.prog 66 #[.slice A n cap] w (NewPacketS w (fl F.flatten)) := by
  obtain ⟨i0, hi, hz0, hz1, hz2⟩ := info_parts tPacket
  have HI := Lib.hid hi
  have HZ0 := Lib.hid hz0
  have HZ1 := Lib.hid hz1
  have HZ2 := Lib.hid hz2
  clear hi hz0 hz1 hz2
  have HL := Lib.hid hl
  have HR := Lib.hid hr
  have HT := Lib.hid (fun k => Nat.le_trans (fcat_le F k) ht)
  have HROW := Lib.hid (fun (k : Nat) (L : List Pk) (hk : F[k]? = some L) (W : World) (hb : Below w.heap.size w W) => (hr.below hb).at_ (k := k) (l := fl L) (by simp [hk]))
  clear hl hr ht
  go_enter Try.func66, Try.ntmps66
  go_wp2_with fail
  go_loopw [3, 11] (fun s i wr => ∃ k : Nat, k ≤ n ∧ i = .int .i64 k ∧ s = .int .i64 ((fcat F k).length : Int) ∧ Below w.heap.size w wr) (fun _ i _ => n - (intOf i).toNat)
  case atStart => exact ⟨0, Nat.zero_le _, rfl, by rw [fcat_zero]; rfl, b0 _⟩
  case round =>
    obtain ⟨k, hk, rfl, rfl, hbw⟩ := hrel
    have hts := HT.out k
    by_cases hlt : k < n
    · obtain ⟨L, hkl⟩ : ∃ L, F[k]? = some L := ⟨_, List.getElem?_eq_getElem (by rw [HL.out]; exact hlt)⟩
      obtain ⟨g, off, X, x, xc, rfl, hgl, hck, hxl, hxc, hx0, hxr⟩ := HROW.out k L hkl _ hbw
      obtain rfl : L.length = x := by rw [fl_len] at hxl; omega
      have HE := Lib.hid (fcat_succ hkl)
      have hte := HT.out (k + 1)
      rw [HE.out, List.length_append] at hte
      clear hkl hxl hxr
      go_wp2_with fail
      go_roundw
      case rel => exact ⟨k + 1, by omega, by go_num, by rw [HE.out, List.length_append]; congr 1, hbw⟩
      case measure => simp [intOf]; omega
    · obtain rfl : n = k := by omega
      have hnb : ¬ (((fcat F n).length : Int) < 0) := by omega
      go_wp2_with fail
      refine (grow_any _ _ hts).mono ?_
      rintro e w1 ⟨C, c0, c1, rfl, ho, hb1⟩
      obtain rfl : c0 = 0 := by have := ho.len; simp at this; omega
      have HO := Lib.hid (ho.lo_le (lo' := w.heap.size) hbw.size)
      have HB1 := Lib.hid (bt hbw hb1)
      clear ho hb1 hbw hts
      go_wp2_with fail
      go_loopw [6, 27] (fun s i wr => ∃ (k : Nat) (C : Option Addr) (c : Nat), k ≤ n ∧ i = .int .i64 k ∧ s = .slice C (fcat F k).length c ∧ IOwn wr w.heap.size wr.heap.size 35 6 C (fcat F k).length c (fl (fcat F k)) ∧ Below w.heap.size w wr) (fun _ i _ => n - (intOf i).toNat)
      case atStart => exact ⟨0, C, c1, Nat.zero_le _, rfl, by rw [fcat_zero]; rfl, by rw [fcat_zero]; exact HO.out.here, HB1.out⟩
      case round =>
        obtain ⟨k, D, d, hk, rfl, rfl, ho, hbw⟩ := hrel
        have HO2 := Lib.hid ho
        have HBW := Lib.hid hbw
        have zw := hbw.size
        have hts := HT.out k
        clear ho hbw
        by_cases hlt : k < n
        · obtain ⟨L, hkl⟩ : ∃ L, F[k]? = some L := ⟨_, List.getElem?_eq_getElem (by rw [HL.out]; exact hlt)⟩
          obtain ⟨g, off, X, x, xc, rfl, hgl, hck, hxl, hxc, hx0, hxr⟩ := HROW.out k L hkl _ HBW.out
          obtain rfl : L.length = x := by rw [fl_len] at hxl; omega
          have HE := Lib.hid (fcat_succ hkl)
          have hte := HT.out (k + 1)
          rw [HE.out, List.length_append] at hte
          have HX := Lib.hid hxr
          have HXL := Lib.hid hxl
          clear hkl hxl hxr
          go_wp2_with (at_builtin; refine append_many rfl _ _ _ rfl _ i0 _ 6 48 Try.underlying28 HI.out HZ0.out HZ1.out HZ2.out rfl (by decide) (lo := w.heap.size) (hh := wr.heap.size) (l := fl (fcat F k)) rfl HO2.out (fl L) rfl hx0 HXL.out HX.out (by omega) (by omega) (by omega) ?_; intro A' c' w4 ho4 hb4; have HO4 := Lib.hid ho4; clear ho4)
          go_roundw
          case rel => exact ⟨k + 1, A', c', by omega, by go_num, by rw [HE.out, List.length_append], by rw [HE.out, List.length_append, fl_append]; exact HO4.out, HBW.out.trans hb4⟩
          case measure => simp [intOf]; omega
        · obtain rfl : n = k := by omega
          have HF := Lib.hid (fcat_all (F := F) (n := n) (by rw [HL.out]; exact Nat.le_refl _))
          go_wp2_with fail
          go_ret
          exact ⟨D, _, d, rfl, by rw [← HF.out]; exact HO2.out, HBW.out⟩
end Go.Proofs.Ytgdldmeeaejjpaa
