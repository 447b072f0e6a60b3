/- The contracts of the reference's readers. -/
import Derived.Test.YtmkmcobomlchfaaDoorPpLaw
import Derived.Test.YtmkmcobomlchfaaDoorStrs
import Derived.Test.YtmkmcobomlchfaaDoorTake
import Derived.BigQuiet
import Derived.Laws.DeepStrings4
import Derived.Deep.DeepCutAuto
namespace Go.Proofs.YtmkmcobomlchfaaDoor
open Go.ChangeShapes Go.WideShapes Go.ChangeAt Go.RowKit
set_option linter.unusedVariables false
theorem index_L {s : ByteArray} {i : Nat} {b : UInt8} (hi : s.data.toList[i]? = some b) {z : Int} (hz : z = (i : Int)) (w : World) : (Instr.index 9 (.string s) (.int .i64 z)).run Tryd.prog w = .ok (.int .u8 (b.toNat : Int)) w := by
  subst hz
  have hlt : i < s.size := by have := (List.getElem?_eq_some_iff.1 hi).1; simpa using this
  rw [run_index_string w 9 s .i64 (i : Int) Tryd.underlying9, dif_pos ⟨by omega, by omega⟩]
  simp only [Int.toNat_natCast]
  have e : s[i]'hlt = b := by
    obtain ⟨h1, h2⟩ := List.getElem?_eq_some_iff.1 hi
    rw [← h2]
    simp
    rfl
  rw [e]
theorem slen (s : ByteArray) : s.size = s.data.toList.length := by simp
set_option maxHeartbeats 1000000 in
theorem l1Read_any (s : ByteArray) (w : World) :
    Calls Tryd.prog 24 #[.string s] w fun e w' => e = .returned (.int .i64 (rdL s.data.toList)) ∧ w = w' := by
  by_cases hlen : 1 ≤ s.size ∧ s.size ≤ 6
  rotate_left
  · have HR := Lib.hid (show rdL s.data.toList = -1 from by unfold rdL; rw [if_neg]; rw [← slen]; exact fun h => hlen h.1)
    have hg : decide ((1 : Int) ≤ (s.size : Int) ∧ (s.size : Int) ≤ 6) = false := by rw [decide_eq_false_iff_not]; omega
    clear hlen
    go_enter Tryd.func24, Tryd.ntmps24
    go_wp2_with (go_at_call 18; refine (l1In_any _ _ _ _).mono ?_; rw [hg]; rintro e w' ⟨rfl, rfl⟩)
    go_ret
    exact ⟨by rw [HR.out]; rfl, rfl⟩
  have hg : decide ((1 : Int) ≤ (s.size : Int) ∧ (s.size : Int) ≤ 6) = true := by rw [decide_eq_true_iff]; omega
  obtain ⟨b0, hb0⟩ : ∃ b, s.data.toList[0]? = some b := ⟨_, List.getElem?_eq_getElem (by rw [← slen]; omega)⟩
  have ix0 := index_L (s := s) hb0 (z := 0) (by omega)
  have hh : s.data.toList.head? = some b0 := by rw [List.head?_eq_getElem?, hb0]
  by_cases hz : b0.toNat = 48 ∧ 1 < s.size
  · have HR := Lib.hid (show rdL s.data.toList = -1 from by
      unfold rdL
      rw [if_neg]
      rw [hh, ← slen]
      refine fun h => h.2 ⟨?_, hz.2⟩
      rw [show b0 = 48 from UInt8.toNat_inj.1 hz.1])
    have h1 : (b0.toNat : Int) = 48 := by omega
    have h2 : (1 : Int) < (s.size : Int) := by omega
    clear hlen hz hb0 hh
    go_enter Tryd.func24, Tryd.ntmps24
    go_wp2_with (go_at_call 18; refine (l1In_any _ _ _ _).mono ?_; rw [hg]; rintro e w' ⟨rfl, rfl⟩)
    go_ret
    exact ⟨by rw [HR.out]; rfl, rfl⟩
  have HR := Lib.hid (show rdL s.data.toList = (rdD s.data.toList 0).getD (-1) from by
    unfold rdL
    rw [if_pos]
    rw [hh, ← slen]
    refine ⟨hlen, fun h => hz ⟨?_, h.2⟩⟩
    rw [Option.some.inj h.1]
    rfl)
  obtain ⟨v0, hv0⟩ : ∃ v : Int, v = (b0.toNat : Int) := ⟨_, rfl⟩
  rw [← hv0] at ix0
  have hgz : (v0 = 48 ∧ ¬ (1 : Int) < (s.size : Int)) ∨ ¬ v0 = 48 := by omega
  have HL := Lib.hid hlen
  have HLN := Lib.hid (slen s)
  clear hlen hz hb0 hh hv0
  have hread : ∀ (k : Nat), k < s.size → ∃ b, s.data.toList[k]? = some b := fun k hk => ⟨_, List.getElem?_eq_getElem (by rw [← slen]; exact hk)⟩
  have HRD := Lib.hid hread
  clear hread
  go_enter Tryd.func24, Tryd.ntmps24
  rcases hgz with ⟨c1, c2⟩ | c1
  all_goals
    go_wp2_with (go_at_call 18; refine (l1In_any _ _ _ _).mono ?_; rw [hg]; rintro e w' ⟨rfl, rfl⟩)
    go_loopw [3, 4] (fun v i wr => ∃ (k : Nat) (z : Int), k ≤ s.size ∧ rdD (s.data.toList.take k) 0 = some z ∧ i = .int .i64 (k : Int) ∧ v = .int .i64 z ∧ w = wr) (fun _ i _ => s.size - (intOf i).toNat)
    case atStart => exact ⟨0, 0, by omega, rfl, rfl, rfl, rfl⟩
    case round =>
      obtain ⟨k, z, hk, hz, rfl, rfl, rfl⟩ := hrel
      have HZ := Lib.hid hz
      have hzb : 0 ≤ z ∧ z < 1000000 := by
        obtain ⟨h1, h2⟩ := rdD_bound _ _ _ (by omega) hz
        have hl : (s.data.toList.take k).length ≤ 6 := by rw [List.length_take, ← slen]; have := HL.out; omega
        refine ⟨h1, Int.lt_of_lt_of_le h2 ?_⟩
        rw [Int.zero_add, Int.one_mul]
        calc (10 : Int) ^ (s.data.toList.take k).length = (((10 ^ (s.data.toList.take k).length : Nat)) : Int) := by simp
          _ ≤ ((10 ^ 6 : Nat) : Int) := Int.ofNat_le.2 (Nat.pow_le_pow_right (by omega) hl)
          _ = 1000000 := by decide
      clear hz
      by_cases hlt : k < s.size
      · have hki : (k : Int) < (s.size : Int) := by omega
        obtain ⟨b, hb⟩ := HRD.out k hlt
        have ix := index_L (s := s) hb (z := (k : Int)) rfl
        have HT := Lib.hid (rdD_take hb 0)
        have hbb := b.toNat_lt
        obtain ⟨v, hv⟩ : ∃ v : Int, v = (b.toNat : Int) := ⟨_, rfl⟩
        rw [← hv] at ix
        have HV := Lib.hid hv
        clear hb
        by_cases d1 : v < 48
        · have HN := Lib.hid (show rdD s.data.toList 0 = none from rdD_none (i := k + 1) (by rw [HT.out, HZ.out, Option.bind_some, if_neg (by omega)]))
          clear hv
          go_wp2_with fail
          go_ret
          exact ⟨by rw [HR.out, HN.out]; rfl, rfl⟩
        by_cases d2 : 57 < v
        · have HN := Lib.hid (show rdD s.data.toList 0 = none from rdD_none (i := k + 1) (by rw [HT.out, HZ.out, Option.bind_some, if_neg (by omega)]))
          clear hv
          go_wp2_with fail
          go_ret
          exact ⟨by rw [HR.out, HN.out]; rfl, rfl⟩
        · have x1 : IntKind.u8.wrap (v - 48) = v - 48 := by rw [IntKind.wrap_u8]; omega
          have x2 : IntKind.i64.wrap (v - 48) = v - 48 := IntWalk.i64_in _ (by omega)
          have x3 : IntKind.i64.wrap (10 * z) = 10 * z := IntWalk.i64_in _ (by omega)
          have x4 : IntKind.i64.wrap (10 * z + (v - 48)) = 10 * z + (v - 48) := IntWalk.i64_in _ (by omega)
          have x5 : IntKind.i64.wrap ((k : Int) + 1) = (k : Int) + 1 := IntWalk.i64_in _ (by have := HL.out; omega)
          have HN := Lib.hid (show rdD (s.data.toList.take (k + 1)) 0 = some (10 * z + (v - 48)) from by rw [HT.out, HZ.out, Option.bind_some, if_pos (by omega), hv])
          clear hv
          go_wp2_with fail
          go_roundw
          case rel => exact ⟨k + 1, 10 * z + (v - 48), by omega, HN.out, by simp, rfl, trivial⟩
          case measure => simp [intOf]; omega
      · have hki : ¬ (k : Int) < (s.size : Int) := by omega
        have HN := Lib.hid (show rdD s.data.toList 0 = some z from by
          have h := HZ.out
          rwa [List.take_of_length_le (by rw [← slen]; omega)] at h)
        go_wp2_with fail
        go_ret
        exact ⟨by rw [HR.out, HN.out]; rfl, rfl⟩
set_option maxHeartbeats 1000000 in
theorem l1Split_any (s : ByteArray) (hs : s.size ≤ 1048576) (w : World) :
    Calls Tryd.prog 23 #[.string s, .int .u8 32] w fun e w' => ∃ g cap, e = .returned (.slice (some ⟨g, 0, none⟩) (sp s.data.toList).length cap) ∧ w.heap.size ≤ g ∧ g < w'.heap.size ∧ (∀ j x, (sp s.data.toList)[j]? = some x → w'.cell? ⟨g, j, none⟩ = some (.string (mkS x))) ∧ Below w.heap.size w w' := by
  have HS := Lib.hid hs
  have HLN := Lib.hid (slen s)
  have HRD := Lib.hid (show ∀ (k : Nat), k < s.size → ∃ b, s.data.toList[k]? = some b from fun k hk => ⟨_, List.getElem?_eq_getElem (by rw [← slen]; exact hk)⟩)
  have HEX := Lib.hid (extract_mkS s)
  clear hs
  go_enter Tryd.func23, Tryd.ntmps23
  go_wp2_with fail
  go_loopw [5, 6, 7] (fun v ff i wr => ∃ (k f : Nat) (C : Option Addr) (c : Nat) (D : List (List UInt8)), k ≤ s.size ∧ f ≤ k ∧ D.length ≤ k ∧ i = .int .i64 (k : Int) ∧ ff = .int .i64 (f : Int) ∧ v = .slice C D.length c ∧ SOwn wr w.heap.size C D.length c (D.map mkS) ∧ D ++ spF ((s.data.toList.take k).drop f) (s.data.toList.drop k) = sp s.data.toList ∧ Below w.heap.size w wr) (fun _ _ i _ => s.size - (intOf i).toNat)
  case atStart => exact ⟨0, 0, none, 0, [], by omega, by omega, by simp, rfl, rfl, rfl, SOwn.nil _ _, rfl, b0 _⟩
  case round =>
    obtain ⟨k, f, C, c, D, hk, hf, hD, rfl, rfl, rfl, ho, hsp, hbw⟩ := hrel
    obtain ⟨d, hd⟩ : ∃ d, d = D.length := ⟨_, rfl⟩
    rw [← hd] at ho hD
    simp only [← hd]
    have HD := Lib.hid hd
    have HO := Lib.hid ho
    have HW := Lib.hid hbw
    have HSP := Lib.hid hsp
    have zw := hbw.size
    clear ho hbw hsp hd
    have f0 : (0 : Int) ≤ (f : Int) ∧ (f : Int) ≤ (k : Int) := by omega
    have f1 : (0 : Int) ≤ (k : Int) ∧ (k : Int) ≤ (s.size : Int) := by omega
    by_cases hlt : k < s.size
    · have hki : (k : Int) < (s.size : Int) := by omega
      obtain ⟨b, hb⟩ := HRD.out k hlt
      have ix := index_L (s := s) hb (z := (k : Int)) rfl
      have HB := Lib.hid hb
      have x5 : IntKind.i64.wrap ((k : Int) + 1) = (k : Int) + 1 := IntWalk.i64_in _ (by have := HS.out; omega)
      clear hb
      by_cases hb32 : b = 32
      · have hv : (b.toNat : Int) = 32 := by rw [hb32]; rfl
        have HCUT := Lib.hid (spF_cut HB.out hf hb32)
        rw [hv] at ix
        go_wp2_with (at_builtin; refine append_str rfl _ _ rfl (lo := w.heap.size) (l := D.map mkS) rfl (World.ownsRow.alloc HO.out _) wr.heap.size (s.extract f k) rfl ((Bk.new_ rfl).cell 0) (by have := HS.out; omega) (by simp; omega) ?_; intro A' c' w5 ho5 hb5)
        have HO5 := Lib.hid ho5
        have HB5 := Lib.hid ((ba HW.out _).trans hb5)
        clear ho5 hb5
        go_roundw
        case rel => exact ⟨k + 1, k + 1, A', c', D ++ [(s.data.toList.take k).drop f], by omega, by omega, by simp; have := HD.out; omega, by simp, by simp, by simp [HD.out], by have h := HO5.out; rw [HEX.out] at h; simpa [HD.out] using h, by rw [← HSP.out, HCUT.out]; simp, HB5.out⟩
        case measure => simp [intOf]; omega
      · have hv : ¬ (b.toNat : Int) = 32 := fun e => hb32 (UInt8.toNat_inj.1 (by rw [show (32 : UInt8).toNat = 32 from rfl]; omega))
        have HCUT := Lib.hid (spF_step HB.out hf hb32)
        go_wp2_with fail
        go_roundw
        case rel => exact ⟨k + 1, f, C, c, D, by omega, by omega, by have := HD.out; omega, by simp, rfl, by rw [HD.out], by have h := HO.out; rwa [HD.out] at h, by rw [HCUT.out, HSP.out], HW.out⟩
        case measure => simp [intOf]; omega
    · obtain rfl : k = s.size := by omega
      have HSP2 := Lib.hid (show D ++ [(s.data.toList.take s.size).drop f] = sp s.data.toList from by
        have hz : s.data.toList.drop s.size = [] := List.drop_of_length_le (by rw [← slen]; exact Nat.le_refl _)
        rw [← HSP.out, hz, spF])
      go_wp2_with (at_builtin; refine append_str rfl _ _ rfl (lo := w.heap.size) (l := D.map mkS) rfl (World.ownsRow.alloc HO.out _) wr.heap.size (s.extract f s.size) rfl ((Bk.new_ rfl).cell 0) (by have := HS.out; omega) (by simp; omega) ?_; intro A' c' w5 ho5 hb5)
      rw [HEX.out, show D.map mkS ++ [mkS ((s.data.toList.take s.size).drop f)] = (sp s.data.toList).map mkS from by rw [← HSP2.out]; simp] at ho5
      have HL := Lib.hid (show d + 1 = (sp s.data.toList).length from by rw [← HSP2.out]; simp [HD.out])
      have HO5 := Lib.hid ho5
      have HB5 := Lib.hid ((ba HW.out _).trans hb5)
      clear ho5 hb5
      go_wp2_with fail
      go_ret
      obtain ⟨g, rfl, h1, h2, h3⟩ := HO5.out.cells (by omega)
      exact ⟨g, c', by rw [← HL.out]; rfl, h1, h2, fun j x hj => h3 j _ (by rw [List.getElem?_map, hj]; rfl), HB5.out⟩
def PpEnd (w : World) (l : List UInt8) (e : Ending) (w' : World) : Prop := ∃ p b, e = .returned (.tuple #[.agg #[.int .i64 (p.id), .int .i64 (p.so), .int .i64 (p.de), .int .i64 (p.po), .int .i64 (p.ma), .int .i64 (p.si)], .bool b]) ∧ PpR l p b ∧ Below w.heap.size w w'
theorem PpEnd_no {w w' : World} {l : List UInt8} {e : Ending} (h : PpR l zPk false) (he : e = .returned (.tuple #[.agg #[.int .i64 0, .int .i64 0, .int .i64 0, .int .i64 0, .int .i64 0, .int .i64 0], .bool false])) (hb : Below w.heap.size w w') : PpEnd w l e w' := ⟨zPk, false, he, h, hb⟩
theorem PpEnd_yes {w w' : World} {l : List UInt8} {e : Ending} {p : Pk} (h : PpR l p true) (he : e = .returned (.tuple #[.agg #[.int .i64 (p.id), .int .i64 (p.so), .int .i64 (p.de), .int .i64 (p.po), .int .i64 (p.ma), .int .i64 (p.si)], .bool true])) (hb : Below w.heap.size w w') : PpEnd w l e w' := ⟨p, true, he, h, hb⟩
theorem l1Read_p (l : List UInt8) (w : World) : Calls Tryd.prog 24 #[.string (mkS l)] w fun e w' => e = .returned (.int .i64 (rdL l)) ∧ w = w' := l1Read_any (mkS l) w
theorem str_mkS {s : ByteArray} {l : List UInt8} (h : l ≠ s.data.toList) : (l == s.toList) = false := by
  rw [beq_eq_false_iff_ne]
  intro e
  apply h
  rw [e, ByteArray.toList_eq]
set_option maxHeartbeats 1000000 in
theorem pkParse_any (s : ByteArray) (hs : s.size ≤ 1048576) (w : World) : Calls Tryd.prog 15 #[.string s] w (PpEnd w s.data.toList) := by
  go_enter Tryd.func15, Tryd.ntmps15
  go_wp2_with fail
  obtain ⟨W, hW⟩ : ∃ W, W = w.alloc (.cells #[.int .i64 0, .int .i64 0, .int .i64 0, .int .i64 0, .int .i64 0, .int .i64 0] 26) := ⟨_, rfl⟩
  rw [← hW]
  have HR := Lib.hid (show Bk W w.heap.size 26 #[.int .i64 0, .int .i64 0, .int .i64 0, .int .i64 0, .int .i64 0, .int .i64 0] from by rw [hW]; exact Bk.new _ _ _)
  have HBW := Lib.hid (show Below w.heap.size w W from by rw [hW]; exact ba (b0 w) _)
  have zW : w.heap.size < W.heap.size := by rw [hW]; simp
  clear hW
  refine (l1Split_any s hs W).mono ?_
  rintro e w1 ⟨g, cap, rfl, hg0, hg1, hcs, hb1⟩
  have HB1 := Lib.hid (bt HBW.out hb1)
  have R1 := Lib.hid (HR.out.old hb1)
  clear hb1
  by_cases hl : (sp s.data.toList).length = 6
  rotate_left
  · have HN := Lib.hid (PpR_len hl)
    have hne : (((sp s.data.toList).length : Int) != 6) = true := by rw [bne_iff_ne]; omega
    clear hcs
    have r : Bk w1 (w.heap.size) 26 #[.int .i64 0, .int .i64 0, .int .i64 0, .int .i64 0, .int .i64 0, .int .i64 0] := R1.out
    have zr : w.heap.size < w1.heap.size := r.lt
    have r_0 : w1.cell? ⟨w.heap.size, 0, none⟩ = some (.int .i64 0) := r.cell 0
    have r_1 : w1.cell? ⟨w.heap.size, 1, none⟩ = some (.int .i64 0) := r.cell 1
    have r_2 : w1.cell? ⟨w.heap.size, 2, none⟩ = some (.int .i64 0) := r.cell 2
    have r_3 : w1.cell? ⟨w.heap.size, 3, none⟩ = some (.int .i64 0) := r.cell 3
    have r_4 : w1.cell? ⟨w.heap.size, 4, none⟩ = some (.int .i64 0) := r.cell 4
    have r_5 : w1.cell? ⟨w.heap.size, 5, none⟩ = some (.int .i64 0) := r.cell 5
    have rf := r.free
    have Hr := Lib.hid r
    clear r
    go_wp2_with fail
    exact bodyPost_ret (v := .tuple #[.agg #[.int .i64 0, .int .i64 0, .int .i64 0, .int .i64 0, .int .i64 0, .int .i64 0], .bool false]) (by simp [results, Tryd.results15, go_sem, r_0, r_1, r_2, r_3, r_4, r_5]) rfl (PpEnd_no HN.out rfl (by repeat (first | (with_reducible exact HB1.out) | (with_reducible refine ba ?_ _) | (with_reducible refine bsB ?_ (by omega)) | (with_reducible refine bd ?_ _) | (with_reducible refine Below.drew ?_))))
  have hc : ∀ j, j < 6 → w1.cell? ⟨g, j, none⟩ = some (.string (mkS (pc s.data.toList j))) := fun j hj => hcs j _ (by unfold pc; rw [List.getElem?_eq_getElem (by omega)]; rfl)
  obtain ⟨p, hpo⟩ : ∃ p, p = rdP s.data.toList := ⟨_, rfl⟩
  have c0 := hc 0 (by omega)
  have c1 := hc 1 (by omega)
  have c2 := hc 2 (by omega)
  have c3 := hc 3 (by omega)
  have c4 := hc 4 (by omega)
  have c5 := hc 5 (by omega)
  have r0 : rdL (pc s.data.toList 0) = p.id := by rw [hpo]; rfl
  have r1 : rdL (pc s.data.toList 1) = p.so := by rw [hpo]; rfl
  have r2 : rdL (pc s.data.toList 2) = p.de := by rw [hpo]; rfl
  have r3 : rdL (pc s.data.toList 3) = p.po := by rw [hpo]; rfl
  have r4 : rdL (pc s.data.toList 4) = p.ma := by rw [hpo]; rfl
  have r5 : rdL (pc s.data.toList 5) = p.si := by rw [hpo]; rfl
  have k0 := l1Read_p (pc s.data.toList 0)
  have k1 := l1Read_p (pc s.data.toList 1)
  have k2 := l1Read_p (pc s.data.toList 2)
  have k3 := l1Read_p (pc s.data.toList 3)
  have k4 := l1Read_p (pc s.data.toList 4)
  have k5 := l1Read_p (pc s.data.toList 5)
  rw [r0] at k0
  rw [r1] at k1
  rw [r2] at k2
  rw [r3] at k3
  rw [r4] at k4
  rw [r5] at k5
  have K0 := Lib.hid k0
  have K1 := Lib.hid k1
  have K2 := Lib.hid k2
  have K3 := Lib.hid k3
  have K4 := Lib.hid k4
  have K5 := Lib.hid k5
  have HPO := Lib.hid hpo
  clear r0 r1 r2 r3 r4 r5 k0 k1 k2 k3 k4 k5 hc hcs hpo
  rw [hl]
  clear hl
  generalize mkS (pc s.data.toList 0) = s0 at *
  generalize mkS (pc s.data.toList 1) = s1 at *
  generalize mkS (pc s.data.toList 2) = s2 at *
  generalize mkS (pc s.data.toList 3) = s3 at *
  generalize mkS (pc s.data.toList 4) = s4 at *
  generalize mkS (pc s.data.toList 5) = s5 at *
  go_wp2_with fail
  go_cut [5] (fun a5 wx => a5 = .pointer (some ⟨w1.heap.size, 0, none⟩) ∧ Bk wx w.heap.size 26 #[.int .i64 0, .int .i64 0, .int .i64 0, .int .i64 0, .int .i64 0, .int .i64 0] ∧ Bk wx w1.heap.size 26 #[.int .i64 p.id, .int .i64 p.so, .int .i64 p.de, .int .i64 p.po, .int .i64 p.ma, .int .i64 p.si] ∧ Below w.heap.size w wx)
  case first =>
    refine wp_region_held_drew (S := fun w' => w'.cell? ⟨g, 0, none⟩ = some (.string s0) ∧ w'.cell? ⟨g, 1, none⟩ = some (.string s1) ∧ w'.cell? ⟨g, 2, none⟩ = some (.string s2) ∧ w'.cell? ⟨g, 3, none⟩ = some (.string s3) ∧ w'.cell? ⟨g, 4, none⟩ = some (.string s4) ∧ w'.cell? ⟨g, 5, none⟩ = some (.string s5)) (by kernel_rfl) (by exact ⟨c0, c1, c2, c3, c4, c5⟩) (fun hHeld => ?_)
    refine' wpAnyH_take (i := 0) (oi := _) (v := _) ?gi0 (by kernel_rfl) (by kernel_rfl) (by kernel_rfl) ?gq0 ?gy0 hHeld ?gr0
    case gi0 => simp only [List.getElem?_toArray, List.getElem?_cons_zero]; rfl
    case gq0 => exact fun _ _ _ h => h
    case gy0 => refine Or.inl ⟨by rfl, ?_⟩; intro w' hSw; (try dsimp only at hSw); go_simp; (try with_reducible rfl)
    (try simp only [Act.put, List.setIfInBounds_toArray, List.set_cons_zero, List.set_cons_succ])
    refine' wpAnyH_take (i := 1) (oi := _) (v := _) ?gi1 (by kernel_rfl) (by kernel_rfl) (by kernel_rfl) ?gq1 ?gy1 hHeld ?gr1
    case gi1 => simp only [List.getElem?_toArray, List.getElem?_cons_zero, List.getElem?_cons_succ]; rfl
    case gq1 => exact fun _ _ _ h => h
    case gy1 => refine Or.inl ⟨by rfl, ?_⟩; intro w' hSw; (try dsimp only at hSw); go_simp; (try with_reducible rfl)
    (try simp only [Act.put, List.setIfInBounds_toArray, List.set_cons_zero, List.set_cons_succ])
    refine' wpAnyH_take (i := 2) (oi := _) (v := _) ?gi2 (by kernel_rfl) (by kernel_rfl) (by kernel_rfl) ?gq2 ?gy2 hHeld ?gr2
    case gi2 => simp only [List.getElem?_toArray, List.getElem?_cons_zero, List.getElem?_cons_succ]; rfl
    case gq2 => exact fun _ _ _ h => h
    case gy2 => refine Or.inl ⟨by rfl, ?_⟩; intro w' hSw; (try dsimp only at hSw); go_simp; (try with_reducible rfl)
    (try simp only [Act.put, List.setIfInBounds_toArray, List.set_cons_zero, List.set_cons_succ])
    refine' wpAnyH_read (i := 3) (oi := _) (v := .int .i64 p.id) ?gi3 (by kernel_rfl) (by kernel_rfl) (by kernel_rfl) ?gq3 ?gy3 hHeld ?gr3
    case gi3 => simp only [List.getElem?_toArray, List.getElem?_cons_zero, List.getElem?_cons_succ]; rfl
    case gq3 => exact fun _ _ _ h => h
    case gy3 => refine ⟨by rfl, ?_⟩; intro u hu; simp only [Oper.quietAt]; go_simp; exact (K0.out u).mono fun e w' ⟨he, hw⟩ => ⟨he, hw.symm⟩
    (try simp only [Act.put, List.setIfInBounds_toArray, List.set_cons_zero, List.set_cons_succ])
    refine' wpAnyH_take (i := 4) (oi := _) (v := _) ?gi4 (by kernel_rfl) (by kernel_rfl) (by kernel_rfl) ?gq4 ?gy4 hHeld ?gr4
    case gi4 => simp only [List.getElem?_toArray, List.getElem?_cons_zero, List.getElem?_cons_succ]; rfl
    case gq4 => exact fun _ _ _ h => h
    case gy4 => refine Or.inl ⟨by rfl, ?_⟩; intro w' hSw; (try dsimp only at hSw); go_simp; (try with_reducible rfl)
    (try simp only [Act.put, List.setIfInBounds_toArray, List.set_cons_zero, List.set_cons_succ])
    refine' wpAnyH_take (i := 5) (oi := _) (v := _) ?gi5 (by kernel_rfl) (by kernel_rfl) (by kernel_rfl) ?gq5 ?gy5 hHeld ?gr5
    case gi5 => simp only [List.getElem?_toArray, List.getElem?_cons_zero, List.getElem?_cons_succ]; rfl
    case gq5 => exact fun _ _ _ h => h
    case gy5 => refine Or.inl ⟨by rfl, ?_⟩; intro w' hSw; (try dsimp only at hSw); go_simp; (try with_reducible rfl)
    (try simp only [Act.put, List.setIfInBounds_toArray, List.set_cons_zero, List.set_cons_succ])
    refine' wpAnyH_take (i := 6) (oi := _) (v := _) ?gi6 (by kernel_rfl) (by kernel_rfl) (by kernel_rfl) ?gq6 ?gy6 hHeld ?gr6
    case gi6 => simp only [List.getElem?_toArray, List.getElem?_cons_zero, List.getElem?_cons_succ]; rfl
    case gq6 => exact fun _ _ _ h => h
    case gy6 => refine Or.inl ⟨by rfl, ?_⟩; intro w' hSw; (try dsimp only at hSw); go_simp; (try with_reducible rfl)
    (try simp only [Act.put, List.setIfInBounds_toArray, List.set_cons_zero, List.set_cons_succ])
    refine' wpAnyH_read (i := 7) (oi := _) (v := .int .i64 p.so) ?gi7 (by kernel_rfl) (by kernel_rfl) (by kernel_rfl) ?gq7 ?gy7 hHeld ?gr7
    case gi7 => simp only [List.getElem?_toArray, List.getElem?_cons_zero, List.getElem?_cons_succ]; rfl
    case gq7 => exact fun _ _ _ h => h
    case gy7 => refine ⟨by rfl, ?_⟩; intro u hu; simp only [Oper.quietAt]; go_simp; exact (K1.out u).mono fun e w' ⟨he, hw⟩ => ⟨he, hw.symm⟩
    (try simp only [Act.put, List.setIfInBounds_toArray, List.set_cons_zero, List.set_cons_succ])
    refine' wpAnyH_take (i := 8) (oi := _) (v := _) ?gi8 (by kernel_rfl) (by kernel_rfl) (by kernel_rfl) ?gq8 ?gy8 hHeld ?gr8
    case gi8 => simp only [List.getElem?_toArray, List.getElem?_cons_zero, List.getElem?_cons_succ]; rfl
    case gq8 => exact fun _ _ _ h => h
    case gy8 => refine Or.inl ⟨by rfl, ?_⟩; intro w' hSw; (try dsimp only at hSw); go_simp; (try with_reducible rfl)
    (try simp only [Act.put, List.setIfInBounds_toArray, List.set_cons_zero, List.set_cons_succ])
    refine' wpAnyH_take (i := 9) (oi := _) (v := _) ?gi9 (by kernel_rfl) (by kernel_rfl) (by kernel_rfl) ?gq9 ?gy9 hHeld ?gr9
    case gi9 => simp only [List.getElem?_toArray, List.getElem?_cons_zero, List.getElem?_cons_succ]; rfl
    case gq9 => exact fun _ _ _ h => h
    case gy9 => refine Or.inl ⟨by rfl, ?_⟩; intro w' hSw; (try dsimp only at hSw); go_simp; (try with_reducible rfl)
    (try simp only [Act.put, List.setIfInBounds_toArray, List.set_cons_zero, List.set_cons_succ])
    refine' wpAnyH_take (i := 10) (oi := _) (v := _) ?gi10 (by kernel_rfl) (by kernel_rfl) (by kernel_rfl) ?gq10 ?gy10 hHeld ?gr10
    case gi10 => simp only [List.getElem?_toArray, List.getElem?_cons_zero, List.getElem?_cons_succ]; rfl
    case gq10 => exact fun _ _ _ h => h
    case gy10 => refine Or.inl ⟨by rfl, ?_⟩; intro w' hSw; (try dsimp only at hSw); go_simp; (try with_reducible rfl)
    (try simp only [Act.put, List.setIfInBounds_toArray, List.set_cons_zero, List.set_cons_succ])
    refine' wpAnyH_read (i := 11) (oi := _) (v := .int .i64 p.de) ?gi11 (by kernel_rfl) (by kernel_rfl) (by kernel_rfl) ?gq11 ?gy11 hHeld ?gr11
    case gi11 => simp only [List.getElem?_toArray, List.getElem?_cons_zero, List.getElem?_cons_succ]; rfl
    case gq11 => exact fun _ _ _ h => h
    case gy11 => refine ⟨by rfl, ?_⟩; intro u hu; simp only [Oper.quietAt]; go_simp; exact (K2.out u).mono fun e w' ⟨he, hw⟩ => ⟨he, hw.symm⟩
    (try simp only [Act.put, List.setIfInBounds_toArray, List.set_cons_zero, List.set_cons_succ])
    refine' wpAnyH_take (i := 12) (oi := _) (v := _) ?gi12 (by kernel_rfl) (by kernel_rfl) (by kernel_rfl) ?gq12 ?gy12 hHeld ?gr12
    case gi12 => simp only [List.getElem?_toArray, List.getElem?_cons_zero, List.getElem?_cons_succ]; rfl
    case gq12 => exact fun _ _ _ h => h
    case gy12 => refine Or.inl ⟨by rfl, ?_⟩; intro w' hSw; (try dsimp only at hSw); go_simp; (try with_reducible rfl)
    (try simp only [Act.put, List.setIfInBounds_toArray, List.set_cons_zero, List.set_cons_succ])
    refine' wpAnyH_take (i := 13) (oi := _) (v := _) ?gi13 (by kernel_rfl) (by kernel_rfl) (by kernel_rfl) ?gq13 ?gy13 hHeld ?gr13
    case gi13 => simp only [List.getElem?_toArray, List.getElem?_cons_zero, List.getElem?_cons_succ]; rfl
    case gq13 => exact fun _ _ _ h => h
    case gy13 => refine Or.inl ⟨by rfl, ?_⟩; intro w' hSw; (try dsimp only at hSw); go_simp; (try with_reducible rfl)
    (try simp only [Act.put, List.setIfInBounds_toArray, List.set_cons_zero, List.set_cons_succ])
    refine' wpAnyH_take (i := 14) (oi := _) (v := _) ?gi14 (by kernel_rfl) (by kernel_rfl) (by kernel_rfl) ?gq14 ?gy14 hHeld ?gr14
    case gi14 => simp only [List.getElem?_toArray, List.getElem?_cons_zero, List.getElem?_cons_succ]; rfl
    case gq14 => exact fun _ _ _ h => h
    case gy14 => refine Or.inl ⟨by rfl, ?_⟩; intro w' hSw; (try dsimp only at hSw); go_simp; (try with_reducible rfl)
    (try simp only [Act.put, List.setIfInBounds_toArray, List.set_cons_zero, List.set_cons_succ])
    refine' wpAnyH_read (i := 15) (oi := _) (v := .int .i64 p.po) ?gi15 (by kernel_rfl) (by kernel_rfl) (by kernel_rfl) ?gq15 ?gy15 hHeld ?gr15
    case gi15 => simp only [List.getElem?_toArray, List.getElem?_cons_zero, List.getElem?_cons_succ]; rfl
    case gq15 => exact fun _ _ _ h => h
    case gy15 => refine ⟨by rfl, ?_⟩; intro u hu; simp only [Oper.quietAt]; go_simp; exact (K3.out u).mono fun e w' ⟨he, hw⟩ => ⟨he, hw.symm⟩
    (try simp only [Act.put, List.setIfInBounds_toArray, List.set_cons_zero, List.set_cons_succ])
    refine' wpAnyH_take (i := 16) (oi := _) (v := _) ?gi16 (by kernel_rfl) (by kernel_rfl) (by kernel_rfl) ?gq16 ?gy16 hHeld ?gr16
    case gi16 => simp only [List.getElem?_toArray, List.getElem?_cons_zero, List.getElem?_cons_succ]; rfl
    case gq16 => exact fun _ _ _ h => h
    case gy16 => refine Or.inl ⟨by rfl, ?_⟩; intro w' hSw; (try dsimp only at hSw); go_simp; (try with_reducible rfl)
    (try simp only [Act.put, List.setIfInBounds_toArray, List.set_cons_zero, List.set_cons_succ])
    refine' wpAnyH_take (i := 17) (oi := _) (v := _) ?gi17 (by kernel_rfl) (by kernel_rfl) (by kernel_rfl) ?gq17 ?gy17 hHeld ?gr17
    case gi17 => simp only [List.getElem?_toArray, List.getElem?_cons_zero, List.getElem?_cons_succ]; rfl
    case gq17 => exact fun _ _ _ h => h
    case gy17 => refine Or.inl ⟨by rfl, ?_⟩; intro w' hSw; (try dsimp only at hSw); go_simp; (try with_reducible rfl)
    (try simp only [Act.put, List.setIfInBounds_toArray, List.set_cons_zero, List.set_cons_succ])
    refine' wpAnyH_take (i := 18) (oi := _) (v := _) ?gi18 (by kernel_rfl) (by kernel_rfl) (by kernel_rfl) ?gq18 ?gy18 hHeld ?gr18
    case gi18 => simp only [List.getElem?_toArray, List.getElem?_cons_zero, List.getElem?_cons_succ]; rfl
    case gq18 => exact fun _ _ _ h => h
    case gy18 => refine Or.inl ⟨by rfl, ?_⟩; intro w' hSw; (try dsimp only at hSw); go_simp; (try with_reducible rfl)
    (try simp only [Act.put, List.setIfInBounds_toArray, List.set_cons_zero, List.set_cons_succ])
    refine' wpAnyH_read (i := 19) (oi := _) (v := .int .i64 p.ma) ?gi19 (by kernel_rfl) (by kernel_rfl) (by kernel_rfl) ?gq19 ?gy19 hHeld ?gr19
    case gi19 => simp only [List.getElem?_toArray, List.getElem?_cons_zero, List.getElem?_cons_succ]; rfl
    case gq19 => exact fun _ _ _ h => h
    case gy19 => refine ⟨by rfl, ?_⟩; intro u hu; simp only [Oper.quietAt]; go_simp; exact (K4.out u).mono fun e w' ⟨he, hw⟩ => ⟨he, hw.symm⟩
    (try simp only [Act.put, List.setIfInBounds_toArray, List.set_cons_zero, List.set_cons_succ])
    refine' wpAnyH_take (i := 20) (oi := _) (v := _) ?gi20 (by kernel_rfl) (by kernel_rfl) (by kernel_rfl) ?gq20 ?gy20 hHeld ?gr20
    case gi20 => simp only [List.getElem?_toArray, List.getElem?_cons_zero, List.getElem?_cons_succ]; rfl
    case gq20 => exact fun _ _ _ h => h
    case gy20 => refine Or.inl ⟨by rfl, ?_⟩; intro w' hSw; (try dsimp only at hSw); go_simp; (try with_reducible rfl)
    (try simp only [Act.put, List.setIfInBounds_toArray, List.set_cons_zero, List.set_cons_succ])
    refine' wpAnyH_take (i := 21) (oi := _) (v := _) ?gi21 (by kernel_rfl) (by kernel_rfl) (by kernel_rfl) ?gq21 ?gy21 hHeld ?gr21
    case gi21 => simp only [List.getElem?_toArray, List.getElem?_cons_zero, List.getElem?_cons_succ]; rfl
    case gq21 => exact fun _ _ _ h => h
    case gy21 => refine Or.inl ⟨by rfl, ?_⟩; intro w' hSw; (try dsimp only at hSw); go_simp; (try with_reducible rfl)
    (try simp only [Act.put, List.setIfInBounds_toArray, List.set_cons_zero, List.set_cons_succ])
    refine' wpAnyH_take (i := 22) (oi := _) (v := _) ?gi22 (by kernel_rfl) (by kernel_rfl) (by kernel_rfl) ?gq22 ?gy22 hHeld ?gr22
    case gi22 => simp only [List.getElem?_toArray, List.getElem?_cons_zero, List.getElem?_cons_succ]; rfl
    case gq22 => exact fun _ _ _ h => h
    case gy22 => refine Or.inl ⟨by rfl, ?_⟩; intro w' hSw; (try dsimp only at hSw); go_simp; (try with_reducible rfl)
    (try simp only [Act.put, List.setIfInBounds_toArray, List.set_cons_zero, List.set_cons_succ])
    refine' wpAnyH_read (i := 23) (oi := _) (v := .int .i64 p.si) ?gi23 (by kernel_rfl) (by kernel_rfl) (by kernel_rfl) ?gq23 ?gy23 hHeld ?gr23
    case gi23 => simp only [List.getElem?_toArray, List.getElem?_cons_zero, List.getElem?_cons_succ]; rfl
    case gq23 => exact fun _ _ _ h => h
    case gy23 => refine ⟨by rfl, ?_⟩; intro u hu; simp only [Oper.quietAt]; go_simp; exact (K5.out u).mono fun e w' ⟨he, hw⟩ => ⟨he, hw.symm⟩
    (try simp only [Act.put, List.setIfInBounds_toArray, List.set_cons_zero, List.set_cons_succ])
    refine' wpAnyH_take (i := 24) (oi := _) (v := _) ?gi24 (by kernel_rfl) (by kernel_rfl) (by kernel_rfl) ?gq24 ?gy24 hHeld ?gr24
    case gi24 => simp only [List.getElem?_toArray, List.getElem?_cons_zero, List.getElem?_cons_succ]; rfl
    case gq24 => exact fun _ _ _ h => h
    case gy24 => refine Or.inl ⟨by rfl, ?_⟩; intro w' hSw; (try dsimp only at hSw); go_simp; (try with_reducible rfl)
    (try simp only [Act.put, List.setIfInBounds_toArray, List.set_cons_zero, List.set_cons_succ])
    refine wpAnyH_ready (rs := [25]) (by kernel_rfl) (by simp) ?_
    refine' AllReadyH.cons (o := _) ?go25 (fun K hK => ?gk25) AllReadyH.nil
    case go25 => simp only [List.getElem?_toArray, List.getElem?_cons_zero, List.getElem?_cons_succ]; rfl
    go_simp
    refine hK.out _ _ (by (try dsimp only); go_keep) (fun hHeld25 => ?_)
    clear hK K
    (try simp only [Act.put, List.setIfInBounds_toArray, List.set_cons_zero, List.set_cons_succ])
    refine wpAnyH_ready (rs := [26]) (by kernel_rfl) (by simp) ?_
    refine' AllReadyH.cons (o := _) ?go26 (fun K hK => ?gk26) AllReadyH.nil
    case go26 => simp only [List.getElem?_toArray, List.getElem?_cons_zero, List.getElem?_cons_succ]; rfl
    go_simp
    refine hK.out _ _ (by (try dsimp only); go_keep) (fun hHeld26 => ?_)
    clear hK K
    (try simp only [Act.put, List.setIfInBounds_toArray, List.set_cons_zero, List.set_cons_succ])
    refine wpAnyH_done (by kernel_rfl) ?_ _
    go_wp2_with fail
    go_meet
    exact ⟨rfl, by repeat' (first | (with_reducible exact R1.out) | (with_reducible refine Bk.alloc ?_ _) | (with_reducible refine Bk.drew ?_)), by first | exact (Bk.new _ _ _).drew | exact Bk.new _ _ _, by repeat' (first | (with_reducible exact HB1.out) | (with_reducible refine ba ?_ _) | (with_reducible refine Below.drew ?_))⟩
  obtain ⟨V, hwc⟩ : ∃ x, x = wc := ⟨_, rfl⟩
  subst hwc
  obtain ⟨rfl, hc1, hc2, hbv⟩ := hcut
  have C1 := Lib.hid hc1
  have C2 := Lib.hid hc2
  have HBV := Lib.hid hbv
  clear hc1 hc2 hbv c0 c1 c2 c3 c4 c5 K0 K1 K2 K3 K4 K5 R1
  have zs : w.heap.size < w1.heap.size := Nat.lt_of_lt_of_le zW (by omega)
  have nq : ¬ w.heap.size = w1.heap.size := by omega
  have nr : ¬ w1.heap.size = w.heap.size := by omega
  rcases hp : p.ok with _ | _
  · have HN := Lib.hid (PpR_rd (l := s.data.toList) (fun h => by rw [← HPO.out, hp] at h; cases h))
    have b : Bk V (w1.heap.size) 26 #[.int .i64 p.id, .int .i64 p.so, .int .i64 p.de, .int .i64 p.po, .int .i64 p.ma, .int .i64 p.si] := C2.out
    have zb : w1.heap.size < V.heap.size := b.lt
    have b_0 : V.cell? ⟨w1.heap.size, 0, none⟩ = some (.int .i64 p.id) := b.cell 0
    have b_1 : V.cell? ⟨w1.heap.size, 1, none⟩ = some (.int .i64 p.so) := b.cell 1
    have b_2 : V.cell? ⟨w1.heap.size, 2, none⟩ = some (.int .i64 p.de) := b.cell 2
    have b_3 : V.cell? ⟨w1.heap.size, 3, none⟩ = some (.int .i64 p.po) := b.cell 3
    have b_4 : V.cell? ⟨w1.heap.size, 4, none⟩ = some (.int .i64 p.ma) := b.cell 4
    have b_5 : V.cell? ⟨w1.heap.size, 5, none⟩ = some (.int .i64 p.si) := b.cell 5
    have bf := b.free
    have Hb := Lib.hid b
    clear b
    go_wp2_with fail
    refine (pkGood_b hp _).mono ?_
    rintro e w4 ⟨rfl, hb4⟩
    have HB4 := Lib.hid (bt HBV.out hb4)
    have D1 := Lib.hid (C1.out.old hb4)
    have D2 := Lib.hid (C2.out.old hb4)
    clear hb4 b_0 b_1 b_2 b_3 b_4 b_5 bf zb
    have r : Bk w4 (w.heap.size) 26 #[.int .i64 0, .int .i64 0, .int .i64 0, .int .i64 0, .int .i64 0, .int .i64 0] := D1.out
    have zr : w.heap.size < w4.heap.size := r.lt
    have r_0 : w4.cell? ⟨w.heap.size, 0, none⟩ = some (.int .i64 0) := r.cell 0
    have r_1 : w4.cell? ⟨w.heap.size, 1, none⟩ = some (.int .i64 0) := r.cell 1
    have r_2 : w4.cell? ⟨w.heap.size, 2, none⟩ = some (.int .i64 0) := r.cell 2
    have r_3 : w4.cell? ⟨w.heap.size, 3, none⟩ = some (.int .i64 0) := r.cell 3
    have r_4 : w4.cell? ⟨w.heap.size, 4, none⟩ = some (.int .i64 0) := r.cell 4
    have r_5 : w4.cell? ⟨w.heap.size, 5, none⟩ = some (.int .i64 0) := r.cell 5
    have rf := r.free
    have Hr := Lib.hid r
    clear r
    go_wp2_with fail
    exact bodyPost_ret (v := .tuple #[.agg #[.int .i64 0, .int .i64 0, .int .i64 0, .int .i64 0, .int .i64 0, .int .i64 0], .bool false]) (by simp [results, Tryd.results15, go_sem, r_0, r_1, r_2, r_3, r_4, r_5]) rfl (PpEnd_no HN.out rfl (by repeat (first | (with_reducible exact HB4.out) | (with_reducible refine ba ?_ _) | (with_reducible refine bsB ?_ (by omega)) | (with_reducible refine bd ?_ _) | (with_reducible refine Below.drew ?_))))
  by_cases hh : ptx p = s.data.toList
  · have HN := Lib.hid (PpR_yes hp hh)
    have hsE : (⟨(ptx p).toArray⟩ : ByteArray) = s := by rw [hh]
    have b : Bk V (w1.heap.size) 26 #[.int .i64 p.id, .int .i64 p.so, .int .i64 p.de, .int .i64 p.po, .int .i64 p.ma, .int .i64 p.si] := C2.out
    have zb : w1.heap.size < V.heap.size := b.lt
    have b_0 : V.cell? ⟨w1.heap.size, 0, none⟩ = some (.int .i64 p.id) := b.cell 0
    have b_1 : V.cell? ⟨w1.heap.size, 1, none⟩ = some (.int .i64 p.so) := b.cell 1
    have b_2 : V.cell? ⟨w1.heap.size, 2, none⟩ = some (.int .i64 p.de) := b.cell 2
    have b_3 : V.cell? ⟨w1.heap.size, 3, none⟩ = some (.int .i64 p.po) := b.cell 3
    have b_4 : V.cell? ⟨w1.heap.size, 4, none⟩ = some (.int .i64 p.ma) := b.cell 4
    have b_5 : V.cell? ⟨w1.heap.size, 5, none⟩ = some (.int .i64 p.si) := b.cell 5
    have bf := b.free
    have Hb := Lib.hid b
    clear b
    go_wp2_with fail
    refine (pkGood_b hp _).mono ?_
    rintro e w4 ⟨rfl, hb4⟩
    have HB4 := Lib.hid (bt HBV.out hb4)
    have D1 := Lib.hid (C1.out.old hb4)
    have D2 := Lib.hid (C2.out.old hb4)
    clear hb4 b_0 b_1 b_2 b_3 b_4 b_5 bf zb
    have b : Bk w4 (w1.heap.size) 26 #[.int .i64 p.id, .int .i64 p.so, .int .i64 p.de, .int .i64 p.po, .int .i64 p.ma, .int .i64 p.si] := D2.out
    have zb : w1.heap.size < w4.heap.size := b.lt
    have b_0 : w4.cell? ⟨w1.heap.size, 0, none⟩ = some (.int .i64 p.id) := b.cell 0
    have b_1 : w4.cell? ⟨w1.heap.size, 1, none⟩ = some (.int .i64 p.so) := b.cell 1
    have b_2 : w4.cell? ⟨w1.heap.size, 2, none⟩ = some (.int .i64 p.de) := b.cell 2
    have b_3 : w4.cell? ⟨w1.heap.size, 3, none⟩ = some (.int .i64 p.po) := b.cell 3
    have b_4 : w4.cell? ⟨w1.heap.size, 4, none⟩ = some (.int .i64 p.ma) := b.cell 4
    have b_5 : w4.cell? ⟨w1.heap.size, 5, none⟩ = some (.int .i64 p.si) := b.cell 5
    have bf := b.free
    have Hb := Lib.hid b
    clear b
    go_wp2_with fail
    refine (pkText_any hp _).mono ?_
    rw [hsE]
    rintro e w5 ⟨rfl, hb5⟩
    have HB5 := Lib.hid (bt HB4.out hb5)
    have F2 := Lib.hid (D2.out.old hb5)
    have r : Bk w5 (w.heap.size) 26 #[.int .i64 0, .int .i64 0, .int .i64 0, .int .i64 0, .int .i64 0, .int .i64 0] := D1.out.old hb5
    have zr : w.heap.size < w5.heap.size := r.lt
    have r_0 : w5.cell? ⟨w.heap.size, 0, none⟩ = some (.int .i64 0) := r.cell 0
    have r_1 : w5.cell? ⟨w.heap.size, 1, none⟩ = some (.int .i64 0) := r.cell 1
    have r_2 : w5.cell? ⟨w.heap.size, 2, none⟩ = some (.int .i64 0) := r.cell 2
    have r_3 : w5.cell? ⟨w.heap.size, 3, none⟩ = some (.int .i64 0) := r.cell 3
    have r_4 : w5.cell? ⟨w.heap.size, 4, none⟩ = some (.int .i64 0) := r.cell 4
    have r_5 : w5.cell? ⟨w.heap.size, 5, none⟩ = some (.int .i64 0) := r.cell 5
    have rf := r.free
    have Hr := Lib.hid r
    clear r
    clear hb5 b_0 b_1 b_2 b_3 b_4 b_5 bf zb
    have b : Bk w5 (w1.heap.size) 26 #[.int .i64 p.id, .int .i64 p.so, .int .i64 p.de, .int .i64 p.po, .int .i64 p.ma, .int .i64 p.si] := F2.out
    have zb : w1.heap.size < w5.heap.size := b.lt
    have b_0 : w5.cell? ⟨w1.heap.size, 0, none⟩ = some (.int .i64 p.id) := b.cell 0
    have b_1 : w5.cell? ⟨w1.heap.size, 1, none⟩ = some (.int .i64 p.so) := b.cell 1
    have b_2 : w5.cell? ⟨w1.heap.size, 2, none⟩ = some (.int .i64 p.de) := b.cell 2
    have b_3 : w5.cell? ⟨w1.heap.size, 3, none⟩ = some (.int .i64 p.po) := b.cell 3
    have b_4 : w5.cell? ⟨w1.heap.size, 4, none⟩ = some (.int .i64 p.ma) := b.cell 4
    have b_5 : w5.cell? ⟨w1.heap.size, 5, none⟩ = some (.int .i64 p.si) := b.cell 5
    have bf := b.free
    have Hb := Lib.hid b
    clear b
    go_wp2_with fail
    exact bodyPost_ret (v := .tuple #[.agg #[.int .i64 (p.id), .int .i64 (p.so), .int .i64 (p.de), .int .i64 (p.po), .int .i64 (p.ma), .int .i64 (p.si)], .bool true]) (by simp [results, Tryd.results15, go_sem, r_0, r_1, r_2, r_3, r_4, r_5]) rfl (PpEnd_yes HN.out rfl (by repeat (first | (with_reducible exact HB5.out) | (with_reducible refine ba ?_ _) | (with_reducible refine bsB ?_ (by omega)) | (with_reducible refine bd ?_ _) | (with_reducible refine Below.drew ?_))))
  · have HN := Lib.hid (PpR_rd (l := s.data.toList) (fun _ => by rw [← HPO.out]; exact hh))
    have hne := str_mkS hh
    have b : Bk V (w1.heap.size) 26 #[.int .i64 p.id, .int .i64 p.so, .int .i64 p.de, .int .i64 p.po, .int .i64 p.ma, .int .i64 p.si] := C2.out
    have zb : w1.heap.size < V.heap.size := b.lt
    have b_0 : V.cell? ⟨w1.heap.size, 0, none⟩ = some (.int .i64 p.id) := b.cell 0
    have b_1 : V.cell? ⟨w1.heap.size, 1, none⟩ = some (.int .i64 p.so) := b.cell 1
    have b_2 : V.cell? ⟨w1.heap.size, 2, none⟩ = some (.int .i64 p.de) := b.cell 2
    have b_3 : V.cell? ⟨w1.heap.size, 3, none⟩ = some (.int .i64 p.po) := b.cell 3
    have b_4 : V.cell? ⟨w1.heap.size, 4, none⟩ = some (.int .i64 p.ma) := b.cell 4
    have b_5 : V.cell? ⟨w1.heap.size, 5, none⟩ = some (.int .i64 p.si) := b.cell 5
    have bf := b.free
    have Hb := Lib.hid b
    clear b
    go_wp2_with fail
    refine (pkGood_b hp _).mono ?_
    rintro e w4 ⟨rfl, hb4⟩
    have HB4 := Lib.hid (bt HBV.out hb4)
    have D1 := Lib.hid (C1.out.old hb4)
    have D2 := Lib.hid (C2.out.old hb4)
    clear hb4 b_0 b_1 b_2 b_3 b_4 b_5 bf zb
    have b : Bk w4 (w1.heap.size) 26 #[.int .i64 p.id, .int .i64 p.so, .int .i64 p.de, .int .i64 p.po, .int .i64 p.ma, .int .i64 p.si] := D2.out
    have zb : w1.heap.size < w4.heap.size := b.lt
    have b_0 : w4.cell? ⟨w1.heap.size, 0, none⟩ = some (.int .i64 p.id) := b.cell 0
    have b_1 : w4.cell? ⟨w1.heap.size, 1, none⟩ = some (.int .i64 p.so) := b.cell 1
    have b_2 : w4.cell? ⟨w1.heap.size, 2, none⟩ = some (.int .i64 p.de) := b.cell 2
    have b_3 : w4.cell? ⟨w1.heap.size, 3, none⟩ = some (.int .i64 p.po) := b.cell 3
    have b_4 : w4.cell? ⟨w1.heap.size, 4, none⟩ = some (.int .i64 p.ma) := b.cell 4
    have b_5 : w4.cell? ⟨w1.heap.size, 5, none⟩ = some (.int .i64 p.si) := b.cell 5
    have bf := b.free
    have Hb := Lib.hid b
    clear b
    go_wp2_with fail
    refine (pkText_any hp _).mono ?_
    rintro e w5 ⟨rfl, hb5⟩
    have HB5 := Lib.hid (bt HB4.out hb5)
    have F2 := Lib.hid (D2.out.old hb5)
    have r : Bk w5 (w.heap.size) 26 #[.int .i64 0, .int .i64 0, .int .i64 0, .int .i64 0, .int .i64 0, .int .i64 0] := D1.out.old hb5
    have zr : w.heap.size < w5.heap.size := r.lt
    have r_0 : w5.cell? ⟨w.heap.size, 0, none⟩ = some (.int .i64 0) := r.cell 0
    have r_1 : w5.cell? ⟨w.heap.size, 1, none⟩ = some (.int .i64 0) := r.cell 1
    have r_2 : w5.cell? ⟨w.heap.size, 2, none⟩ = some (.int .i64 0) := r.cell 2
    have r_3 : w5.cell? ⟨w.heap.size, 3, none⟩ = some (.int .i64 0) := r.cell 3
    have r_4 : w5.cell? ⟨w.heap.size, 4, none⟩ = some (.int .i64 0) := r.cell 4
    have r_5 : w5.cell? ⟨w.heap.size, 5, none⟩ = some (.int .i64 0) := r.cell 5
    have rf := r.free
    have Hr := Lib.hid r
    clear r
    clear hb5 b_0 b_1 b_2 b_3 b_4 b_5 bf zb
    go_wp2_with fail
    exact bodyPost_ret (v := .tuple #[.agg #[.int .i64 0, .int .i64 0, .int .i64 0, .int .i64 0, .int .i64 0, .int .i64 0], .bool false]) (by simp [results, Tryd.results15, go_sem, r_0, r_1, r_2, r_3, r_4, r_5]) rfl (PpEnd_no HN.out rfl (by repeat (first | (with_reducible exact HB5.out) | (with_reducible refine ba ?_ _) | (with_reducible refine bsB ?_ (by omega)) | (with_reducible refine bd ?_ _) | (with_reducible refine Below.drew ?_))))
end Go.Proofs.YtmkmcobomlchfaaDoor
