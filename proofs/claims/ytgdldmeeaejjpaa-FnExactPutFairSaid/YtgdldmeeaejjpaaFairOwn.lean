/- The contracts of what copies a scheduler. -/
import Derived.Test.YtgdldmeeaejjpaaFairSmall
import Derived.Test.YtgdldmeeaejjpaaFairNew
import Derived.Test.YtgdldmeeaejjpaaCopy
import Derived.Test.YtgdldmeeaejjpaaNestApp
import Derived.Test.YtgdldmeeaejjpaaDbox
import Derived.Deep.DeepCutAuto
import Derived.Deep.RegionWith
import Derived.Deep.RegionLaw
import Derived.BigRegion
namespace Go.Proofs.Ytgdldmeeaejjpaa
open Go.ChangeShapes Go.WideShapes Go.ChangeAt Go.RowKit
set_option linter.unusedVariables false
/-! ### The program's copy -/
set_option maxHeartbeats 1000000 in
theorem cloneInts_any (A : Option Addr) (n cap : Nat) (l : List Int) (w : World) (hl : l.length = n) (hr : IRow w A l) (hn : n ≤ 1048576) :
    Calls Try.prog 106 #[.slice A n cap] w (NewInts w l) := by
  have heq := fun (w : World) => Lib.run_eql_slice_nil (P := Try.prog) w 31 3 A n cap 0 0 Try.underlying31
  rcases A with _ | ad
  · have h0 := row_none hr
    subst h0
    simp at heq
    go_enter Try.func106, Try.ntmps106
    go_wp2_with fail
    go_ret
    exact ⟨none, 0, 0, rfl, IOwn.none_ _ _ _ _ _, b0 _⟩
  · obtain ⟨i0, hi, hz0, hz1, hz2⟩ := info_parts tinfo
    have HI := Lib.hid hi
    have HZ0 := Lib.hid hz0
    have HZ1 := Lib.hid hz1
    have HZ2 := Lib.hid hz2
    clear hi hz0 hz1 hz2
    have HL := Lib.hid (show l.length = n * 1 by omega)
    have HR := Lib.hid (fun (o : Obj) => hr.below (ba (b0 w) o))
    clear hl hr
    simp at heq
    go_enter Try.func106, Try.ntmps106
    go_wp2_with (at_builtin; refine append_many rfl _ _ _ rfl _ i0 _ 1 8 Try.underlying31 HI.out HZ0.out HZ1.out HZ2.out rfl (by decide) (lo := w.heap.size) (hh := w.heap.size + 1) (l := []) rfl (IOwn.lit0 w _ _ _ (Nat.le_refl _)) l rfl (fun h => by cases h) HL.out (HR.out _) (by omega) (by omega) (by simp) ?_; intro A' c' w4 ho3 hb3; simp only [Nat.zero_add, List.nil_append] at ho3; have HO3 := Lib.hid ho3; clear ho3)
    go_ret
    exact ⟨A', n, c', rfl, HO3.out, (ba (b0 w) _).trans hb3⟩
set_option maxHeartbeats 1000000 in
theorem copyLists_any (A : Option Addr) (n cap : Nat) (G : List (List Int)) (w : World) (hl : G.length = n) (hr : NRow w A G) (hn : n ≤ 1048576) (hG : ∀ (i : Nat) (l : List Int), G[i]? = some l → l.length ≤ 6291456) :
    Calls Try.prog 105 #[.slice A n cap] w (NewNest w n G) := by
  obtain ⟨w1, hmk, ho, hb⟩ := make_nest n hn w
  have HL := Lib.hid hl
  have HR := Lib.hid hr
  have HG := Lib.hid hG
  have HO := Lib.hid ho
  clear hl hr hG ho
  go_enter Try.func105, Try.ntmps105
  go_wp2_with fail
  clear hmk
  go_loopw [10] (fun i wr => ∃ k : Nat, k ≤ n ∧ i = .int .i64 k ∧ NOwn wr w.heap.size wr.heap.size (some ⟨w.heap.size, 0, none⟩) n n (gbl n k G) ∧ Below w.heap.size w wr) (fun i _ => n - (intOf i).toNat)
  case atStart => exact ⟨0, Nat.zero_le _, rfl, by rw [gbl_zero]; exact HO.out, hb⟩
  case round =>
    obtain ⟨k, hk, rfl, hown, hbw⟩ := hrel
    by_cases hlt : k < n
    · obtain ⟨l, hkl⟩ : ∃ l, G[k]? = some l := ⟨_, List.getElem?_eq_getElem (by rw [HL.out]; exact hlt)⟩
      obtain ⟨g, off, B, m, c, rfl, hg, hck, hlm, hmc, hBc, hrw⟩ := (HR.out.below hbw).at_ hkl
      have hlb := HG.out k l hkl
      have HS := Lib.hid (gbl_set HL.out hkl)
      have HRW := Lib.hid hrw
      have HLM := Lib.hid hlm
      have hm6 : m ≤ 1048576 := by omega
      clear hrw hkl hlm
      obtain ⟨S, hs⟩ := hown
      have HOW := Lib.hid hs
      clear hs
      go_wp2_with fail
      refine (clone_any _ _ _ l _ HLM.out HRW.out hm6).mono ?_
      rintro e w2 ⟨A2, m2, c2, rfl, ho2, hb2⟩
      have z2 := hb2.size
      have HOW2 := Lib.hid (HOW.out.old hb2)
      have HO2 := Lib.hid ho2
      obtain ⟨g', hg', hg1, hg2, hg3, hc2, hf2, -⟩ := HOW2.out.at_ hlt
      injection hg' with hg'
      injection hg' with hg'
      subst hg'
      have hf2k := hf2 k
      obtain ⟨s0, hs0⟩ : ∃ s, S[k]? = some s := ⟨_, List.getElem?_eq_getElem (by rw [HOW2.out.slen]; exact hlt)⟩
      have hc2k := hc2 k s0 hs0
      have HB2 := Lib.hid hb2
      clear hc2 hf2 hs0 ho2 hb2
      go_wp2_with fail
      go_roundw
      case rel =>
        refine ⟨k + 1, by omega, by go_num, ?_, bs (bt hbw HB2.out) (Nat.le_refl _) _⟩
        rw [← HS.out]
        refine ⟨_, ((HOW2.out.more z2).put (i := k) (s := ⟨A2, m2, c2⟩) (HO2.out.lo_le (by have := hbw.size; omega)) fun j t b hj ht hsb htb => ?_).here⟩
        obtain ⟨q1, q2, _⟩ := HO2.out.blk hsb
        have hlen : j < (gbl n k G).length := by have := (List.getElem?_eq_some_iff.1 ht).1; have := HOW2.out.2.1; omega
        have := (HOW2.out.2.2.1 j t _ ht (List.getElem?_eq_getElem hlen)).blk htb
        omega
      case measure => simp [intOf]; omega
    · obtain rfl : k = n := by omega
      have HOW := Lib.hid hown
      clear hown
      go_wp2_with fail
      go_ret
      refine ⟨_, _, rfl, ?_, hbw⟩
      have h := HOW.out
      rwa [gbl_all HL.out] at h
set_option maxHeartbeats 2000000 in
theorem copyFair_any (qu li : Int) (M : Fm) (nx : Int) (op : Bool) (G : List (List Int)) (D : List Int) (w : World) (hr : FRow w M G D) (hG : ∀ (i : Nat) (l : List Int), G[i]? = some l → l.length ≤ 6291456) (hn : M.n ≤ 1048576) (hm : M.m ≤ 1048576) :
    Calls Try.prog 87 #[.agg #[.int .i64 qu, .int .i64 li, .slice M.A M.n M.cap, .slice M.B M.m M.capd, .int .i64 nx, .bool op]] w (NewFa w qu li nx op G D) := by
  have HR := Lib.hid (fun (W : World) (hb : Below w.heap.size w W) => hr.below hb)
  have HG := Lib.hid hG
  clear hr hG
  go_enter Try.func87, Try.ntmps87
  go_wp2_with fail
  refine (copyLists_any _ _ _ G _ (HR.out w (b0 w)).qn (HR.out _ (ba (ba (b0 w) _) _)).q hn HG.out).mono ?_
  rintro e w1 ⟨A_v, cap_v, rfl, ho_v, hb1⟩
  have HN_v := Lib.hid ho_v.len
  have HO_v_1 := Lib.hid ho_v
  clear ho_v
  have z1 := hb1.size
  (try simp at z1)
  have HK_q_1 : Hid (Bk w1 (w.heap.size) 56 #[.int .i64 qu, .int .i64 li, .slice M.A M.n M.cap, .slice M.B M.m M.capd, .int .i64 nx, .bool op]) := Lib.hid (((Bk.new_ (by simp) : Bk _ (w.heap.size) 56 #[.int .i64 qu, .int .i64 li, .slice M.A M.n M.cap, .slice M.B M.m M.capd, .int .i64 nx, .bool op]).alloc _).old hb1)
  have zb_q : w.heap.size < w1.heap.size := HK_q_1.out.lt
  have cb_q_0 : w1.cell? ⟨w.heap.size, 0, none⟩ = some (.int .i64 qu) := HK_q_1.out.cell 0
  have cb_q_1 : w1.cell? ⟨w.heap.size, 1, none⟩ = some (.int .i64 li) := HK_q_1.out.cell 1
  have cb_q_2 : w1.cell? ⟨w.heap.size, 2, none⟩ = some (.slice M.A M.n M.cap) := HK_q_1.out.cell 2
  have cb_q_3 : w1.cell? ⟨w.heap.size, 3, none⟩ = some (.slice M.B M.m M.capd) := HK_q_1.out.cell 3
  have cb_q_4 : w1.cell? ⟨w.heap.size, 4, none⟩ = some (.int .i64 nx) := HK_q_1.out.cell 4
  have cb_q_5 : w1.cell? ⟨w.heap.size, 5, none⟩ = some (.bool op) := HK_q_1.out.cell 5
  have HK_r_1 : Hid (Bk w1 (w.heap.size + 1) 56 #[.int .i64 0, .int .i64 0, .slice none 0 0, .slice none 0 0, .int .i64 0, .bool false]) := Lib.hid ((Bk.new_ (by simp) : Bk _ (w.heap.size + 1) 56 #[.int .i64 0, .int .i64 0, .slice none 0 0, .slice none 0 0, .int .i64 0, .bool false]).old hb1)
  have zb_r : w.heap.size + 1 < w1.heap.size := HK_r_1.out.lt
  have cb_r_0 : w1.cell? ⟨w.heap.size + 1, 0, none⟩ = some (.int .i64 0) := HK_r_1.out.cell 0
  have cb_r_1 : w1.cell? ⟨w.heap.size + 1, 1, none⟩ = some (.int .i64 0) := HK_r_1.out.cell 1
  have cb_r_2 : w1.cell? ⟨w.heap.size + 1, 2, none⟩ = some (.slice none 0 0) := HK_r_1.out.cell 2
  have cb_r_3 : w1.cell? ⟨w.heap.size + 1, 3, none⟩ = some (.slice none 0 0) := HK_r_1.out.cell 3
  have cb_r_4 : w1.cell? ⟨w.heap.size + 1, 4, none⟩ = some (.int .i64 0) := HK_r_1.out.cell 4
  have cb_r_5 : w1.cell? ⟨w.heap.size + 1, 5, none⟩ = some (.bool false) := HK_r_1.out.cell 5
  have HB_1 := Lib.hid (bt (ba (ba (b0 w) _) _) hb1)
  clear hb1
  have HV1 := Lib.hid (HO_v_1.out.lo_le (lo' := w.heap.size + 1 + 1) (by simp))
  have of := HK_q_1.out.free
  go_wp2_with fail
  refine (cloneInts_any _ _ _ D _ (HR.out w (b0 w)).dn (HR.out _ (bsB HB_1.out (Nat.le_refl _))).d hm).mono ?_
  rintro e w2 ⟨A_d, m_d, cap_d, rfl, ho_d, hb2⟩
  have z2 := hb2.size
  simp only [setCell_size] at z2 ho_d
  obtain rfl : m_d = M.m := by have := ho_d.len; have := (HR.out w (b0 w)).dn; omega
  have HV2 := Lib.hid ((HV1.out.farC (.inl (by omega))).old hb2)
  have HD2 := Lib.hid ho_d
  have HB2 := Lib.hid (bt (bsB HB_1.out (Nat.le_refl _)) hb2)
  have q : Bk w2 (w.heap.size) 56 #[.int .i64 qu, .int .i64 li, .slice A_v M.n cap_v, .slice M.B M.m M.capd, .int .i64 nx, .bool op] := (by have h := (HK_q_1.out.set 2 (.slice A_v M.n cap_v)).old hb2; simpa using h)
  have zq : w.heap.size < w2.heap.size := q.lt
  have q_0 : w2.cell? ⟨w.heap.size, 0, none⟩ = some (.int .i64 qu) := q.cell 0
  have q_1 : w2.cell? ⟨w.heap.size, 1, none⟩ = some (.int .i64 li) := q.cell 1
  have q_2 : w2.cell? ⟨w.heap.size, 2, none⟩ = some (.slice A_v M.n cap_v) := q.cell 2
  have q_3 : w2.cell? ⟨w.heap.size, 3, none⟩ = some (.slice M.B M.m M.capd) := q.cell 3
  have q_4 : w2.cell? ⟨w.heap.size, 4, none⟩ = some (.int .i64 nx) := q.cell 4
  have q_5 : w2.cell? ⟨w.heap.size, 5, none⟩ = some (.bool op) := q.cell 5
  have qf := q.free
  have Hq := Lib.hid q
  clear q
  have r : Bk w2 (w.heap.size + 1) 56 #[.int .i64 0, .int .i64 0, .slice none 0 0, .slice none 0 0, .int .i64 0, .bool false] := (HK_r_1.out.farB (by omega)).old hb2
  have zr : w.heap.size + 1 < w2.heap.size := r.lt
  have r_0 : w2.cell? ⟨w.heap.size + 1, 0, none⟩ = some (.int .i64 0) := r.cell 0
  have r_1 : w2.cell? ⟨w.heap.size + 1, 1, none⟩ = some (.int .i64 0) := r.cell 1
  have r_2 : w2.cell? ⟨w.heap.size + 1, 2, none⟩ = some (.slice none 0 0) := r.cell 2
  have r_3 : w2.cell? ⟨w.heap.size + 1, 3, none⟩ = some (.slice none 0 0) := r.cell 3
  have r_4 : w2.cell? ⟨w.heap.size + 1, 4, none⟩ = some (.int .i64 0) := r.cell 4
  have r_5 : w2.cell? ⟨w.heap.size + 1, 5, none⟩ = some (.bool false) := r.cell 5
  have rf := r.free
  have Hr := Lib.hid r
  clear r
  clear hb2 ho_d cb_q_0 cb_q_1 cb_q_2 cb_q_3 cb_q_4 cb_q_5 cb_r_0 cb_r_1 cb_r_2 cb_r_3 cb_r_4 cb_r_5 of
  go_wp2_with fail
  refine bodyPost_ret (v := .agg #[.int .i64 qu, .int .i64 li, .slice A_v M.n cap_v, .slice A_d M.m cap_d, .int .i64 nx, .bool op]) (by simp [results, Try.results87, go_sem, r_0, r_1, r_2, r_3, r_4, r_5]) rfl ⟨⟨A_v, M.n, cap_v, A_d, M.m, cap_d⟩, rfl, ?_, ?_⟩
  · refine (FOwn.lo_le (lo := w.heap.size + 1 + 1) (FOwn.here (hi := w2.heap.size) ?_) (by omega))
    repeat (refine FOwn.farC ?_ (.inl (by omega)))
    exact ⟨HV2.out.more (by omega), HD2.out.lo_le (by omega)⟩
  · exact (by repeat (first | (with_reducible exact HB2.out) | (with_reducible refine ba ?_ _) | (with_reducible refine bsB ?_ (by omega)) | (with_reducible refine bd ?_ _) | (with_reducible refine Below.drew ?_)))
/-! ### The reference's copy -/
theorem l1Own_any (A : Option Addr) (n cap : Nat) (l : List Int) (w : World) (hl : l.length = n) (hr : IRow w A l) (hA : A = none → cap = 0) (hn : n ≤ 1048576) :
    Calls Try.prog 104 #[.slice A n cap] w (NewInts w l) := by
  obtain ⟨i0, hi, hz0, hz1, hz2⟩ := info_parts tinfo
  have HI := Lib.hid hi
  have HZ0 := Lib.hid hz0
  have HZ1 := Lib.hid hz1
  have HZ2 := Lib.hid hz2
  clear hi hz0 hz1 hz2
  have HL := Lib.hid (show l.length = n * 1 by omega)
  have HR := Lib.hid (fun (o : Obj) => hr.below (ba (b0 w) o))
  have HA := Lib.hid hA
  clear hl hr hA
  go_enter Try.func104, Try.ntmps104
  go_wp2_with (at_builtin; refine append_many rfl _ _ _ rfl _ i0 _ 1 8 Try.underlying31 HI.out HZ0.out HZ1.out HZ2.out rfl (by decide) (lo := w.heap.size) (hh := w.heap.size + 1) (l := []) rfl (IOwn.lit0 w _ _ _ (Nat.le_refl _)) l rfl HA.out HL.out (HR.out _) (by omega) (by omega) (by simp) ?_; intro A' c' w4 ho3 hb3; simp only [Nat.zero_add, List.nil_append] at ho3; have HO3 := Lib.hid ho3; clear ho3)
  go_ret
  exact ⟨A', n, c', rfl, HO3.out, (ba (b0 w) _).trans hb3⟩
set_option maxRecDepth 100000 in
set_option maxHeartbeats 4000000 in
theorem faOwn_aux (qu li : Int) (A : Option Addr) (n cap : Nat) (B : Option Addr) (m capd : Nat) (nx : Int) (op : Bool) (G : List (List Int)) (D : List Int) (w : World) (hr : FRow w ⟨A, n, cap, B, m, capd⟩ G D) (hG : ∀ (i : Nat) (l : List Int), G[i]? = some l → l.length ≤ 6291456) (hn : n ≤ 1048576) (hm : m ≤ 1048576) :
    Calls Try.prog 86 #[.agg #[.int .i64 qu, .int .i64 li, .slice A n cap, .slice B m capd, .int .i64 nx, .bool op]] w (NewFa w qu li nx op G D) := by
  obtain ⟨i0, hi, hz0, hz1, hz2⟩ := info_parts tPacket
  have HI := Lib.hid hi
  have HZ0 := Lib.hid hz0
  have HZ1 := Lib.hid hz1
  have HZ2 := Lib.hid hz2
  clear hi hz0 hz1 hz2
  have HR_a := Lib.hid hr
  have HG := Lib.hid hG
  have HDN := Lib.hid (show D.length = m from hr.dn)
  have HQN := Lib.hid (show G.length = n from hr.qn)
  have HD0 := Lib.hid (show B = none → capd = 0 from hr.d0)
  clear hr hG
  go_enter Try.func86, Try.ntmps86
  go_wp2_with fail
  obtain ⟨w1, hW1⟩ : ∃ x, x = (w.alloc (.cells #[.int .i64 qu, .int .i64 li, .slice A n cap, .slice B m capd, .int .i64 nx, .bool op] 56)).alloc (.cells #[.int .i64 0, .int .i64 0, .slice none 0 0, .slice none 0 0, .int .i64 0, .bool false] 56) := ⟨_, rfl⟩
  rw [← hW1]
  have hb1 : Below ((w.alloc (.cells #[.int .i64 qu, .int .i64 li, .slice A n cap, .slice B m capd, .int .i64 nx, .bool op] 56)).alloc (.cells #[.int .i64 0, .int .i64 0, .slice none 0 0, .slice none 0 0, .int .i64 0, .bool false] 56)).heap.size ((w.alloc (.cells #[.int .i64 qu, .int .i64 li, .slice A n cap, .slice B m capd, .int .i64 nx, .bool op] 56)).alloc (.cells #[.int .i64 0, .int .i64 0, .slice none 0 0, .slice none 0 0, .int .i64 0, .bool false] 56)) w1 := by rw [hW1]; exact b0 _
  clear hW1
  have z1 := hb1.size
  (try simp at z1)
  have HK_q_1 : Hid (Bk w1 (w.heap.size) 56 #[.int .i64 qu, .int .i64 li, .slice A n cap, .slice B m capd, .int .i64 nx, .bool op]) := Lib.hid (((Bk.new_ (by simp) : Bk _ (w.heap.size) 56 #[.int .i64 qu, .int .i64 li, .slice A n cap, .slice B m capd, .int .i64 nx, .bool op]).alloc _).old hb1)
  have zb_q : w.heap.size < w1.heap.size := HK_q_1.out.lt
  have cb_q_0 : w1.cell? ⟨w.heap.size, 0, none⟩ = some (.int .i64 qu) := HK_q_1.out.cell 0
  have cb_q_1 : w1.cell? ⟨w.heap.size, 1, none⟩ = some (.int .i64 li) := HK_q_1.out.cell 1
  have cb_q_2 : w1.cell? ⟨w.heap.size, 2, none⟩ = some (.slice A n cap) := HK_q_1.out.cell 2
  have cb_q_3 : w1.cell? ⟨w.heap.size, 3, none⟩ = some (.slice B m capd) := HK_q_1.out.cell 3
  have cb_q_4 : w1.cell? ⟨w.heap.size, 4, none⟩ = some (.int .i64 nx) := HK_q_1.out.cell 4
  have cb_q_5 : w1.cell? ⟨w.heap.size, 5, none⟩ = some (.bool op) := HK_q_1.out.cell 5
  have HK_r_1 : Hid (Bk w1 (w.heap.size + 1) 56 #[.int .i64 0, .int .i64 0, .slice none 0 0, .slice none 0 0, .int .i64 0, .bool false]) := Lib.hid ((Bk.new_ (by simp) : Bk _ (w.heap.size + 1) 56 #[.int .i64 0, .int .i64 0, .slice none 0 0, .slice none 0 0, .int .i64 0, .bool false]).old hb1)
  have zb_r : w.heap.size + 1 < w1.heap.size := HK_r_1.out.lt
  have cb_r_0 : w1.cell? ⟨w.heap.size + 1, 0, none⟩ = some (.int .i64 0) := HK_r_1.out.cell 0
  have cb_r_1 : w1.cell? ⟨w.heap.size + 1, 1, none⟩ = some (.int .i64 0) := HK_r_1.out.cell 1
  have cb_r_2 : w1.cell? ⟨w.heap.size + 1, 2, none⟩ = some (.slice none 0 0) := HK_r_1.out.cell 2
  have cb_r_3 : w1.cell? ⟨w.heap.size + 1, 3, none⟩ = some (.slice none 0 0) := HK_r_1.out.cell 3
  have cb_r_4 : w1.cell? ⟨w.heap.size + 1, 4, none⟩ = some (.int .i64 0) := HK_r_1.out.cell 4
  have cb_r_5 : w1.cell? ⟨w.heap.size + 1, 5, none⟩ = some (.bool false) := HK_r_1.out.cell 5
  have HB_1 := Lib.hid (bt (ba (ba (b0 w) _) _) hb1)
  clear hb1
  go_wp2_with fail
  have HSX := Lib.hid (show ∀ w' : World, Below w1.heap.size w1 w' → (fun w' => w'.cell? ⟨w.heap.size, 0, none⟩ = some (.int .i64 qu) ∧ w'.cell? ⟨w.heap.size, 1, none⟩ = some (.int .i64 li) ∧ w'.cell? ⟨w.heap.size, 2, none⟩ = some (.slice A n cap) ∧ w'.cell? ⟨w.heap.size, 3, none⟩ = some (.slice B m capd) ∧ w'.cell? ⟨w.heap.size, 4, none⟩ = some (.int .i64 nx) ∧ w'.cell? ⟨w.heap.size, 5, none⟩ = some (.bool op) ∧ w'.cell? ⟨w.heap.size + 1, 0, none⟩ = some (.int .i64 0) ∧ w'.cell? ⟨w.heap.size + 1, 1, none⟩ = some (.int .i64 0) ∧ w'.cell? ⟨w.heap.size + 1, 2, none⟩ = some (.slice none 0 0) ∧ w'.cell? ⟨w.heap.size + 1, 3, none⟩ = some (.slice none 0 0) ∧ w'.cell? ⟨w.heap.size + 1, 4, none⟩ = some (.int .i64 0) ∧ w'.cell? ⟨w.heap.size + 1, 5, none⟩ = some (.bool false)) w' from fun w' hb => ⟨(bkeep hb _ _ zb_q).trans cb_q_0, (bkeep hb _ _ zb_q).trans cb_q_1, (bkeep hb _ _ zb_q).trans cb_q_2, (bkeep hb _ _ zb_q).trans cb_q_3, (bkeep hb _ _ zb_q).trans cb_q_4, (bkeep hb _ _ zb_q).trans cb_q_5, (bkeep hb _ _ zb_r).trans cb_r_0, (bkeep hb _ _ zb_r).trans cb_r_1, (bkeep hb _ _ zb_r).trans cb_r_2, (bkeep hb _ _ zb_r).trans cb_r_3, (bkeep hb _ _ zb_r).trans cb_r_4, (bkeep hb _ _ zb_r).trans cb_r_5⟩)
  have HRW_a := Lib.hid (fun (W : World) (hb : Below w1.heap.size w1 W) => (HR_a.out.below HB_1.out).below hb)
  go_cut [3] (fun a3 wx => ∃ (B_o : Nat) (A_d : Option Addr) (cap_d : Nat) (lo_d : Nat) (hi_d : Nat), a3 = .pointer (some ⟨B_o, 0, none⟩) ∧ (w1.heap.size ≤ B_o ∧ Bk wx B_o 56 #[.int .i64 qu, .int .i64 li, .slice none 0 0, .slice A_d m cap_d, .int .i64 nx, .bool op]) ∧ IOwn wx lo_d hi_d 3 1 A_d m cap_d D ∧ (w1.heap.size ≤ lo_d ∧ hi_d ≤ wx.heap.size ∧ (B_o < lo_d ∨ hi_d ≤ B_o)) ∧ Below w1.heap.size w1 wx)
  case first =>
    go_region_held3 (fun w' => w'.cell? ⟨w.heap.size, 0, none⟩ = some (.int .i64 qu) ∧ w'.cell? ⟨w.heap.size, 1, none⟩ = some (.int .i64 li) ∧ w'.cell? ⟨w.heap.size, 2, none⟩ = some (.slice A n cap) ∧ w'.cell? ⟨w.heap.size, 3, none⟩ = some (.slice B m capd) ∧ w'.cell? ⟨w.heap.size, 4, none⟩ = some (.int .i64 nx) ∧ w'.cell? ⟨w.heap.size, 5, none⟩ = some (.bool op) ∧ w'.cell? ⟨w.heap.size + 1, 0, none⟩ = some (.int .i64 0) ∧ w'.cell? ⟨w.heap.size + 1, 1, none⟩ = some (.int .i64 0) ∧ w'.cell? ⟨w.heap.size + 1, 2, none⟩ = some (.slice none 0 0) ∧ w'.cell? ⟨w.heap.size + 1, 3, none⟩ = some (.slice none 0 0) ∧ w'.cell? ⟨w.heap.size + 1, 4, none⟩ = some (.int .i64 0) ∧ w'.cell? ⟨w.heap.size + 1, 5, none⟩ = some (.bool false)) (exact HSX.out _ (by repeat (first | (with_reducible exact b0 _) | (with_reducible refine ba ?_ _) | (with_reducible refine bd ?_ _) | (with_reducible refine Below.drew ?_) | (with_reducible refine bsB ?_ (by first | exact Nat.le_refl _ | exact Nat.le_add_right _ _ | omega)) | (with_reducible refine bt ?_ (by assumption)))))
      (first
        | (go_at_call 104; refine (l1Own_any _ _ _ D _ HDN.out ((HRW_a.out _ (by repeat (first | (with_reducible exact b0 _) | (with_reducible refine ba ?_ _) | (with_reducible refine bd ?_ _) | (with_reducible refine Below.drew ?_) | (with_reducible refine bsB ?_ (by first | exact Nat.le_refl _ | exact Nat.le_add_right _ _ | omega)) | (with_reducible refine bt ?_ (by assumption)))))).d HD0.out hm).mono ?_; rintro e v0 ⟨A_d, m_d, cap_d, rfl, ho_d, hbr0⟩; have zz0 := hbr0.size; (try simp at zz0); (try (have rx0_0 := fun o => bkeep hbr0 (w1.heap.size) o (by first | omega | (simp; done) | (simp; omega)); have rf0_0 := fun o => bfree hbr0 (w1.heap.size) o (by first | omega | (simp; done) | (simp; omega)))); obtain rfl : m_d = m := (by have := ho_d.len; have := HDN.out; omega); obtain ⟨lo_d, hi_d, tl_d, th_d, ho_d⟩ := own_ex ho_d; (try simp at tl_d); (try simp at th_d)))
    all_goals (go_wp2_with fail; go_meet; clear HSX; first | ((with_reducible refine ⟨v0.heap.size, A_d, cap_d, lo_d, hi_d, rfl, ?_⟩); (with_reducible refine Fin5.close1 (Fin5.new ?_) ho_d ?_ ?_ ?_); all_goals first | omega | exact (by repeat (first | (with_reducible exact b0 _) | (with_reducible refine ba ?_ _) | (with_reducible refine bd ?_ _) | (with_reducible refine Below.drew ?_) | (with_reducible refine bsB ?_ (by first | exact Nat.le_refl _ | exact Nat.le_add_right _ _ | omega)) | (with_reducible refine bt ?_ (by assumption))))) | ((with_reducible refine ⟨w1.heap.size, A_d, cap_d, lo_d, hi_d, rfl, ?_⟩); (with_reducible refine Fin5.close1 (Fin5.old6 ?_ (show Bk v0 (w1.heap.size) 56 _ from ((Bk.new_ rfl).old hbr0)) ?_) ho_d ?_ ?_ ?_); all_goals first | omega | exact (by repeat (first | (with_reducible exact b0 _) | (with_reducible refine ba ?_ _) | (with_reducible refine bd ?_ _) | (with_reducible refine Below.drew ?_) | (with_reducible refine bsB ?_ (by first | exact Nat.le_refl _ | exact Nat.le_add_right _ _ | omega)) | (with_reducible refine bt ?_ (by assumption))))) | ((with_reducible refine ⟨w1.heap.size, A_d, cap_d, lo_d, hi_d, rfl, ?_⟩); (with_reducible refine Fin5.close1 (Fin5.old6 ?_ (show Bk v0 (w1.heap.size) 56 _ from ((Bk.new_ rfl).drew.old hbr0)) ?_) ho_d ?_ ?_ ?_); all_goals first | omega | exact (by repeat (first | (with_reducible exact b0 _) | (with_reducible refine ba ?_ _) | (with_reducible refine bd ?_ _) | (with_reducible refine Below.drew ?_) | (with_reducible refine bsB ?_ (by first | exact Nat.le_refl _ | exact Nat.le_add_right _ _ | omega)) | (with_reducible refine bt ?_ (by assumption))))))
  obtain ⟨w2, hwc⟩ : ∃ x, x = wc := ⟨_, rfl⟩
  subst hwc
  obtain ⟨B_o, A_d, cap_d, lo_d, hi_d, rfl, ⟨lb_o, hk_o⟩, ho_d, ⟨tl_d, th_d, ts_d⟩, hb2⟩ := hcut
  clear HRW_a
  clear HSX
  have HN_d := Lib.hid ho_d.len
  have HO_d_2 := Lib.hid ho_d
  clear ho_d
  have z2 := hb2.size
  (try simp at z2)
  have HK_q_2 : Hid (Bk w2 (w.heap.size) 56 #[.int .i64 qu, .int .i64 li, .slice A n cap, .slice B m capd, .int .i64 nx, .bool op]) := Lib.hid (HK_q_1.out.old hb2)
  clear HK_q_1
  clear cb_q_0 cb_q_1 cb_q_2 cb_q_3 cb_q_4 cb_q_5 zb_q
  have zb_q : w.heap.size < w2.heap.size := HK_q_2.out.lt
  have cb_q_0 : w2.cell? ⟨w.heap.size, 0, none⟩ = some (.int .i64 qu) := HK_q_2.out.cell 0
  have cb_q_1 : w2.cell? ⟨w.heap.size, 1, none⟩ = some (.int .i64 li) := HK_q_2.out.cell 1
  have cb_q_2 : w2.cell? ⟨w.heap.size, 2, none⟩ = some (.slice A n cap) := HK_q_2.out.cell 2
  have cb_q_3 : w2.cell? ⟨w.heap.size, 3, none⟩ = some (.slice B m capd) := HK_q_2.out.cell 3
  have cb_q_4 : w2.cell? ⟨w.heap.size, 4, none⟩ = some (.int .i64 nx) := HK_q_2.out.cell 4
  have cb_q_5 : w2.cell? ⟨w.heap.size, 5, none⟩ = some (.bool op) := HK_q_2.out.cell 5
  have HK_r_2 : Hid (Bk w2 (w.heap.size + 1) 56 #[.int .i64 0, .int .i64 0, .slice none 0 0, .slice none 0 0, .int .i64 0, .bool false]) := Lib.hid (HK_r_1.out.old hb2)
  clear HK_r_1
  clear cb_r_0 cb_r_1 cb_r_2 cb_r_3 cb_r_4 cb_r_5 zb_r
  have zb_r : w.heap.size + 1 < w2.heap.size := HK_r_2.out.lt
  have cb_r_0 : w2.cell? ⟨w.heap.size + 1, 0, none⟩ = some (.int .i64 0) := HK_r_2.out.cell 0
  have cb_r_1 : w2.cell? ⟨w.heap.size + 1, 1, none⟩ = some (.int .i64 0) := HK_r_2.out.cell 1
  have cb_r_2 : w2.cell? ⟨w.heap.size + 1, 2, none⟩ = some (.slice none 0 0) := HK_r_2.out.cell 2
  have cb_r_3 : w2.cell? ⟨w.heap.size + 1, 3, none⟩ = some (.slice none 0 0) := HK_r_2.out.cell 3
  have cb_r_4 : w2.cell? ⟨w.heap.size + 1, 4, none⟩ = some (.int .i64 0) := HK_r_2.out.cell 4
  have cb_r_5 : w2.cell? ⟨w.heap.size + 1, 5, none⟩ = some (.bool false) := HK_r_2.out.cell 5
  have HB_2 := Lib.hid (bt HB_1.out hb2)
  clear hb2
  have HK_o_2 := Lib.hid hk_o
  clear hk_o
  have zb_o : B_o < w2.heap.size := HK_o_2.out.lt
  have zy_o := zb_o
  have cb_o_0 : w2.cell? ⟨B_o, 0, none⟩ = some (.int .i64 qu) := HK_o_2.out.cell 0
  have cb_o_1 : w2.cell? ⟨B_o, 1, none⟩ = some (.int .i64 li) := HK_o_2.out.cell 1
  have cb_o_2 : w2.cell? ⟨B_o, 2, none⟩ = some (.slice none 0 0) := HK_o_2.out.cell 2
  have cb_o_3 : w2.cell? ⟨B_o, 3, none⟩ = some (.slice A_d m cap_d) := HK_o_2.out.cell 3
  have cb_o_4 : w2.cell? ⟨B_o, 4, none⟩ = some (.int .i64 nx) := HK_o_2.out.cell 4
  have cb_o_5 : w2.cell? ⟨B_o, 5, none⟩ = some (.bool op) := HK_o_2.out.cell 5
  have HQ2 := Lib.hid HK_q_2.out
  have HR2 := Lib.hid HK_r_2.out
  have HOB2 := Lib.hid HK_o_2.out
  have HD2 := Lib.hid HO_d_2.out
  have HROW := Lib.hid (fun (k : Nat) (l : List Int) (hk : G[k]? = some l) => HR_a.out.q.at_ hk)
  go_wp2_with fail
  clear cb_q_0 cb_q_1 cb_q_2 cb_q_3 cb_q_4 cb_q_5 cb_r_0 cb_r_1 cb_r_2 cb_r_3 cb_r_4 cb_r_5 cb_o_0 cb_o_1 cb_o_2 cb_o_3 cb_o_4 cb_o_5
  go_loopw [21] (fun z wr => ∃ (k : Nat) (C : Option Addr) (c : Nat), k ≤ n ∧ z = .int .i64 k ∧ NOwn wr w2.heap.size wr.heap.size C k c (G.take k) ∧ Bk wr B_o 56 #[.int .i64 qu, .int .i64 li, .slice C k c, .slice A_d m cap_d, .int .i64 nx, .bool op] ∧ IOwn wr lo_d hi_d 3 1 A_d m cap_d D ∧ Bk wr w.heap.size 56 #[.int .i64 qu, .int .i64 li, .slice A n cap, .slice B m capd, .int .i64 nx, .bool op] ∧ Bk wr (w.heap.size + 1) 56 #[.int .i64 0, .int .i64 0, .slice none 0 0, .slice none 0 0, .int .i64 0, .bool false] ∧ Below w.heap.size w wr ∧ w2.heap.size ≤ wr.heap.size) (fun z _ => n - (intOf z).toNat)
  case atStart => exact ⟨0, none, 0, Nat.zero_le _, rfl, by rw [List.take_zero]; exact NOwn.none_ _ _ _, HOB2.out, HD2.out, HQ2.out, HR2.out, HB_2.out, Nat.le_refl _⟩
  case round =>
    clear HK_q_2 HK_r_2 HK_o_2 HO_d_2
    obtain ⟨k, C, c, hk, rfl, hnest, hob, hdo, hqb, hrb, hbw, hsz⟩ := hrel
    have HN := Lib.hid hnest
    have HOB := Lib.hid hob
    have HDO := Lib.hid hdo
    have HQB := Lib.hid hqb
    have HRB := Lib.hid hrb
    have HBW := Lib.hid hbw
    clear hnest hob hdo hqb hrb hbw
    have o : Bk wr (B_o) 56 #[.int .i64 qu, .int .i64 li, .slice C k c, .slice A_d m cap_d, .int .i64 nx, .bool op] := HOB.out
    have zo : B_o < wr.heap.size := o.lt
    have o_0 : wr.cell? ⟨B_o, 0, none⟩ = some (.int .i64 qu) := o.cell 0
    have o_1 : wr.cell? ⟨B_o, 1, none⟩ = some (.int .i64 li) := o.cell 1
    have o_2 : wr.cell? ⟨B_o, 2, none⟩ = some (.slice C k c) := o.cell 2
    have o_3 : wr.cell? ⟨B_o, 3, none⟩ = some (.slice A_d m cap_d) := o.cell 3
    have o_4 : wr.cell? ⟨B_o, 4, none⟩ = some (.int .i64 nx) := o.cell 4
    have o_5 : wr.cell? ⟨B_o, 5, none⟩ = some (.bool op) := o.cell 5
    have of := o.free
    have Ho := Lib.hid o
    clear o
    by_cases hlt : k < n
    · obtain ⟨l, hkl⟩ : ∃ l, G[k]? = some l := ⟨_, List.getElem?_eq_getElem (by rw [HQN.out]; exact hlt)⟩
      obtain ⟨g, off, X, x, xc, rfl, hgl, hck0, hxl, hxc, hx0, hxr⟩ := HROW.out k l hkl
      have hck := (HBW.out.cell (p := ⟨g, off + k, none⟩) hgl).trans hck0
      have hlb := HG.out k l hkl
      have hx6 : x ≤ 1048576 := by omega
      have HX0 := Lib.hid hx0
      have HXL := Lib.hid hxl
      have HXR := Lib.hid (fun (W : World) (hb : Below wr.heap.size wr W) => (hxr.below HBW.out).below hb)
      have HTK := Lib.hid (show G.take (k + 1) = G.take k ++ [l] from by obtain ⟨hk', e⟩ := List.getElem?_eq_some_iff.1 hkl; rw [List.take_succ_eq_append_getElem hk', e])
      clear hkl hck0 hxl hx0 hxr
      go_wp2_with fail
      go_region_law (first
        | (refine step_append_many (by rfl) _ _ _ (by rfl) _ i0 _ 6 48 Try.underlying28 HI.out HZ0.out HZ1.out HZ2.out rfl (by decide) (lo := wr.heap.size) (hh := wr.heap.size + 1) (l := []) (by rfl) (IOwn.lit0 wr.drew _ _ _ (Nat.le_refl _)) l (by rfl) HX0.out HXL.out (HXR.out _ (by repeat (first | (with_reducible exact b0 _) | (with_reducible refine ba ?_ _) | (with_reducible refine bd ?_ _) | (with_reducible refine Below.drew ?_) | (with_reducible refine bsB ?_ (by first | exact Nat.le_refl _ | exact Nat.le_add_right _ _ | omega)) | (with_reducible refine bt ?_ (by assumption))))) (by omega) (by omega) (by simp) ?_; intro A' c' w4 ho4 hb4; simp only [Nat.zero_add, List.nil_append] at ho4; have r4 := fun o => hb4.cell (p := ⟨B_o, o, none⟩) zo; have rf4 := fun o => hb4.frozen (p := ⟨B_o, o, none⟩) zo; have z4 := hb4.size; simp at z4; have n1 : ¬ B_o = wr.heap.size := (by omega); have n2 : ¬ B_o = w4.heap.size := (by omega); have n3 : B_o < w4.heap.size := (by omega); have n4 : ¬ wr.heap.size = B_o := (by omega); have n5 : ¬ w4.heap.size = B_o := (by omega))
        | (refine step_append_nest (by rfl) _ _ (by rfl) (lo := w2.heap.size) (hh := wr.heap.size) (by rfl) (((HN.out.drew.alloc _).below hb4 (Nat.le_refl _)).alloc _) w4.heap.size (by rfl) (Bk.new_ rfl) (ho4.alloc _) (Nat.le_refl _) hsz (by omega) (by first | omega | (simp; done) | (simp; omega)) ?_; intro C5 c5 w5 hn5 hb5; have r5 := fun o => hb5.cell (p := ⟨B_o, o, none⟩) zb_o; have rf5 := fun o => hb5.frozen (p := ⟨B_o, o, none⟩) zb_o; have z5 := hb5.size; simp at z5))
      all_goals
       have HB5 := Lib.hid (((ba HBW.out.drew _).trans (hb4.mono (by omega)) |> fun h => ba h _).trans (hb5.mono (by omega)))
       have HN5 := Lib.hid hn5
       have HO5 := Lib.hid ((((HOB.out.drew.alloc _).below hb4 zo).alloc _).below hb5 zb_o)
       have HD5 := Lib.hid ((((HDO.out.drew.alloc _).below hb4 (by omega)).alloc _).below hb5 (by omega))
       have HQ5 := Lib.hid ((((HQB.out.drew.alloc _).below hb4 (by omega)).alloc _).below hb5 (by omega))
       have HR5 := Lib.hid ((((HRB.out.drew.alloc _).below hb4 (by omega)).alloc _).below hb5 (by omega))
       clear hn5 hb4 hb5 ho4
       go_wp2_with fail
       go_roundw
       case rel => exact ⟨k + 1, C5, c5, by omega, by go_num, by rw [HTK.out]; exact (HN5.out.farC (.inl (by omega))).here, by have h := HO5.out.set 2 (.slice C5 (k + 1) c5); simpa using h, HD5.out.farC (by omega), HQ5.out.farB (by omega), HR5.out.farB (by omega), bsB HB5.out (by omega), by simp only [setCell_size]; omega⟩
       case measure => simp [intOf]; omega
    obtain rfl : n = k := by omega
    have HNG := Lib.hid (show NOwn wr w2.heap.size wr.heap.size C n c G from by have h := HN.out; rwa [List.take_of_length_le (by rw [HQN.out]; exact Nat.le_refl _)] at h)
    have r : Bk wr (w.heap.size + 1) 56 #[.int .i64 0, .int .i64 0, .slice none 0 0, .slice none 0 0, .int .i64 0, .bool false] := HRB.out
    have zr : w.heap.size + 1 < wr.heap.size := r.lt
    have r_0 : wr.cell? ⟨w.heap.size + 1, 0, none⟩ = some (.int .i64 0) := r.cell 0
    have r_1 : wr.cell? ⟨w.heap.size + 1, 1, none⟩ = some (.int .i64 0) := r.cell 1
    have r_2 : wr.cell? ⟨w.heap.size + 1, 2, none⟩ = some (.slice none 0 0) := r.cell 2
    have r_3 : wr.cell? ⟨w.heap.size + 1, 3, none⟩ = some (.slice none 0 0) := r.cell 3
    have r_4 : wr.cell? ⟨w.heap.size + 1, 4, none⟩ = some (.int .i64 0) := r.cell 4
    have r_5 : wr.cell? ⟨w.heap.size + 1, 5, none⟩ = some (.bool false) := r.cell 5
    have rf := r.free
    have Hr := Lib.hid r
    clear r
    go_wp2_with fail
    refine bodyPost_ret (v := .agg #[.int .i64 qu, .int .i64 li, .slice C n c, .slice A_d m cap_d, .int .i64 nx, .bool op]) (by simp [results, Try.results86, go_sem, r_0, r_1, r_2, r_3, r_4, r_5]) rfl ⟨⟨C, n, c, A_d, m, cap_d⟩, rfl, ?_, ?_⟩
    · refine (FOwn.lo_le (lo := w.heap.size + 1 + 1) (FOwn.here (hi := wr.heap.size) ?_) (by omega))
      repeat (refine FOwn.farC ?_ (.inl (by omega)))
      exact ⟨HNG.out.lo_le (by omega), (HDO.out.lo_le (by omega)).more (by omega)⟩
    · exact (by repeat (first | (with_reducible exact HBW.out) | (with_reducible refine ba ?_ _) | (with_reducible refine bsB ?_ (by omega)) | (with_reducible refine bd ?_ _) | (with_reducible refine Below.drew ?_)))
theorem faOwn_any (qu li : Int) (M : Fm) (nx : Int) (op : Bool) (G : List (List Int)) (D : List Int) (w : World) (hr : FRow w M G D) (hG : ∀ (i : Nat) (l : List Int), G[i]? = some l → l.length ≤ 6291456) (hn : M.n ≤ 1048576) (hm : M.m ≤ 1048576) :
    Calls Try.prog 86 #[.agg #[.int .i64 qu, .int .i64 li, .slice M.A M.n M.cap, .slice M.B M.m M.capd, .int .i64 nx, .bool op]] w (NewFa w qu li nx op G D) := faOwn_aux qu li M.A M.n M.cap M.B M.m M.capd nx op G D w hr hG hn hm
end Go.Proofs.Ytgdldmeeaejjpaa
