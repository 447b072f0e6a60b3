/- The contracts of the laws' helpers on [][]Packet: size, copy, comparison, marking, looking at the marks. -/
import Derived.Test.YtgdldmeeaejjpaaNest
import Derived.Test.YtgdldmeeaejjpaaInts
import Derived.Test.YtgdldmeeaejjpaaRowsPacket
import Derived.Test.YtgdldmeeaejjpaaDbox
namespace Go.Proofs.Ytgdldmeeaejjpaa
open Go.ChangeShapes Go.WideShapes Go.ChangeAt Go.RowKit
set_option linter.unusedVariables false
theorem tNest : (Try.prog.info? 28).map (fun i => (i.zero, i.size, i.bytes)) = some (some (.slice none 0 0), 1, 24) := by kernel_rfl
theorem make_nest (n : Nat) (hn : n ≤ 1048576) (w : World) :
    ∃ w', (Instr.makeSlice 54 (.int .i64 (n : Int)) (.int .i64 (n : Int))).run Try.prog w = .ok (.slice (some ⟨w.heap.size, 0, none⟩) n n) w' ∧
      NOwn w' w.heap.size w'.heap.size (some ⟨w.heap.size, 0, none⟩) n n (List.replicate n []) ∧ Below w.heap.size w w' := by
  obtain ⟨i0, hi, hz0, hz1, hz2⟩ := info_parts tNest
  obtain ⟨w', hrun, h1, h2⟩ := run_make_full (P := Try.prog) w w.heap.size 54 28 i0 (.slice none 0 0) 1 Try.underlying54 hi hz0 hz1 .i64 .i64 n (by rw [hz2]; omega) (by unfold maxLen; omega) (Nat.le_refl _)
  refine ⟨w', hrun, ⟨List.replicate n ⟨none, 0, 0⟩, ⟨?_, fun k hk => (h1.lt k hk).2⟩, by simp, fun i s l hs hl => ?_, fun i j s t g _ hs _ hg => ?_⟩, ⟨h2.os, h2.tape, h2.output, h2.size, fun k hk => h2.block k hk (by simp)⟩⟩
  · have e : (madeCells (Value.slice none 0 0).cells (n * 1)).toList = (List.replicate n (⟨none, 0, 0⟩ : Sl)).map Sl.v := by
      rw [Nat.mul_one, List.map_replicate]
      exact toList_madeCells_one _ n
    rw [e] at h1
    exact h1
  · rw [List.getElem?_replicate] at hs hl
    split at hs
    · rename_i hin
      rw [if_pos hin] at hl
      injection hs with hs
      injection hl with hl
      subst hs hl
      exact IOwn.none_ _ _ _ _ _
    · cases hs
  · rw [List.getElem?_replicate] at hs
    split at hs
    · injection hs with hs
      subst hs
      cases hg
    · cases hs
/-! ### Sums of cells -/
def gsum (G : List (List Int)) : Nat := (G.map List.length).sum
def gat (G : List (List Int)) (k : Nat) : Nat := gsum (G.take k)
theorem gat_zero (G : List (List Int)) : gat G 0 = 0 := by simp [gat, gsum]
theorem gat_succ {G : List (List Int)} {k : Nat} {l : List Int} (h : G[k]? = some l) : gat G (k + 1) = gat G k + l.length := by
  obtain ⟨hk, e⟩ := List.getElem?_eq_some_iff.1 h
  simp [gat, gsum, List.take_succ_eq_append_getElem hk, e]
theorem gat_all {G : List (List Int)} {n : Nat} (h : G.length ≤ n) : gat G n = gsum G := by rw [gat, List.take_of_length_le h]
theorem gat_le (G : List (List Int)) (k : Nat) : gat G k ≤ gsum G := by
  rcases Nat.lt_or_ge k G.length with h | h
  · have e : gsum G = gat G k + gsum (G.drop k) := by unfold gat gsum; rw [← List.sum_append, ← List.map_append, List.take_append_drop]
    omega
  · rw [gat_all h]
    exact Nat.le_refl _
/-- The first k rows of G, then empty ones. -/
def gbl (n k : Nat) (G : List (List Int)) : List (List Int) := G.take k ++ List.replicate (n - k) []
theorem gbl_zero (n : Nat) (G : List (List Int)) : gbl n 0 G = List.replicate n [] := by simp [gbl]
theorem gbl_all {n : Nat} {G : List (List Int)} (h : G.length = n) : gbl n n G = G := by simp [gbl, ← h]
theorem gbl_set {n k : Nat} {G : List (List Int)} {l : List Int} (hn : G.length = n) (h : G[k]? = some l) : (gbl n k G).set k l = gbl n (k + 1) G := by
  obtain ⟨hk, e⟩ := List.getElem?_eq_some_iff.1 h
  unfold gbl
  rw [List.set_append_right _ _ (by simp; omega), List.length_take, Nat.min_eq_left (by omega), Nat.sub_self, show n - k = (n - (k + 1)) + 1 by omega, List.replicate_succ, List.set_cons_zero, List.take_succ_eq_append_getElem hk, e, List.append_assoc]
  rfl
/-- The rows of marks from k on, as long as G's. -/
def mrks (k : Int) : List (List Int) → List (List Int)
  | [] => []
  | l :: G => marks k l.length :: mrks (k + l.length) G
theorem mrks_len (k : Int) (G : List (List Int)) : (mrks k G).length = G.length := by
  induction G generalizing k with
  | nil => rfl
  | cons l G ih => simp [mrks, ih]
theorem mrks_at {G : List (List Int)} : ∀ {k : Int} {i : Nat} {l : List Int}, G[i]? = some l → (mrks k G)[i]? = some (marks (k + gat G i) l.length) := by
  induction G with
  | nil => intro k i l h; simp at h
  | cons l0 G ih =>
    intro k i l h
    cases i with
    | zero =>
      simp at h
      subst h
      simp [mrks, gat_zero]
    | succ i =>
      simp at h
      have e := ih (k := k + l0.length) h
      have e2 : gat (l0 :: G) (i + 1) = l0.length + gat G i := by simp [gat, gsum]
      simp only [mrks, List.getElem?_cons_succ, e, e2]
      congr 2
      omega
/-- The first k rows marked, then the old ones. -/
def mbl (m : Int) (k : Nat) (G : List (List Int)) : List (List Int) := (mrks m G).take k ++ G.drop k
theorem mbl_zero (m : Int) (G : List (List Int)) : mbl m 0 G = G := by simp [mbl]
theorem mbl_all {m : Int} {G : List (List Int)} {k : Nat} (h : G.length ≤ k) : mbl m k G = mrks m G := by
  unfold mbl
  rw [List.take_of_length_le (by rw [mrks_len]; exact h), List.drop_eq_nil_of_le h, List.append_nil]
theorem mbl_at {m : Int} {G : List (List Int)} {k : Nat} {l : List Int} (h : G[k]? = some l) : (mbl m k G)[k]? = some l := by
  obtain ⟨hk, e⟩ := List.getElem?_eq_some_iff.1 h
  unfold mbl
  rw [List.getElem?_append_right (by simp; omega), List.length_take, mrks_len, Nat.min_eq_left (by omega), Nat.sub_self, List.getElem?_drop, Nat.add_zero]
  exact h
theorem mbl_set {m : Int} {G : List (List Int)} {k : Nat} {l : List Int} (h : G[k]? = some l) : (mbl m k G).set k (marks (m + gat G k) l.length) = mbl m (k + 1) G := by
  obtain ⟨hk, e⟩ := List.getElem?_eq_some_iff.1 h
  have hm := mrks_at (k := m) h
  obtain ⟨hk2, e2⟩ := List.getElem?_eq_some_iff.1 hm
  unfold mbl
  rw [List.set_append_right _ _ (by simp [mrks_len]; omega), List.length_take, mrks_len, Nat.min_eq_left (by omega), Nat.sub_self, List.drop_eq_getElem_cons hk, List.set_cons_zero, List.take_succ_eq_append_getElem hk2, e2, List.append_assoc]
  rfl
/-! ### The helpers -/
theorem szPacketS_any (A : Option Addr) (n cap : Nat) (left : Int) (w : World) (hn : n ≤ 9223372036854775807) (h0 : 0 ≤ left) (h1 : left ≤ 1048576) {v : Int} (hv : (if (n : Int) ≤ left then left - (n : Int) else -1) = v) :
    Calls Try.prog 23 #[.slice A n cap, .int .i64 left] w fun e w' => e = .returned (.int .i64 v) ∧ Below w.heap.size w w' := by
  by_cases h : (n : Int) ≤ left
  · rw [if_pos h] at hv
    subst hv
    go_enter Try.func23, Try.ntmps23
    go_wp2_with fail
    go_ret
    exact ⟨rfl, (by repeat (first | (with_reducible exact b0 _) | (with_reducible refine ba ?_ _) | (with_reducible refine bd ?_ _) | (with_reducible refine Below.drew ?_) | (with_reducible refine bs ?_ (by first | exact Nat.le_refl _ | exact Nat.le_add_right _ _ | omega) _) | (with_reducible refine bt ?_ (by assumption))))⟩
  · rw [if_neg h] at hv
    subst hv
    go_enter Try.func23, Try.ntmps23
    go_wp2_with fail
    go_ret
    exact ⟨rfl, (by repeat (first | (with_reducible exact b0 _) | (with_reducible refine ba ?_ _) | (with_reducible refine bd ?_ _) | (with_reducible refine Below.drew ?_) | (with_reducible refine bs ?_ (by first | exact Nat.le_refl _ | exact Nat.le_add_right _ _ | omega) _) | (with_reducible refine bt ?_ (by assumption))))⟩
theorem szIntS_any (A : Option Addr) (n cap : Nat) (left : Int) (w : World) (hn : n ≤ 9223372036854775807) (h0 : 0 ≤ left) (h1 : left ≤ 1048576) {v : Int} (hv : (if (n : Int) ≤ left then left - (n : Int) else -1) = v) :
    Calls Try.prog 71 #[.slice A n cap, .int .i64 left] w fun e w' => e = .returned (.int .i64 v) ∧ Below w.heap.size w w' := by
  by_cases h : (n : Int) ≤ left
  · rw [if_pos h] at hv
    subst hv
    go_enter Try.func71, Try.ntmps71
    go_wp2_with fail
    go_ret
    exact ⟨rfl, (by repeat (first | (with_reducible exact b0 _) | (with_reducible refine ba ?_ _) | (with_reducible refine bd ?_ _) | (with_reducible refine Below.drew ?_) | (with_reducible refine bs ?_ (by first | exact Nat.le_refl _ | exact Nat.le_add_right _ _ | omega) _) | (with_reducible refine bt ?_ (by assumption))))⟩
  · rw [if_neg h] at hv
    subst hv
    go_enter Try.func71, Try.ntmps71
    go_wp2_with fail
    go_ret
    exact ⟨rfl, (by repeat (first | (with_reducible exact b0 _) | (with_reducible refine ba ?_ _) | (with_reducible refine bd ?_ _) | (with_reducible refine Below.drew ?_) | (with_reducible refine bs ?_ (by first | exact Nat.le_refl _ | exact Nat.le_add_right _ _ | omega) _) | (with_reducible refine bt ?_ (by assumption))))⟩
/-- What the sizes come to: too much, or what is left. -/
def SzN (n : Nat) (G : List (List Int)) (left v : Int) : Prop := v = -1 ∨ 0 ≤ v ∧ 6 * v + gsum G + 6 * n = 6 * left
set_option maxHeartbeats 1000000 in
theorem szPacketSS_any (A : Option Addr) (n cap : Nat) (G : List (List Int)) (left : Int) (w : World) (hl : G.length = n) (hr : NRow w A G) (hG : ∀ (i : Nat) (l : List Int), G[i]? = some l → l.length ≤ 55340232221128654842) (hn : n ≤ 9223372036854775807) (h0 : 0 ≤ left) (h1 : left ≤ 1048576) :
    Calls Try.prog 70 #[.slice A n cap, .int .i64 left] w fun e w' => (∃ v, e = .returned (.int .i64 v) ∧ SzN n G left v) ∧ Below w.heap.size w w' := by
  have HL := Lib.hid hl
  have HR := Lib.hid hr
  have HG := Lib.hid hG
  clear hl hr hG
  by_cases hb : (n : Int) ≤ left
  rotate_left
  · go_enter Try.func70, Try.ntmps70
    go_wp2_with fail
    go_ret
    exact ⟨⟨_, rfl, .inl rfl⟩, (by repeat (first | (with_reducible exact b0 _) | (with_reducible refine ba ?_ _) | (with_reducible refine bd ?_ _) | (with_reducible refine Below.drew ?_) | (with_reducible refine bs ?_ (by first | exact Nat.le_refl _ | exact Nat.le_add_right _ _ | omega) _) | (with_reducible refine bt ?_ (by assumption))))⟩
  go_enter Try.func70, Try.ntmps70
  go_wp2_with fail
  go_loopw [1, 5] (fun m i wr => ∃ (k : Nat) (v : Int), k ≤ n ∧ i = .int .i64 k ∧ m = .int .i64 v ∧ 0 ≤ v ∧ v ≤ 1048576 ∧ 6 * v + gat G k + 6 * n = 6 * left ∧ Below w.heap.size w wr) (fun _ i _ => n - (intOf i).toNat)
  case atStart => exact ⟨0, left - n, Nat.zero_le _, rfl, rfl, by omega, by omega, by rw [gat_zero]; omega, b0 _⟩
  case round =>
    obtain ⟨k, v, hk, rfl, rfl, hv0, hv1, hs, hbw⟩ := hrel
    by_cases hlt : k < n
    · obtain ⟨l, hkl⟩ : ∃ l, G[k]? = some l := ⟨_, List.getElem?_eq_getElem (by rw [HL.out]; exact hlt)⟩
      obtain ⟨g, off, B, m, c, rfl, hg, hck, hlm, hmc, hBc, hrw⟩ := (HR.out.below hbw).at_ hkl
      have hlb := HG.out k l hkl
      have HS := Lib.hid (gat_succ hkl)
      have hm63 : m ≤ 9223372036854775807 := by omega
      clear hrw hkl
      rcases hd : decide ((m : Int) ≤ v) with _ | _
      · have hd' := Lib.hid (of_decide_eq_false hd)
        go_wp2_with fail
        refine (szPacketS_any _ _ _ _ _ hm63 hv0 hv1 (if_neg (show ¬ ((m : Int) ≤ v) from by have := hd'.out; omega))).mono ?_
        rintro e w2 ⟨rfl, hb2⟩
        go_wp2_with fail
        go_ret
        exact ⟨⟨_, rfl, .inl rfl⟩, bt hbw hb2⟩
      · have hd' := of_decide_eq_true hd
        have HD := Lib.hid hd'
        go_wp2_with fail
        refine (szPacketS_any _ _ _ _ _ hm63 hv0 hv1 (if_pos HD.out)).mono ?_
        rintro e w2 ⟨rfl, hb2⟩
        go_wp2_with fail
        go_roundw
        case rel => exact ⟨k + 1, v - m, by omega, by go_num, rfl, by omega, by omega, by rw [HS.out]; omega, bt hbw hb2⟩
        case measure => simp [intOf]; omega
    · obtain rfl : k = n := by omega
      have HS := Lib.hid (gat_all (G := G) (n := k) (by rw [HL.out]; exact Nat.le_refl _))
      go_wp2_with fail
      go_ret
      refine ⟨⟨_, rfl, .inr ⟨hv0, ?_⟩⟩, hbw⟩
      rw [← HS.out]
      exact hs
def NewNest (w : World) (n : Nat) (G : List (List Int)) (e : Ending) (w' : World) : Prop :=
  ∃ A cap, e = .returned (.slice A n cap) ∧ NOwn w' w.heap.size w'.heap.size A n cap G ∧ Below w.heap.size w w'
set_option maxHeartbeats 1000000 in
theorem toPacketSS_any (A : Option Addr) (n cap : Nat) (G : List (List Int)) (w : World) (hl : G.length = n) (hr : NRow w A G) (hn : n ≤ 1048576) (hG : ∀ (i : Nat) (l : List Int), G[i]? = some l → l.length ≤ 6291456) :
    Calls Try.prog 73 #[.slice A n cap] w (NewNest w n G) := by
  obtain ⟨w1, hmk, ho, hb⟩ := make_nest n hn w
  have HL := Lib.hid hl
  have HR := Lib.hid hr
  have HG := Lib.hid hG
  have HO := Lib.hid ho
  clear hl hr hG ho
  go_enter Try.func73, Try.ntmps73
  go_wp2_with fail
  clear hmk
  go_loopw [4] (fun i wr => ∃ k : Nat, k ≤ n ∧ i = .int .i64 k ∧ NOwn wr w.heap.size wr.heap.size (some ⟨w.heap.size, 0, none⟩) n n (gbl n k G) ∧ Below w.heap.size w wr) (fun i _ => n - (intOf i).toNat)
  case atStart => exact ⟨0, Nat.zero_le _, rfl, by rw [gbl_zero]; exact HO.out, hb⟩
  case round =>
    obtain ⟨k, hk, rfl, hown, hbw⟩ := hrel
    by_cases hlt : k < n
    · obtain ⟨l, hkl⟩ : ∃ l, G[k]? = some l := ⟨_, List.getElem?_eq_getElem (by rw [HL.out]; exact hlt)⟩
      obtain ⟨g, off, B, m, c, rfl, hg, hck, hlm, hmc, hBc, hrw⟩ := (HR.out.below hbw).at_ hkl
      have hlb := HG.out k l hkl
      have HS := Lib.hid (gbl_set HL.out hkl)
      have HRW := Lib.hid hrw
      have HLM := Lib.hid hlm
      have hm6 : m ≤ 1048576 := by omega
      clear hrw hkl hlm
      obtain ⟨S, hs⟩ := hown
      have HOW := Lib.hid hs
      clear hs
      go_wp2_with fail
      refine (toPacketS_any _ _ _ l _ HLM.out HRW.out hm6).mono ?_
      rintro e w2 ⟨A2, m2, c2, rfl, ho2, hb2⟩
      have z2 := hb2.size
      have HOW2 := Lib.hid (HOW.out.old hb2)
      have HO2 := Lib.hid ho2
      obtain ⟨g', hg', hg1, hg2, hg3, hc2, hf2, -⟩ := HOW2.out.at_ hlt
      injection hg' with hg'
      injection hg' with hg'
      subst hg'
      have hf2k := hf2 k
      obtain ⟨s0, hs0⟩ : ∃ s, S[k]? = some s := ⟨_, List.getElem?_eq_getElem (by rw [HOW2.out.slen]; exact hlt)⟩
      have hc2k := hc2 k s0 hs0
      have HB2 := Lib.hid hb2
      clear hc2 hf2 hs0 ho2 hb2
      go_wp2_with fail
      go_roundw
      case rel =>
        refine ⟨k + 1, by omega, by go_num, ?_, bs (bt hbw HB2.out) (Nat.le_refl _) _⟩
        rw [← HS.out]
        refine ⟨_, ((HOW2.out.more z2).put (i := k) (s := ⟨A2, m2, c2⟩) (HO2.out.lo_le (by have := hbw.size; omega)) fun j t b hj ht hsb htb => ?_).here⟩
        obtain ⟨q1, q2, _⟩ := HO2.out.blk hsb
        have hlen : j < (gbl n k G).length := by have := (List.getElem?_eq_some_iff.1 ht).1; have := HOW2.out.2.1; omega
        have := (HOW2.out.2.2.1 j t _ ht (List.getElem?_eq_getElem hlen)).blk htb
        omega
      case measure => simp [intOf]; omega
    · obtain rfl : k = n := by omega
      have HOW := Lib.hid hown
      clear hown
      go_wp2_with fail
      go_ret
      refine ⟨_, _, rfl, ?_, hbw⟩
      have h := HOW.out
      rwa [gbl_all HL.out] at h
set_option maxHeartbeats 1000000 in
theorem eqPacketSS_any (A B : Option Addr) (n cap cap' : Nat) (G : List (List Int)) (w : World) (hl : G.length = n) (hn : n ≤ 1099511627776) (hr : NRow w A G) (hs : NRow w B G) (hG : ∀ (i : Nat) (l : List Int), G[i]? = some l → l.length ≤ 6597069766656) :
    Calls Try.prog 76 #[.slice A n cap, .slice B n cap'] w fun e w' => e = .returned (.bool true) ∧ Below w.heap.size w w' := by
  have HL := Lib.hid hl
  have HR := Lib.hid hr
  have HS := Lib.hid hs
  have HG := Lib.hid hG
  clear hl hr hs hG
  go_enter Try.func76, Try.ntmps76
  go_wp2_with fail
  go_loopw [5] (fun i wr => ∃ k : Nat, k ≤ n ∧ i = .int .i64 k ∧ Below w.heap.size w wr) (fun i _ => n - (intOf i).toNat)
  case atStart => exact ⟨0, Nat.zero_le _, rfl, b0 _⟩
  case round =>
    obtain ⟨k, hk, rfl, hbw⟩ := hrel
    by_cases hlt : k < n
    · obtain ⟨l, hkl⟩ : ∃ l, G[k]? = some l := ⟨_, List.getElem?_eq_getElem (by rw [HL.out]; exact hlt)⟩
      obtain ⟨g, off, X, m, c, rfl, hg, hck, hlm, hmc, hXc, hrw⟩ := (HR.out.below hbw).at_ hkl
      obtain ⟨g', off', Y, m', c', rfl, hg', hck', hlm', hmc', hYc, hrw'⟩ := (HS.out.below hbw).at_ hkl
      obtain rfl : m' = m := by omega
      have hlb := HG.out k l hkl
      have hi1 : ((k : Int)) < (n : Int) := by omega
      have q0 : ∀ u : Gr wr, u.v.cell? ⟨g, off + k, none⟩ = some (.slice X m' c) := gr_cell hck
      have q1 : ∀ u : Gr wr, u.v.cell? ⟨g', off' + k, none⟩ = some (.slice Y m' c') := gr_cell hck'
      have HX := Lib.hid (fun (u : Gr wr) => hrw.below u.h)
      have HY := Lib.hid (fun (u : Gr wr) => hrw'.below u.h)
      have HLM := Lib.hid hlm
      have hm6 : m' ≤ 1099511627776 := by omega
      clear hkl hrw hrw' hlm hlm'
      go_wp2_with fail
      refine wp_region_gr (by kernel_rfl) (by kernel_rfl) ?_
      repeat (go_big_quiet_step ((go_at_call 27; exact gr_of (eqPacketS_any _ _ _ _ _ l _ HLM.out hm6 (HX.out _) (HY.out _)))))
      refine wpQuiet_nil ?_
      intro _ hw'
      obtain ⟨pq, hw''⟩ := hw'
      subst hw''
      go_wp2_with fail
      go_roundw
      case rel => exact ⟨k + 1, by omega, by go_num, bt hbw pq.h⟩
      case measure => simp [intOf]; omega
    · obtain rfl : k = n := by omega
      go_wp2_with fail
      go_ret
      exact ⟨rfl, hbw⟩
/-- Blocks of another type are left as they were. -/
def KeepT (T : TypeId) (w w' : World) : Prop := ∀ (g : Nat) (cs : Array Value) (t : TypeId) (f : Nat × Nat), w.heap[g]? = some (.cells cs t f) → t ≠ T → w'.heap[g]? = w.heap[g]?
theorem KeepT.refl (T : TypeId) (w : World) : KeepT T w w := fun _ _ _ _ _ _ => rfl
theorem KeepT.trans {T : TypeId} {a b c : World} (h : KeepT T a b) (k : KeepT T b c) : KeepT T a c := fun g cs t f hg ht => (k g cs t f ((h g cs t f hg ht).trans hg) ht).trans (h g cs t f hg ht)
theorem IOwn.keepT {w w' : World} {T lo hi e s : Nat} {A : Option Addr} {n cap : Nat} {l : List Int} (h : IOwn w lo hi e s A n cap l) (hk : KeepT T w w') (he : e ≠ T) : IOwn w' lo hi e s A n cap l :=
  h.keepB fun g hg _ => by
    obtain ⟨_, _, _, cs, f, e'⟩ := h.blk hg
    exact hk g cs e f e' he
theorem Chg.widen {a b lo hi : Nat} {w w' : World} (h : Chg a b w w') (h1 : lo ≤ a) (h2 : b ≤ hi) : Chg lo hi w w' := ⟨h.os, h.tape, h.output, h.size, fun k hk ho => h.block k hk (by omega)⟩
def MarkedNest (w : World) (lo hi : Nat) (A : Option Addr) (n cap : Nat) (G : List (List Int)) (k : Int) (e : Ending) (w' : World) : Prop :=
  e = .returned (.int .i64 (k + (gsum G : Nat))) ∧ NOwn w' lo hi A n cap (mrks k G) ∧ Chg lo hi w w' ∧ KeepT 35 w w'
set_option maxHeartbeats 1000000 in
theorem markPacketSS_any (A : Option Addr) (n cap : Nat) (G : List (List Int)) (k : Int) (lo hi : Nat) (w : World) (ho : NOwn w lo hi A n cap G) (hn : n ≤ 1099511627776) (k0 : 0 ≤ k) (k1 : k + (gsum G : Nat) ≤ 1099511627776) :
    Calls Try.prog 80 #[.slice A n cap, .int .i64 k] w (MarkedNest w lo hi A n cap G k) := by
  obtain ⟨S, ho⟩ := ho
  have HL := Lib.hid ho.len
  have HO := Lib.hid ho
  clear ho
  go_enter Try.func80, Try.ntmps80
  go_wp2_with fail
  go_loopw [1, 5] (fun m i wr => ∃ j : Nat, j ≤ n ∧ i = .int .i64 j ∧ m = .int .i64 (k + (gat G j : Nat)) ∧ NOwnS wr lo hi A n cap S (mbl k j G) ∧ Chg lo hi w wr ∧ KeepT 35 w wr) (fun _ i _ => n - (intOf i).toNat)
  case atStart => exact ⟨0, Nat.zero_le _, rfl, by simp [gat_zero], by rw [mbl_zero]; exact HO.out, Chg.refl _ _ _, KeepT.refl _ _⟩
  case round =>
    obtain ⟨j, hj, rfl, rfl, hown, hch, hkt⟩ := hrel
    by_cases hlt : j < n
    · obtain ⟨l, hkl⟩ : ∃ l, G[j]? = some l := ⟨_, List.getElem?_eq_getElem (by rw [HL.out]; exact hlt)⟩
      have HS := Lib.hid (gat_succ hkl)
      have HM := Lib.hid (mbl_set (m := k) hkl)
      have hkm := mbl_at (m := k) hkl
      obtain ⟨g, rfl, hg1, hg2, hg3, hc, _, _⟩ := hown.at_ hlt
      obtain ⟨s, hs⟩ : ∃ s, S[j]? = some s := ⟨_, List.getElem?_eq_getElem (by rw [hown.slen]; exact hlt)⟩
      have hck := hc j s hs
      unfold Sl.v at hck
      have ho := hown.2.2.1 j s l hs hkm
      obtain ⟨a, b, q1, q2, q3, q4, q5⟩ := ho.slim (by omega)
      have hle := gat_le G (j + 1)
      have hlen := q4.len
      have HQ4 := Lib.hid q4
      have HQ5 := Lib.hid q5
      have HOW := Lib.hid hown
      have HSJ := Lib.hid hs
      have hgs := HS.out
      have hsn : s.n ≤ 1099511627776 := by omega
      clear hc hkl hkm ho q4 q5 hown hs
      go_wp2_with fail
      refine (markPacketS_any _ _ _ l _ a b _ HQ4.out hsn (by omega) (by omega)).mono ?_
      rintro e w2 ⟨rfl, ho2, hc2⟩
      have HO2 := Lib.hid ho2
      have HC2 := Lib.hid hc2
      clear ho2 hc2
      go_wp2_with fail
      go_roundw
      case rel =>
        refine ⟨j + 1, by omega, by go_num, by congr 1; omega, ?_, hch.trans (HC2.out.widen q1 q3), hkt.trans fun gb cs t f hgb ht => ?_⟩
        · rw [← HM.out, hlen]
          exact HOW.out.upd HSJ.out HO2.out HC2.out q1 q3 HQ5.out
        · refine HC2.out.block gb (Array.getElem?_eq_some_iff.1 hgb).1 ?_
          rcases Nat.lt_or_ge gb a with h' | h'
          · exact .inl h'
          rcases Nat.lt_or_ge gb b with h2 | h2
          · obtain ⟨_, cs', f', e'⟩ := HQ5.out gb h' h2
            rw [hgb] at e'
            injection e' with e'
            injection e' with _ e'
            exact absurd e' ht
          · exact .inr h2
      case measure => simp [intOf]; omega
    · obtain rfl : j = n := by omega
      have HOW := Lib.hid hown
      have HS := Lib.hid (gat_all (G := G) (n := j) (by rw [HL.out]; exact Nat.le_refl _))
      clear hown
      go_wp2_with fail
      go_ret
      refine ⟨by rw [HS.out]; rfl, ⟨S, ?_⟩, hch, hkt⟩
      have h := HOW.out
      rwa [mbl_all (by rw [HL.out]; exact Nat.le_refl _)] at h
set_option maxHeartbeats 1000000 in
theorem heldPacketSS_any (A : Option Addr) (n cap : Nat) (G : List (List Int)) (k : Int) (w : World) (hl : G.length = n) (hr : NRow w A (mrks k G)) (hn : n ≤ 1099511627776) (k0 : 0 ≤ k) (k1 : k + (gsum G : Nat) ≤ 1099511627776) :
    Calls Try.prog 81 #[.slice A n cap, .int .i64 k] w fun e w' => e = .returned (.int .i64 (k + (gsum G : Nat))) ∧ Below w.heap.size w w' := by
  have HL := Lib.hid hl
  have HR := Lib.hid hr
  clear hl hr
  go_enter Try.func81, Try.ntmps81
  go_wp2_with fail
  go_loopw [1, 5] (fun m i wr => ∃ j : Nat, j ≤ n ∧ i = .int .i64 j ∧ m = .int .i64 (k + (gat G j : Nat)) ∧ Below w.heap.size w wr) (fun _ i _ => n - (intOf i).toNat)
  case atStart => exact ⟨0, Nat.zero_le _, rfl, by simp [gat_zero], b0 _⟩
  case round =>
    obtain ⟨j, hj, rfl, rfl, hbw⟩ := hrel
    by_cases hlt : j < n
    · obtain ⟨l, hkl⟩ : ∃ l, G[j]? = some l := ⟨_, List.getElem?_eq_getElem (by rw [HL.out]; exact hlt)⟩
      have HS := Lib.hid (gat_succ hkl)
      obtain ⟨g, off, B, m, c, rfl, hg, hck, hlm, hmc, hBc, hrw⟩ := (HR.out.below hbw).at_ (mrks_at (k := k) hkl)
      rw [marks_len] at hlm
      have hle := gat_le G (j + 1)
      have hgs := HS.out
      have HRW := Lib.hid (show IRow wr B (marks (k + (gat G j : Nat)) (m * 6)) from by rw [← hlm]; exact hrw)
      have hsn : m ≤ 1099511627776 := by omega
      clear hkl hrw
      go_wp2_with fail
      refine (heldPacketS_any _ _ _ _ _ HRW.out hsn (by omega) (by omega)).mono ?_
      rintro e w2 ⟨rfl, hb2⟩
      go_wp2_with fail
      go_roundw
      case rel => exact ⟨j + 1, by omega, by go_num, by congr 1; omega, bt hbw hb2⟩
      case measure => simp [intOf]; omega
    · obtain rfl : j = n := by omega
      have HS := Lib.hid (gat_all (G := G) (n := j) (by rw [HL.out]; exact Nat.le_refl _))
      go_wp2_with fail
      go_ret
      exact ⟨by rw [HS.out]; rfl, hbw⟩
end Go.Proofs.Ytgdldmeeaejjpaa
