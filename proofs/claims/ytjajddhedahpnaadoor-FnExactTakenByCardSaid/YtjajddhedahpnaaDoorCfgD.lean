/- The contracts of leaves, targets and sums of rates, on both sides. -/
import Derived.Test.YtjajddhedahpnaaDoorCfgC
namespace Go.Proofs.YtjajddhedahpnaaDoor
open Go.ChangeShapes Go.WideShapes Go.ChangeAt Go.RowKit
set_option linter.unusedVariables false
theorem cfLeaf_any (i : Nat) (nm : ByteArray) (A : Option Addr) (n cap : Nat) (B : Option Addr) (m capb : Nat) (df : Int) (L : List Cl) (w : World) (hl : L.length = n) (hr : IRow w A (flc L)) (hn : n ≤ 1000) (hi : i < n) : Calls Tryd.prog 63 #[.agg #[.string nm, .slice A n cap, .slice B m capb, .int .i64 df], .int .i64 (i : Int)] w fun e w' => e = .returned (.bool (lf L i)) ∧ Below w.heap.size w w' := by
  have HK := Lib.hid (fun W (hb : Below w.heap.size w W) => cfKids_any i nm A n cap B m capb df L W hl (hr.below hb) hn hi)
  have HF := Lib.hid (show lf L i = decide ((((kids L i).length : Nat) : Int) = 0) from by unfold lf; rw [decide_eq_decide]; omega)
  clear hl hr hi
  go_enter Tryd.func63, Tryd.ntmps63
  go_wp2_with fail
  refine (HK.out _ (ba (b0 w) _)).mono ?_
  rintro e w1 ⟨C, c, rfl, _, hb⟩
  generalize (kids L i).length = j at *
  go_wp2_with fail
  go_ret
  exact ⟨ret_b HF.out.symm, bt (ba (b0 w) _) hb⟩
theorem isLeafId_any (id : Int) (nm : ByteArray) (A : Option Addr) (n cap : Nat) (B : Option Addr) (m capb : Nat) (df : Int) (L : List Cl) (w : World) (hl : L.length = n) (hr : IRow w A (flc L)) (hn : n ≤ 1000) : Calls Tryd.prog 78 #[.agg #[.string nm, .slice A n cap, .slice B m capb, .int .i64 df], .int .i64 id] w fun e w' => e = .returned (.bool (tg L id)) ∧ Below w.heap.size w w' := by
  have HF := Lib.hid (fun W (hb : Below w.heap.size w W) => indexOf_any id nm A n cap B m capb df L W hl (hr.below hb) hn)
  have HK := Lib.hid (fun i (hi : i < n) W (hb : Below w.heap.size w W) => isLeaf_any i nm A n cap B m capb df L W hl (hr.below hb) hn hi)
  have hfb := fnd_b L id
  rw [hl] at hfb
  obtain ⟨q, hq⟩ : ∃ q, q = fnd L id := ⟨_, rfl⟩
  rw [← hq] at hfb HF
  have HT := Lib.hid (show tg L id = (decide (0 ≤ q) && lf L q.toNat) from by rw [hq]; rfl)
  clear hl hr hq
  by_cases h0 : 0 ≤ q
  · obtain ⟨j, rfl⟩ : ∃ j : Nat, q = (j : Int) := ⟨q.toNat, by omega⟩
    have HT2 := Lib.hid (show tg L id = lf L j from by rw [HT.out, decide_eq_true h0]; simp)
    have HL := Lib.hid (fun W (hb : Below w.heap.size w W) => HK.out j (by omega) W hb)
    clear HT HK
    generalize lf L j = b at *
    go_enter Tryd.func78, Tryd.ntmps78
    go_wp2_with fail
    refine (HF.out _ (ba (b0 w) _)).mono ?_
    rintro e w1 ⟨rfl, hb1⟩
    have HB1 := Lib.hid (bt (ba (b0 w) _) hb1)
    have x : Bk w1 (w.heap.size) 34 #[.string nm, .slice A n cap, .slice B m capb, .int .i64 df] := (Bk.new w 34 #[.string nm, .slice A n cap, .slice B m capb, .int .i64 df]).old hb1
    have zx : w.heap.size < w1.heap.size := x.lt
    have x_0 : w1.cell? ⟨w.heap.size, 0, none⟩ = some (.string nm) := x.cell 0
    have x_1 : w1.cell? ⟨w.heap.size, 1, none⟩ = some (.slice A n cap) := x.cell 1
    have x_2 : w1.cell? ⟨w.heap.size, 2, none⟩ = some (.slice B m capb) := x.cell 2
    have x_3 : w1.cell? ⟨w.heap.size, 3, none⟩ = some (.int .i64 df) := x.cell 3
    have xf := x.free
    have Hx := Lib.hid x
    clear x
    clear hb1
    go_wp2_with fail
    refine (HL.out _ HB1.out).mono ?_
    rintro e w2 ⟨rfl, hb2⟩
    go_wp2_with fail
    go_ret
    exact ⟨ret_b HT2.out.symm, bt HB1.out hb2⟩
  · have HT2 := Lib.hid (show tg L id = false from by rw [HT.out, decide_eq_false h0]; rfl)
    clear HT HK
    go_enter Tryd.func78, Tryd.ntmps78
    go_wp2_with fail
    refine (HF.out _ (ba (b0 w) _)).mono ?_
    rintro e w1 ⟨rfl, hb1⟩
    have HB1 := Lib.hid (bt (ba (b0 w) _) hb1)
    have x : Bk w1 (w.heap.size) 34 #[.string nm, .slice A n cap, .slice B m capb, .int .i64 df] := (Bk.new w 34 #[.string nm, .slice A n cap, .slice B m capb, .int .i64 df]).old hb1
    have zx : w.heap.size < w1.heap.size := x.lt
    have x_0 : w1.cell? ⟨w.heap.size, 0, none⟩ = some (.string nm) := x.cell 0
    have x_1 : w1.cell? ⟨w.heap.size, 1, none⟩ = some (.slice A n cap) := x.cell 1
    have x_2 : w1.cell? ⟨w.heap.size, 2, none⟩ = some (.slice B m capb) := x.cell 2
    have x_3 : w1.cell? ⟨w.heap.size, 3, none⟩ = some (.int .i64 df) := x.cell 3
    have xf := x.free
    have Hx := Lib.hid x
    clear x
    clear hb1
    go_wp2_with fail
    go_ret
    exact ⟨ret_b HT2.out.symm, HB1.out⟩
theorem cfTarget_any (id : Int) (nm : ByteArray) (A : Option Addr) (n cap : Nat) (B : Option Addr) (m capb : Nat) (df : Int) (L : List Cl) (w : World) (hl : L.length = n) (hr : IRow w A (flc L)) (hn : n ≤ 1000) : Calls Tryd.prog 46 #[.agg #[.string nm, .slice A n cap, .slice B m capb, .int .i64 df], .int .i64 id] w fun e w' => e = .returned (.bool (tg L id)) ∧ Below w.heap.size w w' := by
  have HF := Lib.hid (fun W (hb : Below w.heap.size w W) => cfFind_any id nm A n cap B m capb df L W hl (hr.below hb) hn)
  have HK := Lib.hid (fun i (hi : i < n) W (hb : Below w.heap.size w W) => cfLeaf_any i nm A n cap B m capb df L W hl (hr.below hb) hn hi)
  have hfb := fnd_b L id
  rw [hl] at hfb
  obtain ⟨q, hq⟩ : ∃ q, q = fnd L id := ⟨_, rfl⟩
  rw [← hq] at hfb HF
  have HT := Lib.hid (show tg L id = (decide (0 ≤ q) && lf L q.toNat) from by rw [hq]; rfl)
  clear hl hr hq
  by_cases h0 : 0 ≤ q
  · obtain ⟨j, rfl⟩ : ∃ j : Nat, q = (j : Int) := ⟨q.toNat, by omega⟩
    have HT2 := Lib.hid (show tg L id = lf L j from by rw [HT.out, decide_eq_true h0]; simp)
    have HL := Lib.hid (fun W (hb : Below w.heap.size w W) => HK.out j (by omega) W hb)
    clear HT HK
    generalize lf L j = b at *
    go_enter Tryd.func46, Tryd.ntmps46
    go_wp2_with fail
    refine (HF.out _ (ba (b0 w) _)).mono ?_
    rintro e w1 ⟨rfl, hb1⟩
    have HB1 := Lib.hid (bt (ba (b0 w) _) hb1)
    have x : Bk w1 (w.heap.size) 34 #[.string nm, .slice A n cap, .slice B m capb, .int .i64 df] := (Bk.new w 34 #[.string nm, .slice A n cap, .slice B m capb, .int .i64 df]).old hb1
    have zx : w.heap.size < w1.heap.size := x.lt
    have x_0 : w1.cell? ⟨w.heap.size, 0, none⟩ = some (.string nm) := x.cell 0
    have x_1 : w1.cell? ⟨w.heap.size, 1, none⟩ = some (.slice A n cap) := x.cell 1
    have x_2 : w1.cell? ⟨w.heap.size, 2, none⟩ = some (.slice B m capb) := x.cell 2
    have x_3 : w1.cell? ⟨w.heap.size, 3, none⟩ = some (.int .i64 df) := x.cell 3
    have xf := x.free
    have Hx := Lib.hid x
    clear x
    clear hb1
    go_wp2_with fail
    refine (HL.out _ HB1.out).mono ?_
    rintro e w2 ⟨rfl, hb2⟩
    go_wp2_with fail
    go_ret
    exact ⟨ret_b HT2.out.symm, bt HB1.out hb2⟩
  · have HT2 := Lib.hid (show tg L id = false from by rw [HT.out, decide_eq_false h0]; rfl)
    clear HT HK
    go_enter Tryd.func46, Tryd.ntmps46
    go_wp2_with fail
    refine (HF.out _ (ba (b0 w) _)).mono ?_
    rintro e w1 ⟨rfl, hb1⟩
    have HB1 := Lib.hid (bt (ba (b0 w) _) hb1)
    have x : Bk w1 (w.heap.size) 34 #[.string nm, .slice A n cap, .slice B m capb, .int .i64 df] := (Bk.new w 34 #[.string nm, .slice A n cap, .slice B m capb, .int .i64 df]).old hb1
    have zx : w.heap.size < w1.heap.size := x.lt
    have x_0 : w1.cell? ⟨w.heap.size, 0, none⟩ = some (.string nm) := x.cell 0
    have x_1 : w1.cell? ⟨w.heap.size, 1, none⟩ = some (.slice A n cap) := x.cell 1
    have x_2 : w1.cell? ⟨w.heap.size, 2, none⟩ = some (.slice B m capb) := x.cell 2
    have x_3 : w1.cell? ⟨w.heap.size, 3, none⟩ = some (.int .i64 df) := x.cell 3
    have xf := x.free
    have Hx := Lib.hid x
    clear x
    clear hb1
    go_wp2_with fail
    go_ret
    exact ⟨ret_b HT2.out.symm, HB1.out⟩
/-- The k-th of a row of indices. -/
theorem nI_get {l : List Nat} {j : Nat} (h : j < l.length) : (nI l)[j]?.getD 0 = ((l[j]?.getD 0 : Nat) : Int) := by simp [nI, List.getElem?_eq_getElem h]
theorem nI_len (l : List Nat) : (nI l).length = l.length := by simp [nI]
theorem kids_at {L : List Cl} {i j : Nat} (h : j < (kids L i).length) : (kids L i)[j]?.getD 0 < L.length := by
  rw [List.getElem?_eq_getElem h]
  exact kids_lt (List.getElem_mem h)
theorem ks_b {L : List Cl} (h : raB L) (hn : L.length ≤ 1000) (i j : Nat) : 0 ≤ raS L ((kids L i).take j) ∧ raS L ((kids L i).take j) ≤ 100000000 := by
  have h1 := raS_b h ((kids L i).take j) (fun x hx => kids_lt (List.mem_of_mem_take hx))
  have h2 := kidsTo_len L i L.length
  have h3 : ((kids L i).take j).length ≤ (kids L i).length := by rw [List.length_take]; omega
  unfold kids at *
  omega
set_option maxHeartbeats 1000000 in
theorem childRates_any (i : Nat) (nm : ByteArray) (A : Option Addr) (n cap : Nat) (B : Option Addr) (m capb : Nat) (df : Int) (L : List Cl) (w : World) (hl : L.length = n) (hr : IRow w A (flc L)) (hn : n ≤ 1000) (hi : i < n) (hra : raB L) : Calls Tryd.prog 89 #[.agg #[.string nm, .slice A n cap, .slice B m capb, .int .i64 df], .int .i64 (i : Int)] w fun e w' => e = .returned (.int .i64 (ks L i)) ∧ Below w.heap.size w w' := by
  have HL := Lib.hid hl
  have HR := Lib.hid hr
  have HI := Lib.hid hi
  have HRA := Lib.hid hra
  have HKS := Lib.hid (fun j => ks_b hra (by omega) i j)
  have HK := Lib.hid (fun W (hb : Below w.heap.size w W) => childrenOf_any i nm A n cap B m capb df L W hl (hr.below hb) hn hi)
  clear hl hr hi hra
  go_enter Tryd.func89, Tryd.ntmps89
  go_wp2_with fail
  refine (HK.out _ (ba (b0 w) _)).mono ?_
  rintro e w1 ⟨C, c, rfl, ho, hb1⟩
  have HO := Lib.hid ho
  have HX := Lib.hid ((Bk.new w 34 #[.string nm, .slice A n cap, .slice B m capb, .int .i64 df]).old hb1)
  have HB1 := Lib.hid (bt (ba (b0 w) _) hb1)
  have zx : w.heap.size < w1.heap.size := HX.out.lt
  have HKL := Lib.hid (show (kids L i).length ≤ 1000 from by have := kidsTo_len L i L.length; have := HL.out; unfold kids; omega)
  clear ho hb1
  go_wp2_with fail
  go_loopw [5, 12] (fun v z wr => ∃ (k : Nat) (s : Int), k ≤ (kids L i).length ∧ z = .int .i64 k ∧ s = raS L ((kids L i).take k) ∧ v = .int .i64 s ∧ w1 = wr) (fun _ z _ => (kids L i).length - (intOf z).toNat)
  case atStart => exact ⟨0, _, Nat.zero_le _, rfl, rfl, by simp [raS], rfl⟩
  case round =>
    obtain ⟨k, s, hk, rfl, hs, rfl, rfl⟩ := hrel
    by_cases hlt : k < (kids L i).length
    · obtain ⟨gr, rfl, hr1, hr2, hr3, hrc, hrf⟩ := HO.out.at_ (k := k) (by rw [nI_len]; exact hlt)
      have hrk := hrc k (by rw [nI_len]; exact hlt)
      rw [nI_get hlt] at hrk
      have hj := kids_at hlt
      have hsb := HKS.out k
      have hsb2 := HKS.out (k + 1)
      have hnx := raS_take (L := L) hlt
      clear hrc hrf
      obtain ⟨j, hjj⟩ : ∃ j, j = (kids L i)[k]?.getD 0 := ⟨_, rfl⟩
      rw [← hjj] at hrk hj hnx
      clear hjj
      obtain ⟨g, off, rfl, hg, hcs⟩ := crow (HR.out.below HB1.out) hj
      obtain ⟨c0, c1, c2, c3, c4, c5, c6, c7⟩ := hcs j hj
      have hxr := HRA.out j hj
      have b1 : w1.cell? ⟨w.heap.size, 1, none⟩ = some (.slice (some ⟨g, off, none⟩) n cap) := HX.out.cell 1
      have j0 : (0 : Int) ≤ (j : Int) := by omega
      have j1 : (j : Int) < (n : Int) := by have := HL.out; omega
      have jk : (k : Int) < ((kids L i).length : Int) := by omega
      have hk5 : IntKind.i64.wrap ((k : Int) + 1) = (k : Int) + 1 := IntWalk.i64_in _ (by have := HKL.out; omega)
      clear hcs
      rw [← hs] at hsb hnx
      rw [hnx] at hsb2
      generalize cat L j = x at *
      have hw : IntKind.i64.wrap (s + x.ra) = s + x.ra := IntWalk.i64_in _ (by omega)
      go_wp2_with fail
      go_roundw
      case rel => exact ⟨k + 1, _, by omega, by go_num, by omega, rfl, trivial⟩
      case measure => simp [intOf]; omega
    · obtain rfl : k = (kids L i).length := by omega
      have HS := Lib.hid (show s = ks L i from by rw [hs, List.take_length]; rfl)
      have jk : ¬ (((kids L i).length : Nat) : Int) < ((kids L i).length : Int) := by omega
      clear hs
      go_wp2_with fail
      go_ret
      exact ⟨by rw [← HS.out]; rfl, HB1.out⟩
set_option maxHeartbeats 1000000 in
theorem cfSpare_any (i : Nat) (nm : ByteArray) (A : Option Addr) (n cap : Nat) (B : Option Addr) (m capb : Nat) (df : Int) (L : List Cl) (w : World) (hl : L.length = n) (hr : IRow w A (flc L)) (hn : n ≤ 1000) (hi : i < n) (hra : raB L) : Calls Tryd.prog 62 #[.agg #[.string nm, .slice A n cap, .slice B m capb, .int .i64 df], .int .i64 (i : Int)] w fun e w' => e = .returned (.int .i64 ((cat L i).ra - ks L i)) ∧ Below w.heap.size w w' := by
  have HL := Lib.hid hl
  have HR := Lib.hid hr
  have HI := Lib.hid hi
  have HRA := Lib.hid hra
  have HKS := Lib.hid (fun j => ks_b hra (by omega) i j)
  have HK := Lib.hid (fun W (hb : Below w.heap.size w W) => cfKids_any i nm A n cap B m capb df L W hl (hr.below hb) hn hi)
  clear hl hr hi hra
  obtain ⟨gi, oi, rfl, hgi, hci⟩ := crow HR.out (k := i) (by have := HL.out; have := HI.out; omega)
  obtain ⟨d0, d1, d2, d3, d4, d5, d6, d7⟩ := hci i (by have := HL.out; have := HI.out; omega)
  have hri := HRA.out i (by have := HL.out; have := HI.out; omega)
  have i0 : (0 : Int) ≤ (i : Int) := by omega
  have i1 : (i : Int) < (n : Int) := by have := HI.out; omega
  obtain ⟨r0, hr0⟩ : ∃ r, r = (cat L i).ra := ⟨_, rfl⟩
  rw [← hr0] at d2 hri
  have HR0 := Lib.hid hr0
  clear hci d0 d1 d3 d4 d5 d6 d7 hr0
  go_enter Tryd.func62, Tryd.ntmps62
  go_wp2_with fail
  refine (HK.out _ (ba (b0 w) _)).mono ?_
  rintro e w1 ⟨C, c, rfl, ho, hb1⟩
  have HO := Lib.hid ho
  have HX := Lib.hid ((Bk.new w 34 #[.string nm, .slice (some ⟨gi, oi, none⟩) n cap, .slice B m capb, .int .i64 df]).old hb1)
  have HB1 := Lib.hid (bt (ba (b0 w) _) hb1)
  have zx : w.heap.size < w1.heap.size := HX.out.lt
  have HKL := Lib.hid (show (kids L i).length ≤ 1000 from by have := kidsTo_len L i L.length; have := HL.out; unfold kids; omega)
  clear ho hb1
  go_wp2_with fail
  go_loopw [5, 18] (fun v z wr => ∃ (k : Nat) (s : Int), k ≤ (kids L i).length ∧ z = .int .i64 k ∧ s = r0 - raS L ((kids L i).take k) ∧ v = .int .i64 s ∧ w1 = wr) (fun _ z _ => (kids L i).length - (intOf z).toNat)
  case atStart => exact ⟨0, _, Nat.zero_le _, rfl, rfl, by simp [raS], rfl⟩
  case round =>
    obtain ⟨k, s, hk, rfl, hs, rfl, rfl⟩ := hrel
    by_cases hlt : k < (kids L i).length
    · obtain ⟨gr, rfl, hr1, hr2, hr3, hrc, hrf⟩ := HO.out.at_ (k := k) (by rw [nI_len]; exact hlt)
      have hrk := hrc k (by rw [nI_len]; exact hlt)
      rw [nI_get hlt] at hrk
      have hj := kids_at hlt
      have hsb := HKS.out k
      have hsb2 := HKS.out (k + 1)
      have hnx := raS_take (L := L) hlt
      clear hrc hrf
      obtain ⟨j, hjj⟩ : ∃ j, j = (kids L i)[k]?.getD 0 := ⟨_, rfl⟩
      rw [← hjj] at hrk hj hnx
      clear hjj
      obtain ⟨g, off, hgo, hg, hcs⟩ := crow (HR.out.below HB1.out) hj
      obtain ⟨rfl, rfl⟩ : gi = g ∧ oi = off := by
        injection hgo with h
        injection h with h1 h2
        exact ⟨h1, h2⟩
      obtain ⟨c0, c1, c2, c3, c4, c5, c6, c7⟩ := hcs j hj
      have hxr := HRA.out j hj
      have b1 : w1.cell? ⟨w.heap.size, 1, none⟩ = some (.slice (some ⟨gi, oi, none⟩) n cap) := HX.out.cell 1
      have j0 : (0 : Int) ≤ (j : Int) := by omega
      have j1 : (j : Int) < (n : Int) := by have := HL.out; omega
      have jk : (k : Int) < ((kids L i).length : Int) := by omega
      have hk5 : IntKind.i64.wrap ((k : Int) + 1) = (k : Int) + 1 := IntWalk.i64_in _ (by have := HKL.out; omega)
      clear hcs
      have hs2 : raS L ((kids L i).take k) = r0 - s := by omega
      rw [hs2] at hsb hnx
      rw [hnx] at hsb2
      generalize cat L j = x at *
      have hw : IntKind.i64.wrap (s - x.ra) = s - x.ra := IntWalk.i64_in _ (by omega)
      have HN2 := Lib.hid (show s - x.ra = r0 - raS L ((kids L i).take (k + 1)) by omega)
      clear hs hs2 hnx hsb hsb2
      go_wp2_with fail
      go_roundw
      case rel => exact ⟨k + 1, _, by omega, by go_num, HN2.out, rfl, trivial⟩
      case measure => simp [intOf]; omega
    · obtain rfl : k = (kids L i).length := by omega
      have HS := Lib.hid (show s = r0 - ks L i from by rw [hs, List.take_length]; rfl)
      have jk : ¬ (((kids L i).length : Nat) : Int) < ((kids L i).length : Int) := by omega
      clear hs
      go_wp2_with fail
      go_ret
      exact ⟨by rw [← HR0.out, ← HS.out]; rfl, HB1.out⟩
end Go.Proofs.YtjajddhedahpnaaDoor
