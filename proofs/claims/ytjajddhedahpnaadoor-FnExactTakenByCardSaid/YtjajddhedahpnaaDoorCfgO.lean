/- The contracts of TakenBy, on both sides. (Printed by cfgen7.py.) -/
import Derived.Test.YtjajddhedahpnaaDoorCfgM
namespace Go.Proofs.YtjajddhedahpnaaDoor
open Go.ChangeShapes Go.WideShapes Go.ChangeAt Go.RowKit
set_option linter.unusedVariables false
theorem make_M (M : Nat) (hM : M ≤ 1048576) (w : World) : ∃ w', (Instr.makeSlice 42 (.int .i64 (M : Int)) (.int .i64 (M : Int))).run Tryd.prog w = .ok (.slice (some ⟨w.heap.size, 0, none⟩) M M) w' ∧ IOwn w' w.heap.size w'.heap.size 3 1 (some ⟨w.heap.size, 0, none⟩) M M (List.replicate M 0) ∧ Below w.heap.size w w' := make_ints M hM w
theorem tbR_no1 {nm : ByteArray} {L : List Cl} {F : List Fi} {df : Int} {P : List Pk} (h : cg (nmB nm) L F df = false) : tbR nm L F df P = ([], false) := by unfold tbR; rw [if_neg]; rw [h]; simp
theorem tbR_no2 {nm : ByteArray} {L : List Cl} {F : List Fi} {df : Int} {P : List Pk} (h : pksAll P = false) : tbR nm L F df P = ([], false) := by unfold tbR; rw [if_neg]; rw [h]; simp
theorem tbR_yes {nm : ByteArray} {L : List Cl} {F : List Fi} {df : Int} {P : List Pk} {N : Nat} (h : cg (nmB nm) L F df = true) (h2 : pksAll P = true) (hN : P.length = N) : tbR nm L F df P = (cntTo F P N, true) := by subst hN; unfold tbR; rw [if_pos ⟨h, h2⟩]
set_option maxRecDepth 100000 in
set_option maxHeartbeats 4000000 in
theorem implTakenBy_any (nm : ByteArray) (A : Option Addr) (n cap : Nat) (B : Option Addr) (m capb : Nat) (df : Int) (Q : Option Addr) (N capq : Nat) (L : List Cl) (F : List Fi) (P : List Pk) (w : World) (hl : L.length = n) (hr : IRow w A (flc L)) (hf : F.length = m) (hrf : IRow w B (flf F)) (hp : P.length = N) (hrp : IRow w Q (fl P)) (hN : N ≤ 1048576) (hky : KeysOk w) : Calls Tryd.prog 15 #[.agg #[.string nm, .slice A n cap, .slice B m capb, .int .i64 df], .slice Q N capq] w (TbE w (tbR nm L F df P)) := by
  have HG := Lib.hid (fun W (hb : Below w.heap.size w W) => isConfig_any nm A n cap B m capb df L F W hl (hr.below hb) hf (hrf.below hb) (hky.below hb))
  have HL := Lib.hid hl
  have HR := Lib.hid hr
  have HLF := Lib.hid hf
  have HRF := Lib.hid hrf
  have HLP := Lib.hid hp
  have HRP := Lib.hid hrp
  have HBW := Lib.hid (show Below w.heap.size w (w.alloc (.cells #[.string nm, .slice A n cap, .slice B m capb, .int .i64 df] 34)) from ba (b0 w) _)
  clear hl hr hf hrf hp hrp
  rcases h1 : cg (nmB nm) L F df with _ | _
  · have hR := Lib.hid (tbR_no1 (P := P) h1)
    rw [h1] at HG
    go_enter Tryd.func15, Tryd.ntmps15
    go_wp2_with fail
    refine (HG.out _ HBW.out).mono ?_
    rintro e w1 ⟨rfl, hb1⟩
    go_wp2_with fail
    go_ret2
    exact TbE_no hR.out rfl (bt HBW.out hb1)
  rw [h1] at HG
  have HD := Lib.hid (cg_d h1)
  have HFF := Lib.hid (fun p W (hb : Below w.heap.size w W) => firstFilter_any p B m capb F W HLF.out (HRF.out.below hb) (by have := HD.out.m16; have := HLF.out; omega) HD.out.fo)
  have HEP := Lib.hid (fun W (hb : Below w.heap.size w W) => eachPacket_any Q N capq P W HLP.out (HRP.out.below hb) (by omega))
  rcases h2 : pksAll P with _ | _
  · have hR := Lib.hid (tbR_no2 (nm := nm) (L := L) (F := F) (df := df) h2)
    rw [h2] at HEP
    go_enter Tryd.func15, Tryd.ntmps15
    go_wp2_with fail
    refine (HG.out _ HBW.out).mono ?_
    rintro e w1 ⟨rfl, hb1⟩
    go_wp2_with fail
    refine (HEP.out _ (bt HBW.out hb1)).mono ?_
    rintro e w2 ⟨rfl, hb2⟩
    go_wp2_with fail
    go_ret2
    exact TbE_no hR.out rfl (bt (bt HBW.out hb1) hb2)
  rw [h2] at HEP
  have hR := Lib.hid (tbR_yes h1 h2 HLP.out)
  go_enter Tryd.func15, Tryd.ntmps15
  go_wp2_with fail
  refine (HG.out _ HBW.out).mono ?_
  rintro e w1 ⟨rfl, hb1⟩
  have HX1 := Lib.hid ((Bk.new w 34 #[.string nm, .slice A n cap, .slice B m capb, .int .i64 df]).old hb1)
  have HW1 := Lib.hid (bt HBW.out hb1)
  clear hb1
  go_wp2_with fail
  refine (HEP.out _ HW1.out).mono ?_
  rintro e w2 ⟨rfl, hb2⟩
  have HX2 := Lib.hid (HX1.out.old hb2)
  have HW2 := Lib.hid (bt HW1.out hb2)
  clear hb2
  obtain ⟨M, hM⟩ : ∃ M, M = m + 1 := ⟨_, rfl⟩
  have HMM := Lib.hid hM
  have hm16 : M ≤ 17 := by have := HD.out.m16; have := HLF.out; omega
  obtain ⟨w3, hmk, ho3, hb3⟩ := make_M M (by omega) w2
  have hwM : IntKind.i64.wrap ((m : Int) + 1) = (M : Int) := by rw [IntWalk.i64_in _ (by omega)]; omega
  have HO3 := Lib.hid (show IOwn w3 w2.heap.size w3.heap.size 3 1 (some ⟨w2.heap.size, 0, none⟩) M M (cntTo F P 0) from by rw [cntTo_zero, HLF.out, ← HMM.out]; exact ho3)
  have HX3 := Lib.hid (HX2.out.old hb3)
  have HW3 := Lib.hid (bt HW2.out hb3)
  have z2 : w.heap.size < w2.heap.size := HX2.out.lt
  clear hM ho3 hb3
  have b : Bk w2 (w.heap.size) 34 #[.string nm, .slice A n cap, .slice B m capb, .int .i64 df] := HX2.out
  have zb : w.heap.size < w2.heap.size := b.lt
  have b_0 : w2.cell? ⟨w.heap.size, 0, none⟩ = some (.string nm) := b.cell 0
  have b_1 : w2.cell? ⟨w.heap.size, 1, none⟩ = some (.slice A n cap) := b.cell 1
  have b_2 : w2.cell? ⟨w.heap.size, 2, none⟩ = some (.slice B m capb) := b.cell 2
  have b_3 : w2.cell? ⟨w.heap.size, 3, none⟩ = some (.int .i64 df) := b.cell 3
  have bf := b.free
  have Hb := Lib.hid b
  clear b
  go_wp2_with fail
  clear b_0 b_1 b_2 b_3 bf zb Hb hmk
  go_loopw [25] (fun z wr => ∃ k : Nat, k ≤ N ∧ z = .int .i64 k ∧ IOwn wr w2.heap.size w3.heap.size 3 1 (some ⟨w2.heap.size, 0, none⟩) M M (cntTo F P k) ∧ Bk wr w.heap.size 34 #[.string nm, .slice A n cap, .slice B m capb, .int .i64 df] ∧ Below w.heap.size w wr) (fun z _ => N - (intOf z).toNat)
  case atStart => exact ⟨0, Nat.zero_le _, rfl, HO3.out, HX3.out, HW3.out⟩
  case round =>
    obtain ⟨k, hk, rfl, ho, hbx, hbw⟩ := hrel
    have HO := Lib.hid ho
    have HX := Lib.hid hbx
    have HW := Lib.hid hbw
    have zr : w.heap.size < wr.heap.size := hbx.lt
    clear ho hbx hbw
    by_cases hlt : k < N
    · obtain ⟨g, off, p, rfl, hg, hpk, c0, c1, c2, c3, c4, c5⟩ := pk_at (HRP.out.below HW.out) (k := k) (by have := HLP.out; omega)
      have HPK := Lib.hid hpk
      have hqb := ffst_b F p
      rw [HLF.out] at hqb
      have b : Bk wr (w.heap.size) 34 #[.string nm, .slice A n cap, .slice B m capb, .int .i64 df] := HX.out
      have zb : w.heap.size < wr.heap.size := b.lt
      have b_0 : wr.cell? ⟨w.heap.size, 0, none⟩ = some (.string nm) := b.cell 0
      have b_1 : wr.cell? ⟨w.heap.size, 1, none⟩ = some (.slice A n cap) := b.cell 1
      have b_2 : wr.cell? ⟨w.heap.size, 2, none⟩ = some (.slice B m capb) := b.cell 2
      have b_3 : wr.cell? ⟨w.heap.size, 3, none⟩ = some (.int .i64 df) := b.cell 3
      have bf := b.free
      have Hb := Lib.hid b
      clear b
      clear hpk
      go_wp2_with fail
      refine (HFF.out p _ (ba HW.out _)).mono ?_
      rintro e w5 ⟨rfl, hb5⟩
      have HX5 := Lib.hid ((HX.out.alloc _).old hb5)
      have HO5 := Lib.hid ((HO.out.alloc _).old hb5)
      have HW5 := Lib.hid (bt (ba HW.out _) hb5)
      clear hb5 b_0 b_1 b_2 b_3 bf zb Hb c0 c1 c2 c3 c4 c5
      have z5 : w.heap.size < w5.heap.size := HX5.out.lt
      have b : Bk w5 (w.heap.size) 34 #[.string nm, .slice A n cap, .slice B m capb, .int .i64 df] := HX5.out
      have zb : w.heap.size < w5.heap.size := b.lt
      have b_0 : w5.cell? ⟨w.heap.size, 0, none⟩ = some (.string nm) := b.cell 0
      have b_1 : w5.cell? ⟨w.heap.size, 1, none⟩ = some (.slice A n cap) := b.cell 1
      have b_2 : w5.cell? ⟨w.heap.size, 2, none⟩ = some (.slice B m capb) := b.cell 2
      have b_3 : w5.cell? ⟨w.heap.size, 3, none⟩ = some (.int .i64 df) := b.cell 3
      have bf := b.free
      have Hb := Lib.hid b
      clear b
      by_cases hq : ffst F p < 0
      · have HSQ := Lib.hid (show slt F p = m from by unfold slt; rw [if_pos hq, HLF.out])
        have hjl := slt_lt F p
        have HSL := Lib.hid (show slt F p = m from HSQ.out)
        rw [HSL.out] at hjl
        have hjM : m < M := by have := HMM.out; have := HLF.out; omega
        obtain ⟨gg, hgg, hg1, hg2, hg3, hgc, hgf⟩ := HO5.out.at_ (k := m) (by rw [cntTo_len]; exact hjl)
        obtain rfl : w2.heap.size = gg := by
          injection hgg with h
          injection h with h1 h2
        have hcj := hgc (m) (by rw [cntTo_len]; exact hjl)
        have hfj := hgf (m)
        have hvb := cntTo_b F P k (m)
        have HST := Lib.hid (show cntTo F P (k + 1) = (cntTo F P k).set (m) ((cntTo F P k)[m]?.getD 0 + 1) from by rw [cntTo_succ HPK.out, stp, HSL.out])
        have hwv : IntKind.i64.wrap ((cntTo F P k)[m]?.getD 0 + 1) = (cntTo F P k)[m]?.getD 0 + 1 := IntWalk.i64_in _ (by omega)
        have j0 : (0 : Int) ≤ ((m : Nat) : Int) := by omega
        have j1 : ((m : Nat) : Int) < (M : Int) := by omega
        have HSET := Lib.hid (fun (x : Int) => HO5.out.set_ (m) x)
        clear hgg hgc hgf hvb
        generalize (cntTo F P k)[m]?.getD 0 = v at *
        generalize ffst F p = q at *
        go_wp2_with fail
        go_roundw
        case rel => exact ⟨k + 1, by omega, by go_num, by rw [HST.out]; exact HSET.out _, HX5.out.farB (by omega), bsB HW5.out (by omega)⟩
        case measure => simp [intOf]; omega
      · obtain ⟨jq, hjq⟩ : ∃ j : Nat, ffst F p = (j : Int) := ⟨(ffst F p).toNat, by omega⟩
        have HSQ := Lib.hid (show slt F p = jq from by unfold slt; rw [if_neg hq, hjq, Int.toNat_natCast])
        rw [hjq] at hq hqb
        have hjl := slt_lt F p
        have HSL := Lib.hid (show slt F p = jq from HSQ.out)
        rw [HSL.out] at hjl
        have hjM : jq < M := by have := HMM.out; have := HLF.out; omega
        obtain ⟨gg, hgg, hg1, hg2, hg3, hgc, hgf⟩ := HO5.out.at_ (k := jq) (by rw [cntTo_len]; exact hjl)
        obtain rfl : w2.heap.size = gg := by
          injection hgg with h
          injection h with h1 h2
        have hcj := hgc (jq) (by rw [cntTo_len]; exact hjl)
        have hfj := hgf (jq)
        have hvb := cntTo_b F P k (jq)
        have HST := Lib.hid (show cntTo F P (k + 1) = (cntTo F P k).set (jq) ((cntTo F P k)[jq]?.getD 0 + 1) from by rw [cntTo_succ HPK.out, stp, HSL.out])
        have hwv : IntKind.i64.wrap ((cntTo F P k)[jq]?.getD 0 + 1) = (cntTo F P k)[jq]?.getD 0 + 1 := IntWalk.i64_in _ (by omega)
        have j0 : (0 : Int) ≤ ((jq : Nat) : Int) := by omega
        have j1 : ((jq : Nat) : Int) < (M : Int) := by omega
        have HSET := Lib.hid (fun (x : Int) => HO5.out.set_ (jq) x)
        clear hgg hgc hgf hvb
        generalize (cntTo F P k)[jq]?.getD 0 = v at *
        rw [hjq]
        clear hjq
        go_wp2_with fail
        go_roundw
        case rel => exact ⟨k + 1, by omega, by go_num, by rw [HST.out]; exact HSET.out _, HX5.out.farB (by omega), bsB HW5.out (by omega)⟩
        case measure => simp [intOf]; omega
    · obtain rfl : k = N := by omega
      have hR := Lib.hid (hR.out)
      have HOF := Lib.hid (IOwn.here (IOwn.lo_le (lo' := w.heap.size) HO.out (by omega)))
      go_wp2_with fail
      go_ret2
      exact TbE_yes hR.out rfl HOF.out HW.out
set_option maxRecDepth 100000 in
set_option maxHeartbeats 4000000 in
theorem specTakenBy_any (nm : ByteArray) (A : Option Addr) (n cap : Nat) (B : Option Addr) (m capb : Nat) (df : Int) (Q : Option Addr) (N capq : Nat) (L : List Cl) (F : List Fi) (P : List Pk) (w : World) (hl : L.length = n) (hr : IRow w A (flc L)) (hf : F.length = m) (hrf : IRow w B (flf F)) (hp : P.length = N) (hrp : IRow w Q (fl P)) (hN : N ≤ 1048576) (hs : nm.size ≤ 1048576) (hm : m ≤ 1048576) : Calls Tryd.prog 13 #[.agg #[.string nm, .slice A n cap, .slice B m capb, .int .i64 df], .slice Q N capq] w (TbE w (tbR nm L F df P)) := by
  have HG := Lib.hid (fun W (hb : Below w.heap.size w W) => cfGood_any nm A n cap B m capb df L F W hl (hr.below hb) hf (hrf.below hb) hs hm)
  have HL := Lib.hid hl
  have HR := Lib.hid hr
  have HLF := Lib.hid hf
  have HRF := Lib.hid hrf
  have HLP := Lib.hid hp
  have HRP := Lib.hid hrp
  have HBW := Lib.hid (show Below w.heap.size w (w.alloc (.cells #[.string nm, .slice A n cap, .slice B m capb, .int .i64 df] 34)) from ba (b0 w) _)
  clear hl hr hf hrf hp hrp
  rcases h1 : cg (nmB nm) L F df with _ | _
  · have hR := Lib.hid (tbR_no1 (P := P) h1)
    rw [h1] at HG
    go_enter Tryd.func13, Tryd.ntmps13
    go_wp2_with fail
    refine (HG.out _ HBW.out).mono ?_
    rintro e w1 ⟨rfl, hb1⟩
    go_wp2_with fail
    go_ret2
    exact TbE_no hR.out rfl (bt HBW.out hb1)
  rw [h1] at HG
  have HD := Lib.hid (cg_d h1)
  have HFF := Lib.hid (fun p W (hb : Below w.heap.size w W) => fiFirst_any p B m capb F W HLF.out (HRF.out.below hb) (by have := HD.out.m16; have := HLF.out; omega) HD.out.fo)
  by_cases h60 : 60 < N
  · have hR := Lib.hid (tbR_no2 (nm := nm) (L := L) (F := F) (df := df) (pksAll_long (P := P) (by have := HLP.out; omega)))
    have g60 : (60 : Int) < (N : Int) := by omega
    go_enter Tryd.func13, Tryd.ntmps13
    go_wp2_with fail
    refine (HG.out _ HBW.out).mono ?_
    rintro e w1 ⟨rfl, hb1⟩
    go_wp2_with fail
    go_ret2
    exact TbE_no hR.out rfl (bt HBW.out hb1)
  have g60 : ¬ (60 : Int) < (N : Int) := by omega
  have HRn := Lib.hid (fun (h : pksAll P = false) => tbR_no2 (nm := nm) (L := L) (F := F) (df := df) h)
  have HRy := Lib.hid (fun (h : ∀ k, k < N → (pat P k).ok = true) => tbR_yes (N := N) h1 (by rw [pksAll_yes HLP.out h]; exact decide_eq_true (by omega)) HLP.out)
  go_enter Tryd.func13, Tryd.ntmps13
  go_wp2_with fail
  refine (HG.out _ HBW.out).mono ?_
  rintro e w2 ⟨rfl, hb2⟩
  have HX2 := Lib.hid ((Bk.new w 34 #[.string nm, .slice A n cap, .slice B m capb, .int .i64 df]).old hb2)
  have HW2 := Lib.hid (bt HBW.out hb2)
  clear hb2
  obtain ⟨M, hM⟩ : ∃ M, M = m + 1 := ⟨_, rfl⟩
  have HMM := Lib.hid hM
  have hm16 : M ≤ 17 := by have := HD.out.m16; have := HLF.out; omega
  obtain ⟨w3, hmk, ho3, hb3⟩ := make_M M (by omega) w2
  have hwM : IntKind.i64.wrap ((m : Int) + 1) = (M : Int) := by rw [IntWalk.i64_in _ (by omega)]; omega
  have HO3 := Lib.hid (show IOwn w3 w2.heap.size w3.heap.size 3 1 (some ⟨w2.heap.size, 0, none⟩) M M (cntTo F P 0) from by rw [cntTo_zero, HLF.out, ← HMM.out]; exact ho3)
  have HX3 := Lib.hid (HX2.out.old hb3)
  have HW3 := Lib.hid (bt HW2.out hb3)
  have z2 : w.heap.size < w2.heap.size := HX2.out.lt
  clear hM ho3 hb3
  have b : Bk w2 (w.heap.size) 34 #[.string nm, .slice A n cap, .slice B m capb, .int .i64 df] := HX2.out
  have zb : w.heap.size < w2.heap.size := b.lt
  have b_0 : w2.cell? ⟨w.heap.size, 0, none⟩ = some (.string nm) := b.cell 0
  have b_1 : w2.cell? ⟨w.heap.size, 1, none⟩ = some (.slice A n cap) := b.cell 1
  have b_2 : w2.cell? ⟨w.heap.size, 2, none⟩ = some (.slice B m capb) := b.cell 2
  have b_3 : w2.cell? ⟨w.heap.size, 3, none⟩ = some (.int .i64 df) := b.cell 3
  have bf := b.free
  have Hb := Lib.hid b
  clear b
  go_wp2_with fail
  clear b_0 b_1 b_2 b_3 bf zb Hb hmk
  go_loopw [27] (fun z wr => ∃ k : Nat, k ≤ N ∧ z = .int .i64 k ∧ IOwn wr w2.heap.size w3.heap.size 3 1 (some ⟨w2.heap.size, 0, none⟩) M M (cntTo F P k) ∧ Bk wr w.heap.size 34 #[.string nm, .slice A n cap, .slice B m capb, .int .i64 df] ∧ Below w.heap.size w wr ∧ (∀ j, j < k → (pat P j).ok = true)) (fun z _ => N - (intOf z).toNat)
  case atStart => exact ⟨0, Nat.zero_le _, rfl, HO3.out, HX3.out, HW3.out, fun j hj => by omega⟩
  case round =>
    obtain ⟨k, hk, rfl, ho, hbx, hbw, hall⟩ := hrel
    have HO := Lib.hid ho
    have HX := Lib.hid hbx
    have HW := Lib.hid hbw
    have HA := Lib.hid hall
    clear hall
    have zr : w.heap.size < wr.heap.size := hbx.lt
    clear ho hbx hbw
    by_cases hlt : k < N
    · obtain ⟨g, off, p, rfl, hg, hpk, c0, c1, c2, c3, c4, c5⟩ := pk_at (HRP.out.below HW.out) (k := k) (by have := HLP.out; omega)
      have HPK := Lib.hid hpk
      have hqb := ffst_b F p
      rw [HLF.out] at hqb
      have b : Bk wr (w.heap.size) 34 #[.string nm, .slice A n cap, .slice B m capb, .int .i64 df] := HX.out
      have zb : w.heap.size < wr.heap.size := b.lt
      have b_0 : wr.cell? ⟨w.heap.size, 0, none⟩ = some (.string nm) := b.cell 0
      have b_1 : wr.cell? ⟨w.heap.size, 1, none⟩ = some (.slice A n cap) := b.cell 1
      have b_2 : wr.cell? ⟨w.heap.size, 2, none⟩ = some (.slice B m capb) := b.cell 2
      have b_3 : wr.cell? ⟨w.heap.size, 3, none⟩ = some (.int .i64 df) := b.cell 3
      have bf := b.free
      have Hb := Lib.hid b
      clear b
      clear hpk
      have hpp := pat_of HPK.out
      rcases hpo : p.ok with _ | _
      · have hR := Lib.hid (HRn.out (pksAll_no (P := P) (k := k) (by have := HLP.out; omega) (by rw [hpp]; exact hpo)))
        clear hpp
        go_wp2_with fail
        refine (pkGood_b hpo _).mono ?_
        rintro e w4 ⟨rfl, hb4⟩
        go_wp2_with fail
        go_ret2
        exact TbE_no hR.out rfl (bt (ba HW.out _) hb4)
      have HA1 := Lib.hid (all_succ (g := fun j => (pat P j).ok) HA.out (show (pat P k).ok = true by rw [hpp]; exact hpo))
      clear hpp
      go_wp2_with fail
      refine (pkGood_b hpo _).mono ?_
      rintro e w4 ⟨rfl, hb4⟩
      have HX4 := Lib.hid ((HX.out.alloc _).old hb4)
      have HO4 := Lib.hid ((HO.out.alloc _).old hb4)
      have HW4 := Lib.hid (bt (ba HW.out _) hb4)
      have HE4 := Lib.hid ((Bk.new wr 36 #[.int .i64 p.id, .int .i64 p.so, .int .i64 p.de, .int .i64 p.po, .int .i64 p.ma, .int .i64 p.si]).old hb4)
      clear hb4 b_0 b_1 b_2 b_3 bf zb Hb c0 c1 c2 c3 c4 c5
      have b : Bk w4 (w.heap.size) 34 #[.string nm, .slice A n cap, .slice B m capb, .int .i64 df] := HX4.out
      have zb : w.heap.size < w4.heap.size := b.lt
      have b_0 : w4.cell? ⟨w.heap.size, 0, none⟩ = some (.string nm) := b.cell 0
      have b_1 : w4.cell? ⟨w.heap.size, 1, none⟩ = some (.slice A n cap) := b.cell 1
      have b_2 : w4.cell? ⟨w.heap.size, 2, none⟩ = some (.slice B m capb) := b.cell 2
      have b_3 : w4.cell? ⟨w.heap.size, 3, none⟩ = some (.int .i64 df) := b.cell 3
      have bf := b.free
      have Hb := Lib.hid b
      clear b
      have y : Bk w4 (wr.heap.size) 36 #[.int .i64 p.id, .int .i64 p.so, .int .i64 p.de, .int .i64 p.po, .int .i64 p.ma, .int .i64 p.si] := HE4.out
      have zy : wr.heap.size < w4.heap.size := y.lt
      have y_0 : w4.cell? ⟨wr.heap.size, 0, none⟩ = some (.int .i64 p.id) := y.cell 0
      have y_1 : w4.cell? ⟨wr.heap.size, 1, none⟩ = some (.int .i64 p.so) := y.cell 1
      have y_2 : w4.cell? ⟨wr.heap.size, 2, none⟩ = some (.int .i64 p.de) := y.cell 2
      have y_3 : w4.cell? ⟨wr.heap.size, 3, none⟩ = some (.int .i64 p.po) := y.cell 3
      have y_4 : w4.cell? ⟨wr.heap.size, 4, none⟩ = some (.int .i64 p.ma) := y.cell 4
      have y_5 : w4.cell? ⟨wr.heap.size, 5, none⟩ = some (.int .i64 p.si) := y.cell 5
      have yf := y.free
      have Hy := Lib.hid y
      clear y
      go_wp2_with fail
      refine (HFF.out p _ HW4.out).mono ?_
      rintro e w5 ⟨rfl, hb5⟩
      have HX5 := Lib.hid (HX4.out.old hb5)
      have HO5 := Lib.hid (HO4.out.old hb5)
      have HW5 := Lib.hid (bt HW4.out hb5)
      clear hb5 b_0 b_1 b_2 b_3 bf zb Hb y_0 y_1 y_2 y_3 y_4 y_5 yf zy Hy
      have z5 : w.heap.size < w5.heap.size := HX5.out.lt
      have b : Bk w5 (w.heap.size) 34 #[.string nm, .slice A n cap, .slice B m capb, .int .i64 df] := HX5.out
      have zb : w.heap.size < w5.heap.size := b.lt
      have b_0 : w5.cell? ⟨w.heap.size, 0, none⟩ = some (.string nm) := b.cell 0
      have b_1 : w5.cell? ⟨w.heap.size, 1, none⟩ = some (.slice A n cap) := b.cell 1
      have b_2 : w5.cell? ⟨w.heap.size, 2, none⟩ = some (.slice B m capb) := b.cell 2
      have b_3 : w5.cell? ⟨w.heap.size, 3, none⟩ = some (.int .i64 df) := b.cell 3
      have bf := b.free
      have Hb := Lib.hid b
      clear b
      by_cases hq : ffst F p < 0
      · have HSQ := Lib.hid (show slt F p = m from by unfold slt; rw [if_pos hq, HLF.out])
        have hjl := slt_lt F p
        have HSL := Lib.hid (show slt F p = m from HSQ.out)
        rw [HSL.out] at hjl
        have hjM : m < M := by have := HMM.out; have := HLF.out; omega
        obtain ⟨gg, hgg, hg1, hg2, hg3, hgc, hgf⟩ := HO5.out.at_ (k := m) (by rw [cntTo_len]; exact hjl)
        obtain rfl : w2.heap.size = gg := by
          injection hgg with h
          injection h with h1 h2
        have hcj := hgc (m) (by rw [cntTo_len]; exact hjl)
        have hfj := hgf (m)
        have hvb := cntTo_b F P k (m)
        have HST := Lib.hid (show cntTo F P (k + 1) = (cntTo F P k).set (m) ((cntTo F P k)[m]?.getD 0 + 1) from by rw [cntTo_succ HPK.out, stp, HSL.out])
        have hwv : IntKind.i64.wrap ((cntTo F P k)[m]?.getD 0 + 1) = (cntTo F P k)[m]?.getD 0 + 1 := IntWalk.i64_in _ (by omega)
        have j0 : (0 : Int) ≤ ((m : Nat) : Int) := by omega
        have j1 : ((m : Nat) : Int) < (M : Int) := by omega
        have HSET := Lib.hid (fun (x : Int) => HO5.out.set_ (m) x)
        clear hgg hgc hgf hvb
        generalize (cntTo F P k)[m]?.getD 0 = v at *
        generalize ffst F p = q at *
        go_wp2_with fail
        go_roundw
        case rel => exact ⟨k + 1, by omega, by go_num, by rw [HST.out]; exact HSET.out _, HX5.out.farB (by omega), bsB HW5.out (by omega), HA1.out⟩
        case measure => simp [intOf]; omega
      · obtain ⟨jq, hjq⟩ : ∃ j : Nat, ffst F p = (j : Int) := ⟨(ffst F p).toNat, by omega⟩
        have HSQ := Lib.hid (show slt F p = jq from by unfold slt; rw [if_neg hq, hjq, Int.toNat_natCast])
        rw [hjq] at hq hqb
        have hjl := slt_lt F p
        have HSL := Lib.hid (show slt F p = jq from HSQ.out)
        rw [HSL.out] at hjl
        have hjM : jq < M := by have := HMM.out; have := HLF.out; omega
        obtain ⟨gg, hgg, hg1, hg2, hg3, hgc, hgf⟩ := HO5.out.at_ (k := jq) (by rw [cntTo_len]; exact hjl)
        obtain rfl : w2.heap.size = gg := by
          injection hgg with h
          injection h with h1 h2
        have hcj := hgc (jq) (by rw [cntTo_len]; exact hjl)
        have hfj := hgf (jq)
        have hvb := cntTo_b F P k (jq)
        have HST := Lib.hid (show cntTo F P (k + 1) = (cntTo F P k).set (jq) ((cntTo F P k)[jq]?.getD 0 + 1) from by rw [cntTo_succ HPK.out, stp, HSL.out])
        have hwv : IntKind.i64.wrap ((cntTo F P k)[jq]?.getD 0 + 1) = (cntTo F P k)[jq]?.getD 0 + 1 := IntWalk.i64_in _ (by omega)
        have j0 : (0 : Int) ≤ ((jq : Nat) : Int) := by omega
        have j1 : ((jq : Nat) : Int) < (M : Int) := by omega
        have HSET := Lib.hid (fun (x : Int) => HO5.out.set_ (jq) x)
        clear hgg hgc hgf hvb
        generalize (cntTo F P k)[jq]?.getD 0 = v at *
        rw [hjq]
        clear hjq
        go_wp2_with fail
        go_roundw
        case rel => exact ⟨k + 1, by omega, by go_num, by rw [HST.out]; exact HSET.out _, HX5.out.farB (by omega), bsB HW5.out (by omega), HA1.out⟩
        case measure => simp [intOf]; omega
    · obtain rfl : k = N := by omega
      have hR := Lib.hid (HRy.out HA.out)
      have HOF := Lib.hid (IOwn.here (IOwn.lo_le (lo' := w.heap.size) HO.out (by omega)))
      go_wp2_with fail
      go_ret2
      exact TbE_yes hR.out rfl HOF.out HW.out
end Go.Proofs.YtjajddhedahpnaaDoor
