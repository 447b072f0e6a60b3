/- The contracts of AreOps. -/
import Derived.Test.YtgcbpooflecbpaaOps2
import Derived.Test.YtgcbpooflecbpaaOw
namespace Go.Proofs.Ytgcbpooflecbpaa
open Go.ChangeShapes Go.WideShapes Go.ChangeAt Go.RowKit
set_option linter.unusedVariables false
theorem ogd_of {L : List Oq} {k : Nat} {o : Oq} (h : L[k]? = some o) : ogd L k = (o.ok && !(decide (o.kd = 1) && oHas L k o.p.id)) := by simp [ogd, oat_of h]
theorem oputs_of {L : List Oq} {k : Nat} {o : Oq} {id : Int} (h : L[k]? = some o) : oputs L id k = (decide (o.kd = 1) && decide (o.p.id = id)) := by simp [oputs, oat_of h]
set_option maxRecDepth 100000 in
set_option maxHeartbeats 2000000 in
theorem implAreOps_any (A : Option Addr) (n cap : Nat) (L : List Oq) (w : World) (hl : L.length = n) (hr : IRow w A (flo L)) (hn : n ≤ 1048576) (hcap : n ≤ cap) :
    Calls Try.prog 16 #[.slice A n cap] w fun e w' => e = .returned (.bool (opsB L)) ∧ Below w.heap.size w w' := by
  have HL := Lib.hid hl
  have HR := Lib.hid hr
  clear hl hr
  go_enter Try.func16, Try.ntmps16
  go_wp2_with fail
  go_loopw [9] (fun i wr => ∃ k : Nat, k ≤ n ∧ i = .int .i64 k ∧ (∀ j, j < k → ogd L j = true) ∧ Below w.heap.size w wr) (fun i _ => n - (intOf i).toNat)
  case atStart => exact ⟨0, Nat.zero_le _, rfl, all_zero, b0 _⟩
  case round =>
    obtain ⟨k, hk, rfl, hall, hbw⟩ := hrel
    have HA := Lib.hid hall
    have HBW := Lib.hid hbw
    clear hall hbw
    by_cases hlt : k < n
    rotate_left
    · obtain rfl : k = n := by omega
      have hR := Lib.hid (show opsB L = decide ((k : Int) ≤ 60) by rw [opsB_yes (by rw [HL.out]; exact HA.out), HL.out]; exact decide_eq_decide.2 (by omega))
      go_wp2_with fail
      go_ret
      exact ⟨by rw [hR.out]; rfl, HBW.out⟩
    obtain ⟨g, off, o, rfl, hg, hok, c0, c1, c2, c3, c4, c5, c6, c7⟩ := oq_at (HR.out.below HBW.out) (k := k) (by have := HL.out; omega)
    have HG := Lib.hid (ogd_of hok)
    have HNO := Lib.hid (fun h => opsB_no (L := L) (k := k) (by have := HL.out; omega) h)
    clear hok
    rcases hoo : o.ok with _ | _
    · have hR := Lib.hid (HNO.out (by rw [HG.out, hoo]; rfl))
      go_wp2_with (go_at_call 52; refine (isOp_b o _ hoo).mono ?_; rintro e w1 ⟨rfl, hg1⟩)
      go_ret
      exact ⟨by rw [hR.out]; rfl, bt (ba HBW.out _) hg1⟩
    have HOO := Lib.hid hoo
    clear hoo
    have k1 : (k : Int) ≤ (cap : Int) := by omega
    have k2 : 0 ≤ (k : Int) := by omega
    go_wp2_with (go_at_call 52; refine (isOp_b o _ HOO.out).mono ?_; rintro e w1 ⟨rfl, hg1⟩)
    have HK := Lib.hid (show Bk w1 wr.heap.size 72 #[.int .i64 o.kd, .int .i64 o.p.id, .int .i64 o.p.so, .int .i64 o.p.de, .int .i64 o.p.po, .int .i64 o.p.ma, .int .i64 o.p.si, .int .i64 o.tk] from (Bk.new _ _ _).old hg1)
    have HB1 := Lib.hid (bt (ba HBW.out _) hg1)
    have z1 := hg1.size
    simp at z1
    clear hg1 c0 c1 c2 c3 c4 c5 c6 c7
    obtain ⟨wo, hwo⟩ : ∃ x, x = wr := ⟨_, rfl⟩
    subst hwo
    go_loopw [21] (fun i wq => ∃ j : Nat, j ≤ k ∧ i = .int .i64 j ∧ (∀ y, y < j → o.kd = 1 → oputs L o.p.id y = false) ∧ Below w1.heap.size w1 wq) (fun i _ => k - (intOf i).toNat)
    case atStart => exact ⟨0, Nat.zero_le _, rfl, fun y hy => by omega, b0 _⟩
    case round =>
      obtain ⟨j, hj, rfl, hnone, hbq⟩ := hrel
      have HNN := Lib.hid hnone
      have HBQ := Lib.hid hbq
      have HB2 := Lib.hid (bt HB1.out hbq)
      have zq := hbq.size
      clear hnone hbq
      by_cases hjk : j < k
      rotate_left
      · obtain rfl : j = k := by omega
        have HS := Lib.hid (all_succ HA.out (show ogd L j = true by
          rw [HG.out, HOO.out]
          rcases h1 : decide (o.kd = 1) with _ | _
          · rfl
          · rw [oHas_iff.2 fun y hy => HNN.out y hy (of_decide_eq_true h1)]
            rfl))
        go_wp2_with fail
        go_roundw
        case rel => exact ⟨j + 1, by omega, by go_num, HS.out, HB2.out⟩
        case measure => simp [intOf]; omega
      obtain ⟨g', off', x, e', hg', hox, d0, d1, d2, d3, d4, d5, d6, d7⟩ := oq_at (HR.out.below HB2.out) (k := j) (by have := HL.out; omega)
      injection e' with e'
      injection e' with e1 e2
      subst e1 e2
      have HX := Lib.hid (fun id => oputs_of (id := id) hox)
      clear hox
      have HKQ := Lib.hid (HK.out.old HBQ.out)
      have b : Bk wr (wo.heap.size) 72 #[.int .i64 o.kd, .int .i64 o.p.id, .int .i64 o.p.so, .int .i64 o.p.de, .int .i64 o.p.po, .int .i64 o.p.ma, .int .i64 o.p.si, .int .i64 o.tk] := HKQ.out
      have zb : wo.heap.size < wr.heap.size := b.lt
      have b_0 : wr.cell? ⟨wo.heap.size, 0, none⟩ = some (.int .i64 o.kd) := b.cell 0
      have b_1 : wr.cell? ⟨wo.heap.size, 1, none⟩ = some (.int .i64 o.p.id) := b.cell 1
      have b_2 : wr.cell? ⟨wo.heap.size, 2, none⟩ = some (.int .i64 o.p.so) := b.cell 2
      have b_3 : wr.cell? ⟨wo.heap.size, 3, none⟩ = some (.int .i64 o.p.de) := b.cell 3
      have b_4 : wr.cell? ⟨wo.heap.size, 4, none⟩ = some (.int .i64 o.p.po) := b.cell 4
      have b_5 : wr.cell? ⟨wo.heap.size, 5, none⟩ = some (.int .i64 o.p.ma) := b.cell 5
      have b_6 : wr.cell? ⟨wo.heap.size, 6, none⟩ = some (.int .i64 o.p.si) := b.cell 6
      have b_7 : wr.cell? ⟨wo.heap.size, 7, none⟩ = some (.int .i64 o.tk) := b.cell 7
      have bf := b.free
      have Hb := Lib.hid b
      clear b
      have hjk' : (j : Int) < (k : Int) := by omega
      by_cases h1 : o.kd = 1
      rotate_left
      · have e1 : (o.kd == 1) = false := by simpa using h1
        have HS := Lib.hid (show ∀ y, y < j + 1 → o.kd = 1 → oputs L o.p.id y = false from fun y hy h => (h1 h).elim)
        go_wp2_with fail
        go_roundw
        case rel => exact ⟨j + 1, by omega, by go_num, HS.out, ba HBQ.out _⟩
        case measure => simp [intOf]; omega
      have e1 : (o.kd == 1) = true := by simpa using h1
      by_cases h2 : x.kd = 1
      rotate_left
      · have e2 : (x.kd == 1) = false := by simpa using h2
        have HS := Lib.hid (show ∀ y, y < j + 1 → o.kd = 1 → oputs L o.p.id y = false from fun y hy h => by
          rcases Nat.lt_succ_iff_lt_or_eq.1 hy with h' | rfl
          · exact HNN.out y h' h
          · rw [HX.out]; simp [h2])
        clear h1
        go_wp2_with fail
        go_roundw
        case rel => exact ⟨j + 1, by omega, by go_num, HS.out, ba HBQ.out _⟩
        case measure => simp [intOf]; omega
      have e2 : (x.kd == 1) = true := by simpa using h2
      by_cases h3 : x.p.id = o.p.id
      rotate_left
      · have e3 : (x.p.id == o.p.id) = false := by simpa using h3
        have HS := Lib.hid (show ∀ y, y < j + 1 → o.kd = 1 → oputs L o.p.id y = false from fun y hy h => by
          rcases Nat.lt_succ_iff_lt_or_eq.1 hy with h' | rfl
          · exact HNN.out y h' h
          · rw [HX.out]; simp [h3])
        clear h1 h2
        go_wp2_with fail
        go_roundw
        case rel => exact ⟨j + 1, by omega, by go_num, HS.out, ba HBQ.out _⟩
        case measure => simp [intOf]; omega
      have e3 : (x.p.id == o.p.id) = true := by simpa using h3
      have hR := Lib.hid (HNO.out (by rw [HG.out, HOO.out, oHas_hit hjk (show oputs L o.p.id j = true by rw [HX.out]; simp [h2, h3])]; simp [h1]))
      clear h1 h2 h3
      go_wp2_with fail
      go_ret
      exact ⟨by rw [hR.out]; rfl, ba HB2.out _⟩
theorem nil_of {p : Pk} (h : p.nil = true) : p.id = 0 ∧ p.so = 0 ∧ p.de = 0 ∧ p.po = 0 ∧ p.ma = 0 ∧ p.si = 0 := by simpa [Pk.nil] using h
theorem mets_put {L : List Oq} {k : Nat} {o : Oq} (h : L[k]? = some o) (h1 : o.kd = 1) : mets L (k + 1) = mets L k ++ [o.p.id] := by
  rw [show mets L (k + 1) = if (oat L k).kd = 1 then mets L k ++ [(oat L k).p.id] else mets L k from rfl, oat_of h, if_pos h1]
theorem mets_skip {L : List Oq} {k : Nat} {o : Oq} (h : L[k]? = some o) (h1 : ¬ o.kd = 1) : mets L (k + 1) = mets L k := by
  rw [show mets L (k + 1) = if (oat L k).kd = 1 then mets L k ++ [(oat L k).p.id] else mets L k from rfl, oat_of h, if_neg h1]
set_option maxRecDepth 100000 in
set_option maxHeartbeats 4000000 in
theorem spOps_any (A : Option Addr) (n cap : Nat) (L : List Oq) (w : World) (hl : L.length = n) (hr : IRow w A (flo L)) (hn : n ≤ 1048576) :
    Calls Try.prog 50 #[.slice A n cap] w fun e w' => e = .returned (.bool (opsB L)) ∧ Below w.heap.size w w' := by
  have HL := Lib.hid hl
  have HR := Lib.hid hr
  clear hl hr
  go_enter Try.func50, Try.ntmps50
  go_wp2_with fail
  go_loopw [3, 9] (fun v i wr => ∃ (k : Nat) (C : Option Addr) (m p : Nat), k ≤ n ∧ i = .int .i64 k ∧ v = .slice C m p ∧ IOwn wr w.heap.size wr.heap.size 3 1 C m p (mets L k) ∧ (∀ j, j < k → ogd L j = true) ∧ Below w.heap.size w wr) (fun _ i _ => n - (intOf i).toNat)
  case atStart => exact ⟨0, none, 0, 0, Nat.zero_le _, rfl, rfl, IOwn.none_ _ _ _ _ _, all_zero, b0 _⟩
  case round =>
    obtain ⟨k, C, m, pp, hk, rfl, rfl, hown, hall, hbw⟩ := hrel
    have HA := Lib.hid hall
    have HBW := Lib.hid hbw
    have HO := Lib.hid hown
    have hmk := mets_len L k
    have hlm := hown.len
    rw [hlm] at hmk
    have HML := Lib.hid hlm
    have zb := hbw.size
    clear hall hbw hown hlm
    by_cases hlt : k < n
    rotate_left
    · obtain rfl : k = n := by omega
      have hR := Lib.hid (show opsB L = decide ((k : Int) ≤ 60) by rw [opsB_yes (by rw [HL.out]; exact HA.out), HL.out]; exact decide_eq_decide.2 (by omega))
      go_wp2_with fail
      go_ret
      exact ⟨by rw [hR.out]; rfl, HBW.out⟩
    obtain ⟨g, off, o, rfl, hg, hok, c0, c1, c2, c3, c4, c5, c6, c7⟩ := oq_at (HR.out.below HBW.out) (k := k) (by have := HL.out; omega)
    have HG := Lib.hid (ogd_of hok)
    have HNO := Lib.hid (fun h => opsB_no (L := L) (k := k) (by have := HL.out; omega) h)
    have HMP := Lib.hid (mets_put hok)
    have HMS := Lib.hid (mets_skip hok)
    clear hok
    have HB2 := Lib.hid (ba (ba HBW.out (.cells #[.int .i64 o.kd, .int .i64 o.p.id, .int .i64 o.p.so, .int .i64 o.p.de, .int .i64 o.p.po, .int .i64 o.p.ma, .int .i64 o.p.si, .int .i64 o.tk] 72)) (.cells #[.int .i64 0, .int .i64 0, .int .i64 0, .int .i64 0, .int .i64 0, .int .i64 0] 49))
    by_cases h1 : o.kd = 1
    · have e1 : (o.kd == 1) = true := by simpa using h1
      have HOK := Lib.hid (show o.ok = (o.p.ok && decide (o.tk = 0)) by rw [Oq.ok, if_pos h1])
      have HH1 := Lib.hid h1
      clear h1
      rcases hp : o.p.ok with _ | _
      · have hR := Lib.hid (HNO.out (by rw [HG.out, HOK.out, hp]; rfl))
        go_wp2_with (go_at_call 75; refine (pkGood_b hp _).mono ?_; rintro e w1 ⟨rfl, hg1⟩; have r1 := fun o => bkeep hg1 wr.heap.size o (by simp; omega); have r2 := fun o => bkeep hg1 (wr.heap.size + 1) o (by simp))
        go_ret
        exact ⟨by rw [hR.out]; rfl, bt HB2.out hg1⟩
      by_cases ht : o.tk = 0
      rotate_left
      · have et : (o.tk != 0) = true := by simpa using ht
        have hR := Lib.hid (HNO.out (by rw [HG.out, HOK.out, hp]; simp [ht]))
        clear ht
        go_wp2_with (go_at_call 75; refine (pkGood_b hp _).mono ?_; rintro e w1 ⟨rfl, hg1⟩; have r1 := fun o => bkeep hg1 wr.heap.size o (by simp; omega); have r2 := fun o => bkeep hg1 (wr.heap.size + 1) o (by simp))
        go_ret
        exact ⟨by rw [hR.out]; rfl, bt HB2.out hg1⟩
      have et : (o.tk != 0) = false := by simpa using ht
      have HT := Lib.hid ht
      clear ht
      rcases hh : oHas L k o.p.id with _ | _
      rotate_left
      · have HHS := Lib.hid (show decide (o.p.id ∈ mets L k) = true by rw [mets_has, hh])
        have hR := Lib.hid (HNO.out (by rw [HG.out, HOK.out, hp, hh, HT.out, HH1.out]; rfl))
        go_wp2_with (first | (go_at_call 75; refine (pkGood_b hp _).mono ?_; rintro e w1 ⟨rfl, hg1⟩; have r1 := fun o => bkeep hg1 wr.heap.size o (by simp; omega); have r2 := fun o => bkeep hg1 (wr.heap.size + 1) o (by simp)) | (go_at_call 77; refine (l1Has_b _ _ _ (mets L k) _ _ (by rw [HML.out]; omega) (((HO.out.alloc _).alloc _).old hg1).row (by omega) HHS.out).mono ?_; rintro e w' ⟨rfl, rfl⟩))
        go_ret
        exact ⟨by rw [hR.out]; rfl, bt HB2.out hg1⟩
      have HHS := Lib.hid (show decide (o.p.id ∈ mets L k) = false by rw [mets_has, hh])
      have HS := Lib.hid (all_succ HA.out (show ogd L k = true by rw [HG.out, HOK.out, hp, hh, HT.out]; simp))
      go_wp2_with (first | (go_at_call 75; refine (pkGood_b hp _).mono ?_; rintro e w1 ⟨rfl, hg1⟩; have z1 := hg1.size; (try simp at z1); have r1 := fun o => bkeep hg1 wr.heap.size o (by simp; omega); have r2 := fun o => bkeep hg1 (wr.heap.size + 1) o (by simp)) | (go_at_call 77; refine (l1Has_b _ _ _ (mets L k) _ _ (by rw [HML.out]; omega) (((HO.out.alloc _).alloc _).old hg1).row (by omega) HHS.out).mono ?_; rintro e w' ⟨rfl, rfl⟩) | (at_builtin; refine append_int rfl _ _ rfl (lo := w.heap.size) (l := mets L k) rfl ((((HO.out.alloc _).alloc _).old hg1).alloc _) w1.heap.size o.p.id rfl ((Bk.new_ rfl).cell 0) (by omega) (by simp; omega) ?_; intro C' c' w4 ho4 hb4; have HO4 := Lib.hid ho4; have HB4 := Lib.hid hb4; clear ho4 hb4))
      go_roundw
      case rel => exact ⟨k + 1, C', m + 1, c', by omega, by go_num, rfl, by rw [HMP.out HH1.out]; exact HO4.out, HS.out, (ba (bt HB2.out hg1) _).trans HB4.out⟩
      case measure => simp [intOf]; omega
    have e1 : (o.kd == 1) = false := by simpa using h1
    by_cases h2 : o.kd = 2
    · have e2 : (o.kd == 2) = true := by simpa using h2
      have HOK := Lib.hid (show o.ok = (o.p.nil && decide (0 ≤ o.tk ∧ o.tk ≤ 10000)) by rw [Oq.ok, if_neg h1, if_pos h2])
      have HH1 := Lib.hid h1
      clear h1 h2
      rcases hp : o.p.nil with _ | _
      · have hR := Lib.hid (HNO.out (by rw [HG.out, HOK.out, hp]; rfl))
        have hpp : ¬ (o.p.id = 0 ∧ o.p.so = 0 ∧ o.p.de = 0 ∧ o.p.po = 0 ∧ o.p.ma = 0 ∧ o.p.si = 0) := of_decide_eq_false hp
        have HPP := Lib.hid hpp
        clear hp hpp
        go_wp2_with fail
        all_goals first
          | (go_ret; exact ⟨by rw [hR.out]; rfl, ba (ba HBW.out _) _⟩)
          | (exfalso; exact HPP.out ⟨by assumption, by assumption, by assumption, by assumption, by assumption, by assumption⟩)
      rcases hc : decide (0 ≤ o.tk ∧ o.tk ≤ 10000) with _ | _
      · have hR := Lib.hid (HNO.out (by rw [HG.out, HOK.out, hp, hc]; rfl))
        obtain ⟨p1, p2, p3, p4, p5, p6⟩ := nil_of hp
        clear hp
        go_wp2_with (go_at_call 60; refine (l1In_b hc _).mono ?_; rintro e w' ⟨rfl, rfl⟩)
        go_ret
        exact ⟨by rw [hR.out]; rfl, ba (ba HBW.out _) _⟩
      · have HS := Lib.hid (all_succ HA.out (show ogd L k = true by rw [HG.out, HOK.out, hp, hc]; simp [HH1.out]))
        obtain ⟨p1, p2, p3, p4, p5, p6⟩ := nil_of hp
        clear hp
        go_wp2_with (go_at_call 60; refine (l1In_b hc _).mono ?_; rintro e w' ⟨rfl, rfl⟩)
        go_roundw
        case rel => exact ⟨k + 1, C, m, pp, by omega, by go_num, rfl, by rw [HMS.out HH1.out]; exact ((HO.out.alloc _).alloc _).here, HS.out, ba (ba HBW.out _) _⟩
        case measure => simp [intOf]; omega
    have e2 : (o.kd == 2) = false := by simpa using h2
    by_cases h3 : o.kd = 3
    · have e3 : (o.kd == 3) = true := by simpa using h3
      have HOK := Lib.hid (show o.ok = (o.p.nil && decide (o.tk = 0)) by rw [Oq.ok, if_neg h1, if_neg h2, if_pos h3])
      have HH1 := Lib.hid h1
      clear h1 h2 h3
      rcases hp : o.p.nil with _ | _
      · have hR := Lib.hid (HNO.out (by rw [HG.out, HOK.out, hp]; rfl))
        have hpp : ¬ (o.p.id = 0 ∧ o.p.so = 0 ∧ o.p.de = 0 ∧ o.p.po = 0 ∧ o.p.ma = 0 ∧ o.p.si = 0) := of_decide_eq_false hp
        have HPP := Lib.hid hpp
        clear hp hpp
        go_wp2_with fail
        all_goals first
          | (go_ret; exact ⟨by rw [hR.out]; rfl, ba (ba HBW.out _) _⟩)
          | (exfalso; exact HPP.out ⟨by assumption, by assumption, by assumption, by assumption, by assumption, by assumption⟩)
      by_cases ht : o.tk = 0
      · have et : (o.tk != 0) = false := by simpa using ht
        have HS := Lib.hid (all_succ HA.out (show ogd L k = true by rw [HG.out, HOK.out, hp]; simp [HH1.out, ht]))
        obtain ⟨p1, p2, p3, p4, p5, p6⟩ := nil_of hp
        clear hp ht
        go_wp2_with fail
        go_roundw
        case rel => exact ⟨k + 1, C, m, pp, by omega, by go_num, rfl, by rw [HMS.out HH1.out]; exact ((HO.out.alloc _).alloc _).here, HS.out, ba (ba HBW.out _) _⟩
        case measure => simp [intOf]; omega
      · have et : (o.tk != 0) = true := by simpa using ht
        have hR := Lib.hid (HNO.out (by rw [HG.out, HOK.out, hp]; simp [ht]))
        obtain ⟨p1, p2, p3, p4, p5, p6⟩ := nil_of hp
        clear hp ht
        go_wp2_with fail
        go_ret
        exact ⟨by rw [hR.out]; rfl, ba (ba HBW.out _) _⟩
    · have e3 : (o.kd == 3) = false := by simpa using h3
      have hR := Lib.hid (HNO.out (by rw [HG.out, show o.ok = false by rw [Oq.ok, if_neg h1, if_neg h2, if_neg h3]]; rfl))
      clear h1 h2 h3
      go_wp2_with fail
      go_ret
      exact ⟨by rw [hR.out]; rfl, ba (ba HBW.out _) _⟩
theorem specAreOps_any (A : Option Addr) (n cap : Nat) (L : List Oq) (w : World) (hl : L.length = n) (hr : IRow w A (flo L)) (hn : n ≤ 1048576) :
    Calls Try.prog 14 #[.slice A n cap] w fun e w' => e = .returned (.bool (opsB L)) ∧ Below w.heap.size w w' := by
  have HL := Lib.hid hl
  have HR := Lib.hid hr
  clear hl hr
  go_enter Try.func14, Try.ntmps14
  go_wp2_with fail
  refine (spOps_any _ _ _ L _ HL.out HR.out hn).mono ?_
  rintro e w1 ⟨rfl, hg⟩
  go_wp2_with fail
  go_ret
  exact ⟨rfl, hg⟩
end Go.Proofs.Ytgcbpooflecbpaa
