/- The contracts of the reference's run of a controlled delay. -/
import Derived.Test.YthpcangfbpoglaaRdLaw
import Derived.Test.YthpcangfbpoglaaDbox
import Derived.Deep.RegionHeld3
import Derived.Deep.DeepCutAuto
namespace Go.Proofs.Ythpcangfbpoglaa
open Go.ChangeShapes Go.WideShapes Go.ChangeAt Go.RowKit
set_option linter.unusedVariables false
theorem dok_b {t i s c n : Int} (h : dok t i s c n = true) : (1 ≤ t ∧ t ≤ 10000) ∧ (1 ≤ i ∧ i ≤ 10000) ∧ (-1 ≤ s ∧ s ≤ 110000) ∧ (0 ≤ c ∧ c ≤ 1000) ∧ 0 ≤ n ∧ n ≤ 200000 := by
  have := dok_iff.1 h
  omega
/-- What is known of a run ahead of the step for arrival k. -/
def RdAt (a : List Int) (t i sv s : Int) (dr : Bool) (c n : Int) (k : Nat) (nw s' : Int) (dr' : Bool) (c' n' : Int) (out : List Int) : Prop :=
  rdS a t i sv s dr c n k = some (nw, s', dr', c', n', out) ∧ dok t i s' c' n' = true ∧ 0 ≤ nw ∧ nw ≤ 101000 ∧ sv ∣ nw
theorem RdAt.zero {a : List Int} {t i sv s : Int} {dr : Bool} {c n : Int} (h : dok t i s c n = true) : RdAt a t i sv s dr c n 0 0 s dr c n [] := ⟨rfl, h, by omega, by omega, ⟨0, by simp⟩⟩
theorem upTo_of {x sv : Int} : (x + sv - 1) / sv * sv = upTo x sv := rfl
section
variable {a : List Int} {t i sv s : Int} {dr : Bool} {c n : Int} {k : Nat} {nw s' : Int} {dr' : Bool} {c' n' : Int} {out : List Int} {now : Int} {b : Nat} {s2 : Int} {dr2 : Bool} {c2 n2 : Int}
theorem RdAt.drop (h : RdAt a t i sv s dr c n k nw s' dr' c' n' out) (h1 : 1 ≤ sv) (hnow : nwn nw (a[k]?.getD 0) sv = now) (hb : upn a (k + 1) now = b) (hr : stepD t i s' dr' c' n' now (now - a[k]?.getD 0) b = (s2, dr2, c2, n2, true)) (ht : tickP now = true) (hd : dok t i s2 c2 n2 = true) :
    RdAt a t i sv s dr c n (k + 1) now s2 dr2 c2 n2 (out ++ [-1 - now]) := by
  have hv : sv ∣ now := hnow ▸ nwn_dvd h.2.2.2.2
  have hb2 : 0 ≤ now ∧ now ≤ 100000 := by simpa [tickP] using ht
  exact ⟨rd_drop h.1 hnow hb hr ht hd, hd, by omega, by omega, hv⟩
theorem RdAt.send (h : RdAt a t i sv s dr c n k nw s' dr' c' n' out) (h1 : 1 ≤ sv ∧ sv ≤ 1000) (hnow : nwn nw (a[k]?.getD 0) sv = now) (hb : upn a (k + 1) now = b) (hr : stepD t i s' dr' c' n' now (now - a[k]?.getD 0) b = (s2, dr2, c2, n2, false)) (ht : tickP now = true) (hd : dok t i s2 c2 n2 = true) :
    RdAt a t i sv s dr c n (k + 1) (now + sv) s2 dr2 c2 n2 (out ++ [now]) := by
  have hv : sv ∣ now := hnow ▸ nwn_dvd h.2.2.2.2
  have hb2 : 0 ≤ now ∧ now ≤ 100000 := by simpa [tickP] using ht
  exact ⟨rd_send h.1 hnow hb hr ht hd, hd, by omega, by omega, Int.dvd_add hv (Int.dvd_refl sv)⟩
end
/-- The bounds of a step's numbers. -/
theorem rd_bounds {a : List Int} {sv nw : Int} {k : Nat} {now : Int} (ha : Arr a a.length) (hl : a.length ≤ 40) (hk : k < a.length) (h1 : 1 ≤ sv ∧ sv ≤ 1000) (h0 : 0 ≤ nw ∧ nw ≤ 101000) (hnow : nwn nw (a[k]?.getD 0) sv = now) :
    (0 ≤ a[k]?.getD 0 ∧ a[k]?.getD 0 ≤ 100000) ∧ 0 ≤ now ∧ now ≤ 101000 ∧ 0 ≤ now - a[k]?.getD 0 ∧ now - a[k]?.getD 0 ≤ 101000 ∧ upn a (k + 1) now ≤ 40 := by
  have hx : 0 ≤ a[k]?.getD 0 ∧ a[k]?.getD 0 ≤ 100000 := by have := (ha k hk).1; simpa [tickP] using this
  have hb := nwn_b (x := a[k]?.getD 0) h1.1 h0.1 hx.1
  have hu := upn_le a (k + 1) now
  rw [hnow] at hb
  omega
set_option maxRecDepth 100000 in
set_option maxHeartbeats 4000000 in
theorem cdRun_any (A : Option Addr) (m cap : Nat) (a : List Int) (t i s : Int) (dr : Bool) (c n sv : Int) (w : World) (hl : a.length = m) (hr : IRow w A a) (hg : (dok t i s c n && arrB a && decide (1 ≤ sv ∧ sv ≤ 1000)) = true) :
    Calls Try.prog 14 #[.agg #[.int .i64 t, .int .i64 i, .int .i64 s, .bool dr, .int .i64 c, .int .i64 n], .slice A m cap, .int .i64 sv] w (NewIntsB w (rdR a t i s dr c n sv).1 (rdR a t i s dr c n sv).2) := by
  have HG := Lib.hid hg
  simp only [Bool.and_eq_true, decide_eq_true_eq] at hg
  obtain ⟨⟨hd, hab⟩, hsv⟩ := hg
  have hm40 : m ≤ 40 := by have := (arrB_iff.1 hab).1; omega
  have HAR := Lib.hid (arrB_iff.1 hab).2
  have HL := Lib.hid hl
  have HR := Lib.hid hr
  have HD := Lib.hid hd
  clear hl hr hd hab
  go_enter Try.func14, Try.ntmps14
  go_wp2_with fail
  go_loopw [8, 9] (fun v x wr => ∃ (k : Nat) (nw s' : Int) (dr' : Bool) (c' n' : Int) (C : Option Addr) (p : Nat) (out : List Int), k ≤ m ∧ v = .slice C k p ∧ x = .int .i64 nw ∧ RdAt a t i sv s dr c n k nw s' dr' c' n' out ∧ IOwn wr (w.heap.size + 1) wr.heap.size 3 1 C k p out ∧ Bk wr w.heap.size 27 #[.int .i64 t, .int .i64 i, .int .i64 s', .bool dr', .int .i64 c', .int .i64 n'] ∧ Below w.heap.size w wr) (fun v _ _ => match v with | .slice _ k _ => m - k | _ => 0)
  case atStart => exact ⟨0, 0, s, dr, c, n, none, 0, [], Nat.zero_le _, rfl, rfl, RdAt.zero HD.out, IOwn.none_ _ _ _ _ _, Bk.new _ _ _, ba (b0 _) _⟩
  case round =>
    obtain ⟨k, nw, s', dr', c', n', C, p, out, hk, rfl, rfl, hrd, hown, hbk, hbw⟩ := hrel
    have HRD := Lib.hid hrd
    have HO := Lib.hid hown
    have HK := Lib.hid hbk
    have HBW := Lib.hid hbw
    clear hrd hown hbk hbw
    have zb := HBW.out.size
    have zk := HK.out.lt
    by_cases hlt : k < m
    rotate_left
    · obtain rfl : k = m := by omega
      have hR := Lib.hid (show rdR a t i s dr c n sv = (out, true) from rd_end (by rw [HL.out]; exact HRD.out.1) HG.out)
      go_wp2_with fail
      go_ret2
      rw [hR.out]
      exact ⟨C, k, p, rfl, HO.out.lo_le (by omega), HBW.out⟩
    obtain ⟨g, off, rfl, hg, hc⟩ := (HR.out.below HBW.out).at_ (k := k) (by rw [HL.out]; exact hlt)
    have HC := Lib.hid hc
    have hck := hc k (by rw [HL.out]; exact hlt)
    clear hc
    obtain ⟨now, hnow⟩ : ∃ now, nwn nw (a[k]?.getD 0) sv = now := ⟨_, rfl⟩
    obtain ⟨hx, hn1, hn2, hw1, hw2, hu⟩ := rd_bounds HAR.out (by rw [HL.out]; exact hm40) (by rw [HL.out]; exact hlt) hsv ⟨HRD.out.2.2.1, HRD.out.2.2.2.1⟩ hnow
    have hnwb : 0 ≤ nw ∧ nw ≤ 101000 := ⟨HRD.out.2.2.1, HRD.out.2.2.2.1⟩
    have hup := upTo_ge (x := a[k]?.getD 0) hsv.1
    have HNOW' := Lib.hid hnow
    have HNOW := Lib.hid hnow
    clear hnow
    have hbv : k + 1 + upn a (k + 1) now ≤ m := by have := upn_le a (k + 1) now; rw [HL.out] at this; omega
    obtain ⟨b, HBV⟩ : ∃ b, Hid (upn a (k + 1) now = b) := ⟨_, Lib.hid rfl⟩
    rw [HBV.out] at hu hbv
    generalize hX : a[k]?.getD 0 = x at *
    have HX := Lib.hid hX
    clear hX
    have hxs : 1 ≤ x + sv - 1 + 1 ∧ x + sv - 1 ≤ 101000 := by omega
    obtain ⟨u, hu2⟩ : ∃ u, (x + sv - 1) / sv * sv = u := ⟨_, rfl⟩
    have hub : x ≤ u ∧ u ≤ x + sv - 1 := hu2 ▸ hup
    have HU := Lib.hid hu2
    clear hup
    have hk1 : (k : Int) < (m : Int) := by omega
    by_cases hgt : nw < x
    all_goals
      have HNW : Hid (now = if nw < x then u else nw) := Lib.hid (by rw [← HNOW.out, ← HU.out]; rfl)
      first
        | rw [if_pos hgt] at HNW
        | rw [if_neg hgt] at HNW
      obtain rfl := HNW.out
      clear HNW
      go_wp2_with fail
      go_loop [11, 12] (fun y z => ∃ j : Nat, j ≤ b ∧ y = .int .i64 j ∧ z = .int .i64 ((k + 1 + j : Nat) : Int)) (fun _ z => m - (intOf z).toNat)
      case atStart => exact ⟨0, Nat.zero_le _, rfl, by go_num⟩
      case round =>
        obtain ⟨j, hj, rfl, rfl⟩ := hrel
        by_cases hjb : j < b
        · have hin := upn_in (a := a) (k0 := k + 1) (j := j) (t := now) (by rw [HBV.out]; exact hjb)
          rw [HL.out] at hin
          obtain ⟨hj1, hj2⟩ := hin
          have hcj := HC.out (k + 1 + j) (by rw [HL.out]; exact hj1)
          have hj3 : ((k : Int) + 1 + (j : Int)) < (m : Int) := by omega
          have hj4 : ((k + 1 + j : Nat) : Int) < (m : Int) := by omega
          go_wp2_with fail
          go_round
          case rel => exact ⟨j + 1, by omega, by go_num, by first | rfl | go_num | (congr 1; omega)⟩
          case measure => simp [intOf]; omega
        · obtain rfl : j = b := by omega
          have HOUT := Lib.hid (fun (h : k + 1 + j < m) => upn_out (a := a) (k0 := k + 1) (t := now) HBV.out (by rw [HL.out]; exact h))
          have HFAIL := Lib.hid (fun (x1 : Int) (x2 : Bool) (x3 x4 : Int) (x5 : Bool) (e : stepD t i s' dr' c' n' now (now - x) (j : Int) = (x1, x2, x3, x4, x5)) (h : (tickP now && dok t i x1 x3 x4) = false) => rd_fail (r := (x1, x2, x3, x4, x5)) HRD.out.1 (by rw [HX.out]; exact HNOW'.out) HBV.out (by rw [HX.out]; exact e) h (by rw [HL.out]; exact hlt) HG.out)
          have db := dok_b HRD.out.2.1
          obtain ⟨x1, x2, x3, x4, x5, hst⟩ : ∃ x1 x2 x3 x4 x5, stepD t i s' dr' c' n' now (now - x) (j : Int) = (x1, x2, x3, x4, x5) := ⟨_, _, _, _, _, rfl⟩
          have HF := Lib.hid (HFAIL.out _ _ _ _ _ hst)
          have HST := Lib.hid hst
          clear hst HFAIL
          have k5 := HK.out.cell 0
          have HSX := Lib.hid (show ∀ w' : World, Below wr.heap.size wr w' → (fun w' => w'.cell? ⟨w.heap.size, 0, none⟩ = some (.int .i64 t) ∧ w'.cell? ⟨w.heap.size, 1, none⟩ = some (.int .i64 i) ∧ w'.cell? ⟨w.heap.size, 2, none⟩ = some (.int .i64 s') ∧ w'.cell? ⟨w.heap.size, 3, none⟩ = some (.bool dr') ∧ w'.cell? ⟨w.heap.size, 4, none⟩ = some (.int .i64 c') ∧ w'.cell? ⟨w.heap.size, 5, none⟩ = some (.int .i64 n') ∧ w'.cell? ⟨g, off + k, none⟩ = some (.int .i64 x)) w' from fun w' hb => ⟨(bkeep hb _ _ zk).trans (HK.out.cell 0), (bkeep hb _ _ zk).trans (HK.out.cell 1), (bkeep hb _ _ zk).trans (HK.out.cell 2), (bkeep hb _ _ zk).trans (HK.out.cell 3), (bkeep hb _ _ zk).trans (HK.out.cell 4), (bkeep hb _ _ zk).trans (HK.out.cell 5), (bkeep hb _ _ hg).trans hck⟩)
          rcases Nat.lt_or_ge (k + 1 + j) m with hj1 | hj1
          all_goals
            try have hcj := HC.out (k + 1 + j) (by rw [HL.out]; exact hj1)
            try have hj2 := HOUT.out hj1
            try have hj3 : ((k : Int) + 1 + (j : Int)) < (m : Int) := by omega
            try have hj4 : ((k + 1 + j : Nat) : Int) < (m : Int) := by omega
            try have hj5 : decide ((k : Int) + 1 + (j : Int) < (m : Int)) = false := by simp; omega
            go_wp2_with fail
            refine (cdTick_any _ _).mono ?_
            rintro e w' ⟨rfl, rfl⟩
            rcases htk : tickP now with _ | _
            · have hR := Lib.hid (HF.out (by rw [htk]; rfl))
              go_wp2_with fail
              go_ret2
              rw [hR.out]
              exact NewIntsB.none_ rfl HBW.out
            have hnb : 0 ≤ now ∧ now ≤ 100000 := by simpa [tickP] using htk
            have HTK := Lib.hid htk
            clear htk
            have ws : IntKind.i64.wrap (now - x) = now - x := IntWalk.i64_in _ (by omega)
            go_wp2_with fail
            go_cut [13, 14] (fun a13 a14 wx => ∃ B : Nat, a13 = .pointer (some ⟨B, 0, none⟩) ∧ a14 = .bool x5 ∧ (wr.heap.size ≤ B ∧ Bk wx B 27 #[.int .i64 t, .int .i64 i, .int .i64 x1, .bool x2, .int .i64 x3, .int .i64 x4]) ∧ Below wr.heap.size wr wx)
            case first =>
              go_region_held3 (fun w' => w'.cell? ⟨w.heap.size, 0, none⟩ = some (.int .i64 t) ∧ w'.cell? ⟨w.heap.size, 1, none⟩ = some (.int .i64 i) ∧ w'.cell? ⟨w.heap.size, 2, none⟩ = some (.int .i64 s') ∧ w'.cell? ⟨w.heap.size, 3, none⟩ = some (.bool dr') ∧ w'.cell? ⟨w.heap.size, 4, none⟩ = some (.int .i64 c') ∧ w'.cell? ⟨w.heap.size, 5, none⟩ = some (.int .i64 n') ∧ w'.cell? ⟨g, off + k, none⟩ = some (.int .i64 x)) (exact HSX.out _ (by repeat (first | (with_reducible exact b0 _) | (with_reducible refine ba ?_ _) | (with_reducible refine bd ?_ _) | (with_reducible refine Below.drew ?_) | (with_reducible refine bsB ?_ (by first | exact Nat.le_refl _ | exact Nat.le_add_right _ _ | omega)) | (with_reducible refine bt ?_ (by assumption)))))
                (first
                  | (go_at_call 21; refine (cdStep_any _ _ _ _ _ _ _ _ _ _ (by omega) (by omega) (by omega) (by omega) (by omega) (by omega) (by omega) (by omega) (by omega) (by omega) (by omega) (by omega) (by omega) (by omega) (by omega) (by omega)).mono ?_; rw [HST.out]; rintro e v0 ⟨rfl, hbr0⟩; have zz0 := hbr0.size; (try simp at zz0); (try (have rx0 := fun o => bkeep hbr0 (wr.heap.size) o (by first | omega | (simp; done) | (simp; omega)); have rf0 := fun o => bfree hbr0 (wr.heap.size) o (by first | omega | (simp; done) | (simp; omega))))))
              all_goals (go_wp2_with fail; go_meet; clear HSX; first
                | ((with_reducible refine ⟨v0.heap.size, rfl, rfl, ?_⟩); (with_reducible refine Fin5.close0 (Fin5.new ?_)); exact (by repeat (first | (with_reducible exact b0 _) | (with_reducible refine ba ?_ _) | (with_reducible refine bd ?_ _) | (with_reducible refine Below.drew ?_) | (with_reducible refine bsB ?_ (by first | exact Nat.le_refl _ | exact Nat.le_add_right _ _ | omega)) | (with_reducible refine bt ?_ (by assumption)))))
                | ((with_reducible refine ⟨wr.heap.size, rfl, rfl, ?_⟩); (with_reducible refine Fin5.close0 (Fin5.old6 ?_ (show Bk v0 (wr.heap.size) 27 _ from (Bk.new_ rfl).old hbr0) ?_)); all_goals first | omega | exact (by repeat (first | (with_reducible exact b0 _) | (with_reducible refine ba ?_ _) | (with_reducible refine bd ?_ _) | (with_reducible refine Below.drew ?_) | (with_reducible refine bsB ?_ (by first | exact Nat.le_refl _ | exact Nat.le_add_right _ _ | omega)) | (with_reducible refine bt ?_ (by assumption)))))
                | ((with_reducible refine ⟨wr.heap.size, rfl, rfl, ?_⟩); (with_reducible refine Fin5.close0 (Fin5.old6 ?_ (show Bk v0 (wr.heap.size) 27 _ from (Bk.new_ rfl).drew.old hbr0) ?_)); all_goals first | omega | exact (by repeat (first | (with_reducible exact b0 _) | (with_reducible refine ba ?_ _) | (with_reducible refine bd ?_ _) | (with_reducible refine Below.drew ?_) | (with_reducible refine bsB ?_ (by first | exact Nat.le_refl _ | exact Nat.le_add_right _ _ | omega)) | (with_reducible refine bt ?_ (by assumption))))))
            obtain ⟨w2, hwc⟩ : ∃ x, x = wc := ⟨_, rfl⟩
            subst hwc
            obtain ⟨B, rfl, rfl, ⟨lb, hkb⟩, hb2⟩ := hcut
            clear HSX ws k5
            have z2 := hb2.size
            have HKB := Lib.hid hkb
            have HB2 := Lib.hid hb2
            have HO2 := Lib.hid (HO.out.old hb2)
            have HK2 := Lib.hid (HK.out.old hb2)
            clear hkb hb2
            have y : Bk w2 (B) 27 #[.int .i64 t, .int .i64 i, .int .i64 x1, .bool x2, .int .i64 x3, .int .i64 x4] := HKB.out
            have zy : B < w2.heap.size := y.lt
            have y_0 : w2.cell? ⟨B, 0, none⟩ = some (.int .i64 t) := y.cell 0
            have y_1 : w2.cell? ⟨B, 1, none⟩ = some (.int .i64 i) := y.cell 1
            have y_2 : w2.cell? ⟨B, 2, none⟩ = some (.int .i64 x1) := y.cell 2
            have y_3 : w2.cell? ⟨B, 3, none⟩ = some (.bool x2) := y.cell 3
            have y_4 : w2.cell? ⟨B, 4, none⟩ = some (.int .i64 x3) := y.cell 4
            have y_5 : w2.cell? ⟨B, 5, none⟩ = some (.int .i64 x4) := y.cell 5
            have yf := y.free
            have Hy := Lib.hid y
            clear y
            go_wp2_with fail
            refine (cdGood_any _ _ _ _ _ _ _).mono ?_
            rintro e w3 ⟨rfl, hb3⟩
            have z3 := hb3.size
            have HBW3 := Lib.hid (bt (bt HBW.out HB2.out) hb3)
            have HO3 := Lib.hid (HO2.out.old hb3)
            have HK3 := Lib.hid (HK2.out.old hb3)
            have HKB3 := Lib.hid (HKB.out.old hb3)
            clear hb3 y_0 y_1 y_2 y_3 y_4 y_5 yf zy Hy
            rcases hdk : dok t i x1 x3 x4 with _ | _
            · have hR := Lib.hid (HF.out (by rw [HTK.out, hdk]; rfl))
              go_wp2_with fail
              go_ret2
              rw [hR.out]
              exact NewIntsB.none_ rfl HBW3.out
            have y : Bk w3 (B) 27 #[.int .i64 t, .int .i64 i, .int .i64 x1, .bool x2, .int .i64 x3, .int .i64 x4] := HKB3.out
            have zy : B < w3.heap.size := y.lt
            have y_0 : w3.cell? ⟨B, 0, none⟩ = some (.int .i64 t) := y.cell 0
            have y_1 : w3.cell? ⟨B, 1, none⟩ = some (.int .i64 i) := y.cell 1
            have y_2 : w3.cell? ⟨B, 2, none⟩ = some (.int .i64 x1) := y.cell 2
            have y_3 : w3.cell? ⟨B, 3, none⟩ = some (.bool x2) := y.cell 3
            have y_4 : w3.cell? ⟨B, 4, none⟩ = some (.int .i64 x3) := y.cell 4
            have y_5 : w3.cell? ⟨B, 5, none⟩ = some (.int .i64 x4) := y.cell 5
            have yf := y.free
            have Hy := Lib.hid y
            clear y
            have d : Bk w3 (w.heap.size) 27 #[.int .i64 t, .int .i64 i, .int .i64 s', .bool dr', .int .i64 c', .int .i64 n'] := HK3.out
            have zd : w.heap.size < w3.heap.size := d.lt
            have d_0 : w3.cell? ⟨w.heap.size, 0, none⟩ = some (.int .i64 t) := d.cell 0
            have d_1 : w3.cell? ⟨w.heap.size, 1, none⟩ = some (.int .i64 i) := d.cell 1
            have d_2 : w3.cell? ⟨w.heap.size, 2, none⟩ = some (.int .i64 s') := d.cell 2
            have d_3 : w3.cell? ⟨w.heap.size, 3, none⟩ = some (.bool dr') := d.cell 3
            have d_4 : w3.cell? ⟨w.heap.size, 4, none⟩ = some (.int .i64 c') := d.cell 4
            have d_5 : w3.cell? ⟨w.heap.size, 5, none⟩ = some (.int .i64 n') := d.cell 5
            have df := d.free
            have Hd := Lib.hid d
            clear d
            have HDK := Lib.hid hdk
            clear hdk
            have F := Fin5.old6 (w1 := w) (u0 := .int .i64 t) (u1 := .int .i64 i) (u2 := .int .i64 x1) (u3 := .bool x2) (u4 := .int .i64 x3) (u5 := .int .i64 x4) (Nat.le_refl _) HK3.out HBW3.out
            have HF2 := Lib.hid F
            clear F
            rcases x5 with _ | _
            · have HN := Lib.hid (HRD.out.send hsv (by rw [HX.out]; exact HNOW'.out) HBV.out (by rw [HX.out]; exact HST.out) HTK.out HDK.out)
              go_wp2_with (at_builtin; refine append_int rfl _ _ rfl (lo := w.heap.size + 1) (l := out) rfl ((HF2.out.own HO3.out (.inl (by omega))).alloc _) w3.heap.size now rfl ((Bk.new_ (by simp)).cell 0) (by omega) (by simp; omega) ?_; intro C' p' w4 ho4 hb4; have HO4 := Lib.hid ho4; have HB4 := Lib.hid hb4; clear ho4 hb4)
              go_roundw
              case rel => exact ⟨k + 1, now + sv, x1, x2, x3, x4, C', p', _, by omega, rfl, rfl, HN.out, HO4.out, (HF2.out.bk.alloc _).below HB4.out (by omega), (ba HF2.out.below _).trans (HB4.out.mono (by omega))⟩
              case measure => simp; omega
            · have HN := Lib.hid (HRD.out.drop hsv.1 (by rw [HX.out]; exact HNOW'.out) HBV.out (by rw [HX.out]; exact HST.out) HTK.out HDK.out)
              go_wp2_with (at_builtin; refine append_int rfl _ _ rfl (lo := w.heap.size + 1) (l := out) rfl ((HF2.out.own HO3.out (.inl (by omega))).alloc _) w3.heap.size (-1 - now) rfl ((Bk.new_ (by simp)).cell 0) (by omega) (by simp; omega) ?_; intro C' p' w4 ho4 hb4; have HO4 := Lib.hid ho4; have HB4 := Lib.hid hb4; clear ho4 hb4)
              go_roundw
              case rel => exact ⟨k + 1, now, x1, x2, x3, x4, C', p', _, by omega, rfl, rfl, HN.out, HO4.out, (HF2.out.bk.alloc _).below HB4.out (by omega), (ba HF2.out.below _).trans (HB4.out.mono (by omega))⟩
              case measure => simp; omega
set_option maxHeartbeats 1000000 in
theorem specRunDelay_any (A : Option Addr) (m cap : Nat) (a : List Int) (t i s : Int) (dr : Bool) (c n sv : Int) (w : World) (hl : a.length = m) (hr : IRow w A a) (hm : m ≤ 9223372036854775807) :
    Calls Try.prog 4 #[.agg #[.int .i64 t, .int .i64 i, .int .i64 s, .bool dr, .int .i64 c, .int .i64 n], .slice A m cap, .int .i64 sv] w (NewIntsB w (rdR a t i s dr c n sv).1 (rdR a t i s dr c n sv).2) := by
  have HL := Lib.hid hl
  have HR := Lib.hid (fun (W : World) (hb : Below w.heap.size w W) => hr.below hb)
  clear hl hr
  rcases h1 : dok t i s c n with _ | _
  · have hR := Lib.hid (show rdR a t i s dr c n sv = ([], false) by simp [rdR, h1])
    rw [hR.out]
    go_enter Try.func4, Try.ntmps4
    go_wp2_with (go_at_call 11; refine (cdGood_any _ _ _ _ _ _ _).mono ?_; rw [h1]; rintro e w1 ⟨rfl, hg⟩; have zhg := hg.size; (try simp at zhg); have c0hg := fun o => bkeep hg (w.heap.size) o (by first | omega | (simp; done) | (simp; omega)); have f0hg := fun o => bfree hg (w.heap.size) o (by first | omega | (simp; done) | (simp; omega)))
    go_ret2
    exact NewIntsB.none_ rfl (by repeat (first | (with_reducible exact b0 _) | (with_reducible refine ba ?_ _) | (with_reducible refine bd ?_ _) | (with_reducible refine Below.drew ?_) | (with_reducible refine bs ?_ (by first | exact Nat.le_refl _ | exact Nat.le_add_right _ _ | omega) _) | (with_reducible refine bt ?_ (by assumption))))
  rcases h2 : arrB a with _ | _
  · have hR := Lib.hid (show rdR a t i s dr c n sv = ([], false) by simp [rdR, h2])
    rw [hR.out]
    go_enter Try.func4, Try.ntmps4
    go_wp2_with (first | (go_at_call 11; refine (cdGood_any _ _ _ _ _ _ _).mono ?_; rw [h1]; rintro e w1 ⟨rfl, hg⟩; have zhg := hg.size; (try simp at zhg); have c0hg := fun o => bkeep hg (w.heap.size) o (by first | omega | (simp; done) | (simp; omega)); have f0hg := fun o => bfree hg (w.heap.size) o (by first | omega | (simp; done) | (simp; omega))) | (go_at_call 12; refine (cdArrivals_any _ _ _ a _ HL.out (HR.out _ (by repeat (first | (with_reducible exact b0 _) | (with_reducible refine ba ?_ _) | (with_reducible refine bd ?_ _) | (with_reducible refine Below.drew ?_) | (with_reducible refine bs ?_ (by first | exact Nat.le_refl _ | exact Nat.le_add_right _ _ | omega) _) | (with_reducible refine bt ?_ (by assumption))))) hm).mono ?_; rw [h2]; rintro e w' ⟨rfl, rfl⟩))
    go_ret2
    exact NewIntsB.none_ rfl (by repeat (first | (with_reducible exact b0 _) | (with_reducible refine ba ?_ _) | (with_reducible refine bd ?_ _) | (with_reducible refine Below.drew ?_) | (with_reducible refine bs ?_ (by first | exact Nat.le_refl _ | exact Nat.le_add_right _ _ | omega) _) | (with_reducible refine bt ?_ (by assumption))))
  rcases h3 : decide (1 ≤ sv ∧ sv ≤ 1000) with _ | _
  · have hR := Lib.hid (show rdR a t i s dr c n sv = ([], false) by simp only [rdR, h3, Bool.and_false, Bool.false_eq_true, if_false])
    rw [hR.out]
    go_enter Try.func4, Try.ntmps4
    go_wp2_with (first | (go_at_call 11; refine (cdGood_any _ _ _ _ _ _ _).mono ?_; rw [h1]; rintro e w1 ⟨rfl, hg⟩; have zhg := hg.size; (try simp at zhg); have c0hg := fun o => bkeep hg (w.heap.size) o (by first | omega | (simp; done) | (simp; omega)); have f0hg := fun o => bfree hg (w.heap.size) o (by first | omega | (simp; done) | (simp; omega))) | (go_at_call 12; refine (cdArrivals_any _ _ _ a _ HL.out (HR.out _ (by repeat (first | (with_reducible exact b0 _) | (with_reducible refine ba ?_ _) | (with_reducible refine bd ?_ _) | (with_reducible refine Below.drew ?_) | (with_reducible refine bs ?_ (by first | exact Nat.le_refl _ | exact Nat.le_add_right _ _ | omega) _) | (with_reducible refine bt ?_ (by assumption))))) hm).mono ?_; rw [h2]; rintro e w' ⟨rfl, rfl⟩) | (go_at_call 13; refine (l1In_any _ _ _ _).mono ?_; rw [h3]; rintro e w' ⟨rfl, rfl⟩))
    go_ret2
    exact NewIntsB.none_ rfl (by repeat (first | (with_reducible exact b0 _) | (with_reducible refine ba ?_ _) | (with_reducible refine bd ?_ _) | (with_reducible refine Below.drew ?_) | (with_reducible refine bs ?_ (by first | exact Nat.le_refl _ | exact Nat.le_add_right _ _ | omega) _) | (with_reducible refine bt ?_ (by assumption))))
  have HG := Lib.hid (show (dok t i s c n && arrB a && decide (1 ≤ sv ∧ sv ≤ 1000)) = true by rw [h1, h2, h3]; rfl)
  go_enter Try.func4, Try.ntmps4
  go_wp2_with (first | (go_at_call 11; refine (cdGood_any _ _ _ _ _ _ _).mono ?_; rw [h1]; rintro e w1 ⟨rfl, hg⟩; have zhg := hg.size; (try simp at zhg); have c0hg := fun o => bkeep hg (w.heap.size) o (by first | omega | (simp; done) | (simp; omega)); have f0hg := fun o => bfree hg (w.heap.size) o (by first | omega | (simp; done) | (simp; omega))) | (go_at_call 12; refine (cdArrivals_any _ _ _ a _ HL.out (HR.out _ (by repeat (first | (with_reducible exact b0 _) | (with_reducible refine ba ?_ _) | (with_reducible refine bd ?_ _) | (with_reducible refine Below.drew ?_) | (with_reducible refine bs ?_ (by first | exact Nat.le_refl _ | exact Nat.le_add_right _ _ | omega) _) | (with_reducible refine bt ?_ (by assumption))))) hm).mono ?_; rw [h2]; rintro e w' ⟨rfl, rfl⟩) | (go_at_call 13; refine (l1In_any _ _ _ _).mono ?_; rw [h3]; rintro e w' ⟨rfl, rfl⟩))
  refine (cdRun_any _ _ _ a _ _ _ _ _ _ _ _ HL.out (HR.out _ (by repeat (first | (with_reducible exact b0 _) | (with_reducible refine ba ?_ _) | (with_reducible refine bd ?_ _) | (with_reducible refine Below.drew ?_) | (with_reducible refine bs ?_ (by first | exact Nat.le_refl _ | exact Nat.le_add_right _ _ | omega) _) | (with_reducible refine bt ?_ (by assumption))))) HG.out).mono ?_
  rintro e w2 ⟨C, k, p, rfl, ho, hb2⟩
  have HO := Lib.hid ho
  clear ho
  have zz := hg.size
  (try simp at zz)
  go_wp2_with fail
  go_ret2
  exact ⟨C, k, p, rfl, HO.out.lo_le (by omega), (by repeat (first | (with_reducible exact b0 _) | (with_reducible refine ba ?_ _) | (with_reducible refine bd ?_ _) | (with_reducible refine Below.drew ?_) | (with_reducible refine bs ?_ (by first | exact Nat.le_refl _ | exact Nat.le_add_right _ _ | omega) _) | (with_reducible refine bt ?_ (by assumption))))⟩
end Go.Proofs.Ythpcangfbpoglaa
