/- The contracts of the program's run of a controlled delay. -/
import Derived.Test.YthpcangfbpoglaaRdWalk
namespace Go.Proofs.Ythpcangfbpoglaa
open Go.ChangeShapes Go.WideShapes Go.ChangeAt Go.RowKit
set_option linter.unusedVariables false
set_option maxHeartbeats 1000000 in
theorem arrivedBy_any (A : Option Addr) (n cap : Nat) (l : List Int) (tick : Int) (w : World) (hl : l.length = n) (hr : IRow w A l) (hn : n ≤ 1000000) :
    Calls Try.prog 17 #[.slice A n cap, .int .i64 tick] w fun e w' => e = .returned (.int .i64 (upn l 0 tick : Nat)) ∧ w = w' := by
  have HL := Lib.hid hl
  have HR := Lib.hid hr
  have hub := upn_le l 0 tick
  rw [hl] at hub
  obtain ⟨b, HB⟩ : ∃ b, Hid (upn l 0 tick = b) := ⟨_, Lib.hid rfl⟩
  rw [HB.out] at hub
  clear hl hr
  go_enter Try.func17, Try.ntmps17
  go_wp2_with fail
  go_loop [5] (fun i => ∃ k : Nat, k ≤ b ∧ i = .int .i64 k) (fun i => n - (intOf i).toNat)
  case atStart => exact ⟨0, Nat.zero_le _, rfl⟩
  case round =>
    obtain ⟨k, hk, rfl⟩ := hrel
    by_cases hlt : k < b
    · have hin := upn_in (a := l) (k0 := 0) (j := k) (t := tick) (by rw [HB.out]; exact hlt)
      rw [HL.out, Nat.zero_add] at hin
      obtain ⟨h1, h2⟩ := hin
      obtain ⟨g, off, rfl, hg, hc⟩ := HR.out.at_ (k := k) (by rw [HL.out]; exact h1)
      have hck := hc k (by rw [HL.out]; exact h1)
      clear hc
      have h3 : (k : Int) < (n : Int) := by omega
      go_wp2_with fail
      go_round
      case rel => exact ⟨k + 1, by omega, by go_num⟩
      case measure => simp [intOf]; omega
    · obtain rfl : k = b := by omega
      rcases Nat.lt_or_ge k n with h1 | h1
      · obtain ⟨g, off, rfl, hg, hc⟩ := HR.out.at_ (k := k) (by rw [HL.out]; exact h1)
        have hck := hc k (by rw [HL.out]; exact h1)
        have h2 := upn_out (a := l) (k0 := 0) (t := tick) HB.out (by rw [HL.out]; omega)
        rw [Nat.zero_add] at h2
        clear hc
        have h3 : (k : Int) < (n : Int) := by omega
        go_wp2_with fail
        go_ret
        exact ⟨by rw [HB.out]; rfl, rfl⟩
      · go_wp2_with fail
        go_ret
        exact ⟨by rw [HB.out]; rfl, rfl⟩
/-- The program's next tick. -/
def Nx (a : List Int) (m : Nat) (sv : Int) (k : Nat) (nw next : Int) : Prop := (next = nw ∨ (next = nw + sv ∧ (k < m → nw < a[k]?.getD 0))) ∧ 0 ≤ next ∧ next ≤ 103000
theorem Nx.now {a : List Int} {m : Nat} {sv : Int} {k : Nat} {nw next : Int} (h : Nx a m sv k nw next) (hk : k < m) (h1 : 1 ≤ sv) (hd : sv ∣ nw) {now u : Int} (hn : nwn nw (a[k]?.getD 0) sv = now) (hu : upTo (a[k]?.getD 0) sv = u) : (if next < u then u else next) = now := by
  subst hu
  rw [← hn]
  refine nwn_max h1 hd ?_
  rcases h.1 with e | ⟨e, f⟩
  · exact .inl e
  · exact .inr ⟨e, f hk⟩
theorem ds_cases {t i s : Int} {dr : Bool} {c n now wait : Int} {b : Nat} {x1 : Int} {x2 : Bool} {x3 x4 : Int} {x5 : Bool} {y1 y2 y3 : Int} {y4 : Bool} {y5 y6 : Int} {y7 y8 : Bool}
    (hd : dsR t i s dr c n now wait (b : Int) = (y1, y2, y3, y4, y5, y6, y7, y8)) (hs : stepD t i s dr c n now wait (b : Int) = (x1, x2, x3, x4, x5)) (hk : dok t i s c n = true) (hw : 0 ≤ wait ∧ wait ≤ now) (hb : b ≤ 100000) :
    (y8 = false ∧ (tickP now && dok t i x1 x3 x4) = false) ∨ (y8 = true ∧ y1 = t ∧ y2 = i ∧ y3 = x1 ∧ y4 = x2 ∧ y5 = x3 ∧ y6 = x4 ∧ y7 = x5 ∧ tickP now = true ∧ dok t i x1 x3 x4 = true) := by
  have e2 : dsOk2 t i s dr c n now wait (b : Int) = dok t i x1 x3 x4 := by rw [dsOk2, hs]
  have hbk : tickP (b : Int) = true := by simp [tickP]; omega
  unfold dsR at hd
  rw [e2, hs] at hd
  rcases h1 : tickP now with _ | _
  · have e1 : dsOk t i s c n now wait (b : Int) = false := by simp [dsOk, h1]
    rw [e1] at hd
    simp at hd
    exact .inl ⟨by first | exact hd.2.2.2.2.2.2.2 | exact hd.2.2.2.2.2.2.2.symm, rfl⟩
  · have h2 : 0 ≤ now ∧ now ≤ 100000 := by simpa [tickP] using h1
    have e1 : dsOk t i s c n now wait (b : Int) = true := by
      have : tickP wait = true := by simp [tickP]; omega
      simp [dsOk, h1, hk, hbk, this]
    rw [e1] at hd
    rcases h3 : dok t i x1 x3 x4 with _ | _
    · rw [h3] at hd
      simp at hd
      exact .inl ⟨by first | exact hd.2.2.2.2.2.2.2 | exact hd.2.2.2.2.2.2.2.symm, rfl⟩
    · rw [h3] at hd
      simp at hd
      obtain ⟨a1, a2, a3, a4, a5, a6, a7, a8⟩ := hd
      exact .inr ⟨by simp [a8], a1.symm, a2.symm, a3.symm, a4.symm, a5.symm, a6.symm, a7.symm, rfl, rfl⟩
set_option maxRecDepth 100000 in
set_option maxHeartbeats 4000000 in
theorem implRunDelay_yes (A : Option Addr) (m cap : Nat) (a : List Int) (t i s : Int) (dr : Bool) (c n sv : Int) (w : World) (hl : a.length = m) (hr : IRow w A a) (hg : (dok t i s c n && arrB a && decide (1 ≤ sv ∧ sv ≤ 1000)) = true) :
    Calls Try.prog 7 #[.agg #[.int .i64 t, .int .i64 i, .int .i64 s, .bool dr, .int .i64 c, .int .i64 n], .slice A m cap, .int .i64 sv] w (NewIntsB w (rdR a t i s dr c n sv).1 (rdR a t i s dr c n sv).2) := by
  have HG := Lib.hid hg
  simp only [Bool.and_eq_true, decide_eq_true_eq] at hg
  obtain ⟨⟨hd, hab⟩, hsv⟩ := hg
  have hm40 : m ≤ 40 := by have := (arrB_iff.1 hab).1; omega
  have HAR := Lib.hid (arrB_iff.1 hab).2
  have HAB := Lib.hid hab
  have HL := Lib.hid hl
  have HR := Lib.hid hr
  have HD := Lib.hid hd
  have hs1 : decide (sv < 1) = false := by simp; omega
  have hs2 : decide (1000 < sv) = false := by simp; omega
  clear hl hr hd hab
  go_enter Try.func7, Try.ntmps7
  go_wp2_with (first | (go_at_call 15; refine (implIsDelay_any _ _ _ _ _ _ _).mono ?_; rw [HD.out]; rintro e w1 ⟨rfl, hg⟩; have z1 := hg.size; (try simp at z1)) | (go_at_call 16; refine (areArrivals_any _ _ _ a _ HL.out (HR.out.below (bt (ba (b0 w) _) hg)) (by omega)).mono ?_; rw [HAB.out]; rintro e w' ⟨rfl, rfl⟩))
  have HK1 := Lib.hid (show Bk w1 w.heap.size 27 #[.int .i64 t, .int .i64 i, .int .i64 s, .bool dr, .int .i64 c, .int .i64 n] from (Bk.new _ _ _).old hg)
  have HB1 := Lib.hid (bt (ba (b0 w) _) hg)
  clear hg hs1 hs2
  go_loopw [8, 9] (fun v y wr => ∃ (k : Nat) (nw s' : Int) (dr' : Bool) (c' n' : Int) (C : Option Addr) (p : Nat) (out : List Int) (next : Int), k ≤ m ∧ v = .slice C k p ∧ y = .int .i64 next ∧ RdAt a t i sv s dr c n k nw s' dr' c' n' out ∧ Nx a m sv k nw next ∧ IOwn wr (w.heap.size + 1) wr.heap.size 3 1 C k p out ∧ Bk wr w.heap.size 27 #[.int .i64 t, .int .i64 i, .int .i64 s', .bool dr', .int .i64 c', .int .i64 n'] ∧ Below w.heap.size w wr) (fun v _ _ => match v with | .slice _ k _ => m - k | _ => 0)
  case atStart => exact ⟨0, 0, s, dr, c, n, _, 0, [], 0, Nat.zero_le _, rfl, rfl, RdAt.zero HD.out, ⟨.inl rfl, by omega, by omega⟩, (IOwn.lit0 w1 _ _ _ (by omega)).here, HK1.out.alloc _, ba HB1.out _⟩
  case round =>
    obtain ⟨k, nw, s', dr', c', n', C, p, out, next, hk, rfl, rfl, hrd, hnx, hown, hbk, hbw⟩ := hrel
    have HRD := Lib.hid hrd
    have HNX := Lib.hid hnx
    have HO := Lib.hid hown
    have HK := Lib.hid hbk
    have HBW := Lib.hid hbw
    have hnext : 0 ≤ next ∧ next ≤ 103000 := hnx.2
    clear hrd hown hbk hbw hnx
    have zb := HBW.out.size
    have zk := HK.out.lt
    by_cases hlt : k < m
    rotate_left
    · obtain rfl : k = m := by omega
      have hR := Lib.hid (show rdR a t i s dr c n sv = (out, true) from rd_end (by rw [HL.out]; exact HRD.out.1) HG.out)
      go_wp2_with fail
      go_ret2
      rw [hR.out]
      exact ⟨C, k, p, rfl, HO.out.lo_le (by omega), HBW.out⟩
    obtain ⟨g, off, rfl, hg, hc⟩ := (HR.out.below HBW.out).at_ (k := k) (by rw [HL.out]; exact hlt)
    have hck := hc k (by rw [HL.out]; exact hlt)
    clear hc
    obtain ⟨now, hnow⟩ : ∃ now, nwn nw (a[k]?.getD 0) sv = now := ⟨_, rfl⟩
    obtain ⟨hx, hn1, hn2, hw1, hw2, -⟩ := rd_bounds HAR.out (by rw [HL.out]; exact hm40) (by rw [HL.out]; exact hlt) hsv ⟨HRD.out.2.2.1, HRD.out.2.2.2.1⟩ hnow
    have hup := upTo_ge (x := a[k]?.getD 0) hsv.1
    have HNOW := Lib.hid hnow
    have HT := Lib.hid (upn_gt (t := now) HAR.out (by rw [HL.out]; exact hlt) (by omega))
    have hT2 := upn_le a 0 now
    rw [HL.out] at hT2
    obtain ⟨u, hu2⟩ : ∃ u, upTo (a[k]?.getD 0) sv = u := ⟨_, rfl⟩
    rw [hu2] at hup
    have HMX := Lib.hid (HNX.out.now hlt hsv.1 HRD.out.2.2.2.2 hnow hu2)
    clear hnow
    obtain ⟨T, HTT⟩ : ∃ T, Hid (upn a 0 now = T) := ⟨_, Lib.hid rfl⟩
    rw [HTT.out] at hT2
    have hkT : k < T := by have := HT.out; rw [HTT.out] at this; exact this
    clear HT
    generalize hX : a[k]?.getD 0 = x0 at *
    have HX := Lib.hid hX
    clear hX
    have hu3 : (x0 + sv - 1) / sv * sv = u := hu2
    clear hu2
    have hk1 : (k : Int) < (m : Int) := by omega
    by_cases hgt : next < u
    all_goals
      first
        | rw [if_pos hgt] at HMX
        | rw [if_neg hgt] at HMX
      obtain rfl := HMX.out.symm
      clear HMX
      go_wp2_with (go_at_call 17; refine (arrivedBy_any _ _ _ a _ _ HL.out (HR.out.below HBW.out) (by omega)).mono ?_; rw [HTT.out]; rintro e w' ⟨rfl, rfl⟩)
      obtain ⟨wo, hwo⟩ : ∃ x, x = wr := ⟨_, rfl⟩
      subst hwo
      go_loopw [8] (fun v wq => ∃ (k2 : Nat) (nw2 s2 : Int) (dr2 : Bool) (c2 n2 : Int) (C2 : Option Addr) (p2 : Nat) (out2 : List Int), k ≤ k2 ∧ k2 ≤ T ∧ v = .slice C2 k2 p2 ∧ RdAt a t i sv s dr c n k2 nw2 s2 dr2 c2 n2 out2 ∧ (k2 < T → nwn nw2 (a[k2]?.getD 0) sv = now) ∧ (k2 = T → nw2 = now) ∧ IOwn wq (w.heap.size + 1) wq.heap.size 3 1 C2 k2 p2 out2 ∧ Bk wq w.heap.size 27 #[.int .i64 t, .int .i64 i, .int .i64 s2, .bool dr2, .int .i64 c2, .int .i64 n2] ∧ Below w.heap.size w wq) (fun v _ => match v with | .slice _ k _ => T - k | _ => 0)
      case atStart => exact ⟨k, _, s', dr', c', n', C, p, out, Nat.le_refl _, by omega, rfl, HRD.out, fun _ => by rw [HX.out]; exact HNOW.out, fun e => by omega, HO.out, HK.out, HBW.out⟩
      case round =>
        obtain ⟨k2, nw2, s2, dr2, c2, n2, C2, p2, out2, hkk, hk2, rfl, hrd2, hf1, hf2, hown2, hbk2, hbw2⟩ := hrel
        have HRD2 := Lib.hid hrd2
        have HO2 := Lib.hid hown2
        have HK2 := Lib.hid hbk2
        have HBW2 := Lib.hid hbw2
        have HF1 := Lib.hid hf1
        have HF2 := Lib.hid hf2
        clear hrd2 hown2 hbk2 hbw2 hf1 hf2
        have zb2 := HBW2.out.size
        have zk2 := HK2.out.lt
        by_cases hlt2 : k2 < T
        rotate_left
        · obtain rfl : k2 = T := by omega
          obtain rfl := (HF2.out rfl).symm
          have HE := Lib.hid (fun (h : k2 < m) => show now < a[k2]?.getD 0 by have h2 := upn_end (a := a) (t := now) (by rw [HTT.out, HL.out]; exact h); rwa [HTT.out] at h2)
          go_wp2_with fail
          go_roundw
          case rel => exact ⟨k2, now, s2, dr2, c2, n2, C2, p2, out2, now + sv, by omega, rfl, rfl, HRD2.out, ⟨.inr ⟨rfl, HE.out⟩, by omega, by omega⟩, HO2.out, HK2.out, HBW2.out⟩
          case measure => simp; omega
        have hltm : k2 < m := by omega
        obtain ⟨g2, off2, e', hg2, hc⟩ := (HR.out.below HBW2.out).at_ (k := k2) (by rw [HL.out]; exact hltm)
        injection e' with e'
        injection e' with e1 e2
        subst e1 e2
        have hck2 := hc k2 (by rw [HL.out]; exact hltm)
        clear hc
        have hnow2 := HF1.out hlt2
        obtain ⟨hx2, -, -, hw3, hw4, hu4⟩ := rd_bounds HAR.out (by rw [HL.out]; exact hm40) (by rw [HL.out]; exact hltm) hsv ⟨HRD2.out.2.2.1, HRD2.out.2.2.2.1⟩ hnow2
        have HNOW2 := Lib.hid hnow2
        clear hnow2
        obtain ⟨b, HBV⟩ : ∃ b, Hid (upn a (k2 + 1) now = b) := ⟨_, Lib.hid rfl⟩
        rw [HBV.out] at hu4
        have hTb : T = k2 + 1 + b := by
          have h1 := upn_add (a := a) (t := now) (k0 := 0) k2 (by rw [HTT.out]; omega)
          have h2 := upn_yes (a := a) (t := now) (k := k2) (by rw [HL.out]; exact hltm) (by omega)
          rw [Nat.zero_add, HTT.out] at h1
          rw [HBV.out] at h2
          omega
        have HAT := Lib.hid (fun (h : k2 + 1 < T) => show nwn now (a[k2 + 1]?.getD 0) sv = now by have h2 := upn_at (a := a) (t := now) (k := k2 + 1) (by rw [HTT.out]; exact h); rw [nwn, if_neg (by omega)])
        generalize hX2 : a[k2]?.getD 0 = x at *
        have HX2 := Lib.hid hX2
        clear hX2
        obtain ⟨x1, x2, x3, x4, x5, hst⟩ : ∃ x1 x2 x3 x4 x5, stepD t i s2 dr2 c2 n2 now (now - x) (b : Int) = (x1, x2, x3, x4, x5) := ⟨_, _, _, _, _, rfl⟩
        obtain ⟨y1, y2, y3, y4, y5, y6, y7, y8, hds⟩ : ∃ y1 y2 y3 y4 y5 y6 y7 y8, dsR t i s2 dr2 c2 n2 now (now - x) (b : Int) = (y1, y2, y3, y4, y5, y6, y7, y8) := ⟨_, _, _, _, _, _, _, _, rfl⟩
        have HDC := Lib.hid (ds_cases hds hst HRD2.out.2.1 (by omega) (by omega))
        have HF := Lib.hid (fun (h : (tickP now && dok t i x1 x3 x4) = false) => rd_fail (r := (x1, x2, x3, x4, x5)) HRD2.out.1 (by rw [HX2.out]; exact HNOW2.out) HBV.out (by rw [HX2.out]; exact hst) h (by rw [HL.out]; exact hltm) HG.out)
        have HST := Lib.hid hst
        have HDS := Lib.hid hds
        clear hst hds
        have hk2m : (k2 : Int) < (m : Int) := by omega
        have hk2T : (k2 : Int) < (T : Int) := by omega
        have hwo : 0 ≤ now - x := by omega
        have ws : IntKind.i64.wrap (now - x) = now - x := IntWalk.i64_in _ (by omega)
        have ws2 : IntKind.i64.wrap ((T : Int) - (k2 : Int)) = (T : Int) - (k2 : Int) := IntWalk.i64_in _ (by omega)
        have ws3 : IntKind.i64.wrap ((T : Int) - (k2 : Int) - 1) = (b : Int) := by rw [IntWalk.i64_in _ (by omega)]; omega
        have hb40 : b + 1 ≤ T := by omega
        clear hTb
        have HSX := Lib.hid (show ∀ w' : World, Below wr.heap.size wr w' → (fun w' => w'.cell? ⟨w.heap.size, 0, none⟩ = some (.int .i64 t) ∧ w'.cell? ⟨w.heap.size, 1, none⟩ = some (.int .i64 i) ∧ w'.cell? ⟨w.heap.size, 2, none⟩ = some (.int .i64 s2) ∧ w'.cell? ⟨w.heap.size, 3, none⟩ = some (.bool dr2) ∧ w'.cell? ⟨w.heap.size, 4, none⟩ = some (.int .i64 c2) ∧ w'.cell? ⟨w.heap.size, 5, none⟩ = some (.int .i64 n2) ∧ w'.cell? ⟨g, off + k2, none⟩ = some (.int .i64 x)) w' from fun w' hb => ⟨(bkeep hb _ _ zk2).trans (HK2.out.cell 0), (bkeep hb _ _ zk2).trans (HK2.out.cell 1), (bkeep hb _ _ zk2).trans (HK2.out.cell 2), (bkeep hb _ _ zk2).trans (HK2.out.cell 3), (bkeep hb _ _ zk2).trans (HK2.out.cell 4), (bkeep hb _ _ zk2).trans (HK2.out.cell 5), (bkeep hb _ _ hg2).trans hck2⟩)
        go_wp2_with fail
        go_cut [13, 14, 15] (fun a13 a14 a15 wx => ∃ B : Nat, a13 = .pointer (some ⟨B, 0, none⟩) ∧ a14 = .bool y7 ∧ a15 = .bool y8 ∧ (wr.heap.size ≤ B ∧ Bk wx B 27 #[.int .i64 y1, .int .i64 y2, .int .i64 y3, .bool y4, .int .i64 y5, .int .i64 y6]) ∧ Below wr.heap.size wr wx)
        case first =>
          go_region_held3 (fun w' => w'.cell? ⟨w.heap.size, 0, none⟩ = some (.int .i64 t) ∧ w'.cell? ⟨w.heap.size, 1, none⟩ = some (.int .i64 i) ∧ w'.cell? ⟨w.heap.size, 2, none⟩ = some (.int .i64 s2) ∧ w'.cell? ⟨w.heap.size, 3, none⟩ = some (.bool dr2) ∧ w'.cell? ⟨w.heap.size, 4, none⟩ = some (.int .i64 c2) ∧ w'.cell? ⟨w.heap.size, 5, none⟩ = some (.int .i64 n2) ∧ w'.cell? ⟨g, off + k2, none⟩ = some (.int .i64 x)) (exact HSX.out _ (by repeat (first | (with_reducible exact b0 _) | (with_reducible refine ba ?_ _) | (with_reducible refine bd ?_ _) | (with_reducible refine Below.drew ?_) | (with_reducible refine bsB ?_ (by first | exact Nat.le_refl _ | exact Nat.le_add_right _ _ | omega)) | (with_reducible refine bt ?_ (by assumption)))))
            (first
              | (go_at_call 18; refine (implDelayStep_any _ _ _ _ _ _ _ _ _ _).mono ?_; rw [HDS.out]; rintro e v0 ⟨rfl, hbr0⟩; have zz0 := hbr0.size; (try simp at zz0); (try (have rx0 := fun o => bkeep hbr0 (wr.heap.size) o (by first | omega | (simp; done) | (simp; omega)); have rf0 := fun o => bfree hbr0 (wr.heap.size) o (by first | omega | (simp; done) | (simp; omega))))))
          all_goals (go_wp2_with fail; go_meet; clear HSX; first
            | ((with_reducible refine ⟨v0.heap.size, rfl, rfl, rfl, ?_⟩); (with_reducible refine Fin5.close0 (Fin5.new ?_)); exact (by repeat (first | (with_reducible exact b0 _) | (with_reducible refine ba ?_ _) | (with_reducible refine bd ?_ _) | (with_reducible refine Below.drew ?_) | (with_reducible refine bsB ?_ (by first | exact Nat.le_refl _ | exact Nat.le_add_right _ _ | omega)) | (with_reducible refine bt ?_ (by assumption)))))
            | ((with_reducible refine ⟨wr.heap.size, rfl, rfl, rfl, ?_⟩); (with_reducible refine Fin5.close0 (Fin5.old6 ?_ (show Bk v0 (wr.heap.size) 27 _ from (Bk.new_ rfl).old hbr0) ?_)); all_goals first | omega | exact (by repeat (first | (with_reducible exact b0 _) | (with_reducible refine ba ?_ _) | (with_reducible refine bd ?_ _) | (with_reducible refine Below.drew ?_) | (with_reducible refine bsB ?_ (by first | exact Nat.le_refl _ | exact Nat.le_add_right _ _ | omega)) | (with_reducible refine bt ?_ (by assumption)))))
            | ((with_reducible refine ⟨wr.heap.size, rfl, rfl, rfl, ?_⟩); (with_reducible refine Fin5.close0 (Fin5.old6 ?_ (show Bk v0 (wr.heap.size) 27 _ from (Bk.new_ rfl).drew.old hbr0) ?_)); all_goals first | omega | exact (by repeat (first | (with_reducible exact b0 _) | (with_reducible refine ba ?_ _) | (with_reducible refine bd ?_ _) | (with_reducible refine Below.drew ?_) | (with_reducible refine bsB ?_ (by first | exact Nat.le_refl _ | exact Nat.le_add_right _ _ | omega)) | (with_reducible refine bt ?_ (by assumption))))))
        obtain ⟨w2, hwc⟩ : ∃ x, x = wc := ⟨_, rfl⟩
        subst hwc
        obtain ⟨B, rfl, rfl, rfl, ⟨lb, hkb⟩, hb2⟩ := hcut
        clear HSX ws ws2 ws3
        have z2 := hb2.size
        have HKB := Lib.hid hkb
        have HO3 := Lib.hid (HO2.out.old hb2)
        have HK3 := Lib.hid (HK2.out.old hb2)
        have HBW3 := Lib.hid (bt HBW2.out hb2)
        clear hkb hb2
        rcases HDC.out with ⟨rfl, hfl⟩ | ⟨rfl, rfl, rfl, rfl, rfl, rfl, rfl, rfl, htk, hdk⟩
        · have hR := Lib.hid (HF.out hfl)
          clear hfl HDC HF
          go_wp2_with fail
          go_ret2
          rw [hR.out]
          exact NewIntsB.none_ rfl HBW3.out
        have hnb : 0 ≤ now ∧ now ≤ 100000 := by simpa [tickP] using htk
        have HTK := Lib.hid htk
        have HDK := Lib.hid hdk
        clear htk hdk HDC HF HDS
        have y : Bk w2 (B) 27 #[.int .i64 y1, .int .i64 y2, .int .i64 y3, .bool y4, .int .i64 y5, .int .i64 y6] := HKB.out
        have zy : B < w2.heap.size := y.lt
        have y_0 : w2.cell? ⟨B, 0, none⟩ = some (.int .i64 y1) := y.cell 0
        have y_1 : w2.cell? ⟨B, 1, none⟩ = some (.int .i64 y2) := y.cell 1
        have y_2 : w2.cell? ⟨B, 2, none⟩ = some (.int .i64 y3) := y.cell 2
        have y_3 : w2.cell? ⟨B, 3, none⟩ = some (.bool y4) := y.cell 3
        have y_4 : w2.cell? ⟨B, 4, none⟩ = some (.int .i64 y5) := y.cell 4
        have y_5 : w2.cell? ⟨B, 5, none⟩ = some (.int .i64 y6) := y.cell 5
        have yf := y.free
        have Hy := Lib.hid y
        clear y
        have d : Bk w2 (w.heap.size) 27 #[.int .i64 y1, .int .i64 y2, .int .i64 s2, .bool dr2, .int .i64 c2, .int .i64 n2] := HK3.out
        have zd : w.heap.size < w2.heap.size := d.lt
        have d_0 : w2.cell? ⟨w.heap.size, 0, none⟩ = some (.int .i64 y1) := d.cell 0
        have d_1 : w2.cell? ⟨w.heap.size, 1, none⟩ = some (.int .i64 y2) := d.cell 1
        have d_2 : w2.cell? ⟨w.heap.size, 2, none⟩ = some (.int .i64 s2) := d.cell 2
        have d_3 : w2.cell? ⟨w.heap.size, 3, none⟩ = some (.bool dr2) := d.cell 3
        have d_4 : w2.cell? ⟨w.heap.size, 4, none⟩ = some (.int .i64 c2) := d.cell 4
        have d_5 : w2.cell? ⟨w.heap.size, 5, none⟩ = some (.int .i64 n2) := d.cell 5
        have df := d.free
        have Hd := Lib.hid d
        clear d
        have F := Fin5.old6 (w1 := w) (u0 := .int .i64 y1) (u1 := .int .i64 y2) (u2 := .int .i64 y3) (u3 := .bool y4) (u4 := .int .i64 y5) (u5 := .int .i64 y6) (Nat.le_refl _) HK3.out HBW3.out
        have HFF := Lib.hid F
        clear F
        rcases y7 with _ | _
        · have HN := Lib.hid (HRD2.out.send hsv (by rw [HX2.out]; exact HNOW2.out) HBV.out (by rw [HX2.out]; exact HST.out) HTK.out HDK.out)
          go_wp2_with (at_builtin; refine append_int rfl _ _ rfl (lo := w.heap.size + 1) (l := out2) rfl ((HFF.out.own HO3.out (.inl (by omega))).alloc _) w2.heap.size now rfl ((Bk.new_ (by simp)).cell 0) (by omega) (by simp; omega) ?_; intro C' p' w4 ho4 hb4; have HO4 := Lib.hid ho4; have HB4 := Lib.hid hb4; clear ho4 hb4)
          go_roundw
          case rel => exact ⟨k2 + 1, now + sv, y3, y4, y5, y6, C', p', _, now + sv, by omega, rfl, rfl, HN.out, ⟨.inl rfl, by omega, by omega⟩, HO4.out, (HFF.out.bk.alloc _).below HB4.out (by omega), (ba HFF.out.below _).trans (HB4.out.mono (by omega))⟩
          case measure => simp; omega
        · have HN := Lib.hid (HRD2.out.drop hsv.1 (by rw [HX2.out]; exact HNOW2.out) HBV.out (by rw [HX2.out]; exact HST.out) HTK.out HDK.out)
          go_wp2_with (at_builtin; refine append_int rfl _ _ rfl (lo := w.heap.size + 1) (l := out2) rfl ((HFF.out.own HO3.out (.inl (by omega))).alloc _) w2.heap.size (-1 - now) rfl ((Bk.new_ (by simp)).cell 0) (by omega) (by simp; omega) ?_; intro C' p' w4 ho4 hb4; have HO4 := Lib.hid ho4; have HB4 := Lib.hid hb4; clear ho4 hb4)
          go_roundw
          case rel => exact ⟨k2 + 1, now, y3, y4, y5, y6, C', p', _, by omega, by omega, rfl, HN.out, HAT.out, fun _ => rfl, HO4.out, (HFF.out.bk.alloc _).below HB4.out (by omega), (ba HFF.out.below _).trans (HB4.out.mono (by omega))⟩
          case measure => simp; omega
set_option maxHeartbeats 1000000 in
theorem implRunDelay_any (A : Option Addr) (m cap : Nat) (a : List Int) (t i s : Int) (dr : Bool) (c n sv : Int) (w : World) (hl : a.length = m) (hr : IRow w A a) (hm : m ≤ 9223372036854775807) :
    Calls Try.prog 7 #[.agg #[.int .i64 t, .int .i64 i, .int .i64 s, .bool dr, .int .i64 c, .int .i64 n], .slice A m cap, .int .i64 sv] w (NewIntsB w (rdR a t i s dr c n sv).1 (rdR a t i s dr c n sv).2) := by
  by_cases hg : (dok t i s c n && arrB a && decide (1 ≤ sv ∧ sv ≤ 1000)) = true
  · exact implRunDelay_yes A m cap a t i s dr c n sv w hl hr hg
  have hR := Lib.hid (show rdR a t i s dr c n sv = ([], false) by rw [rdR, if_neg hg])
  have HL := Lib.hid hl
  have HR := Lib.hid (fun (W : World) (hb : Below w.heap.size w W) => hr.below hb)
  clear hl hr
  rw [hR.out]
  rcases h1 : dok t i s c n with _ | _
  · clear hg
    go_enter Try.func7, Try.ntmps7
    go_wp2_with (go_at_call 15; refine (implIsDelay_any _ _ _ _ _ _ _).mono ?_; rw [h1]; rintro e w1 ⟨rfl, hg⟩; have zhg := hg.size; (try simp at zhg); have c0hg := fun o => bkeep hg (w.heap.size) o (by first | omega | (simp; done) | (simp; omega)); have f0hg := fun o => bfree hg (w.heap.size) o (by first | omega | (simp; done) | (simp; omega)))
    go_ret2
    exact NewIntsB.none_ rfl (by repeat (first | (with_reducible exact b0 _) | (with_reducible refine ba ?_ _) | (with_reducible refine bd ?_ _) | (with_reducible refine Below.drew ?_) | (with_reducible refine bs ?_ (by first | exact Nat.le_refl _ | exact Nat.le_add_right _ _ | omega) _) | (with_reducible refine bt ?_ (by assumption))))
  rcases h2 : arrB a with _ | _
  · clear hg
    go_enter Try.func7, Try.ntmps7
    go_wp2_with (first | (go_at_call 15; refine (implIsDelay_any _ _ _ _ _ _ _).mono ?_; rw [h1]; rintro e w1 ⟨rfl, hg⟩; have zhg := hg.size; (try simp at zhg); have c0hg := fun o => bkeep hg (w.heap.size) o (by first | omega | (simp; done) | (simp; omega)); have f0hg := fun o => bfree hg (w.heap.size) o (by first | omega | (simp; done) | (simp; omega))) | (go_at_call 16; refine (areArrivals_any _ _ _ a _ HL.out (HR.out _ (by repeat (first | (with_reducible exact b0 _) | (with_reducible refine ba ?_ _) | (with_reducible refine bd ?_ _) | (with_reducible refine Below.drew ?_) | (with_reducible refine bs ?_ (by first | exact Nat.le_refl _ | exact Nat.le_add_right _ _ | omega) _) | (with_reducible refine bt ?_ (by assumption))))) hm).mono ?_; rw [h2]; rintro e w' ⟨rfl, rfl⟩))
    go_ret2
    exact NewIntsB.none_ rfl (by repeat (first | (with_reducible exact b0 _) | (with_reducible refine ba ?_ _) | (with_reducible refine bd ?_ _) | (with_reducible refine Below.drew ?_) | (with_reducible refine bs ?_ (by first | exact Nat.le_refl _ | exact Nat.le_add_right _ _ | omega) _) | (with_reducible refine bt ?_ (by assumption))))
  have h3 : ¬ (1 ≤ sv ∧ sv ≤ 1000) := by
    intro h
    rw [h1, h2, decide_eq_true h] at hg
    exact hg rfl
  clear hg
  by_cases h4 : sv < 1
  · have h4' : decide (sv < 1) = true := by simp; omega
    go_enter Try.func7, Try.ntmps7
    go_wp2_with (first | (go_at_call 15; refine (implIsDelay_any _ _ _ _ _ _ _).mono ?_; rw [h1]; rintro e w1 ⟨rfl, hg⟩; have zhg := hg.size; (try simp at zhg); have c0hg := fun o => bkeep hg (w.heap.size) o (by first | omega | (simp; done) | (simp; omega)); have f0hg := fun o => bfree hg (w.heap.size) o (by first | omega | (simp; done) | (simp; omega))) | (go_at_call 16; refine (areArrivals_any _ _ _ a _ HL.out (HR.out _ (by repeat (first | (with_reducible exact b0 _) | (with_reducible refine ba ?_ _) | (with_reducible refine bd ?_ _) | (with_reducible refine Below.drew ?_) | (with_reducible refine bs ?_ (by first | exact Nat.le_refl _ | exact Nat.le_add_right _ _ | omega) _) | (with_reducible refine bt ?_ (by assumption))))) hm).mono ?_; rw [h2]; rintro e w' ⟨rfl, rfl⟩))
    go_ret2
    exact NewIntsB.none_ rfl (by repeat (first | (with_reducible exact b0 _) | (with_reducible refine ba ?_ _) | (with_reducible refine bd ?_ _) | (with_reducible refine Below.drew ?_) | (with_reducible refine bs ?_ (by first | exact Nat.le_refl _ | exact Nat.le_add_right _ _ | omega) _) | (with_reducible refine bt ?_ (by assumption))))
  · have h4' : decide (sv < 1) = false := by simp; omega
    have h5' : decide (1000 < sv) = true := by simp; omega
    go_enter Try.func7, Try.ntmps7
    go_wp2_with (first | (go_at_call 15; refine (implIsDelay_any _ _ _ _ _ _ _).mono ?_; rw [h1]; rintro e w1 ⟨rfl, hg⟩; have zhg := hg.size; (try simp at zhg); have c0hg := fun o => bkeep hg (w.heap.size) o (by first | omega | (simp; done) | (simp; omega)); have f0hg := fun o => bfree hg (w.heap.size) o (by first | omega | (simp; done) | (simp; omega))) | (go_at_call 16; refine (areArrivals_any _ _ _ a _ HL.out (HR.out _ (by repeat (first | (with_reducible exact b0 _) | (with_reducible refine ba ?_ _) | (with_reducible refine bd ?_ _) | (with_reducible refine Below.drew ?_) | (with_reducible refine bs ?_ (by first | exact Nat.le_refl _ | exact Nat.le_add_right _ _ | omega) _) | (with_reducible refine bt ?_ (by assumption))))) hm).mono ?_; rw [h2]; rintro e w' ⟨rfl, rfl⟩))
    go_ret2
    exact NewIntsB.none_ rfl (by repeat (first | (with_reducible exact b0 _) | (with_reducible refine ba ?_ _) | (with_reducible refine bd ?_ _) | (with_reducible refine Below.drew ?_) | (with_reducible refine bs ?_ (by first | exact Nat.le_refl _ | exact Nat.le_add_right _ _ | omega) _) | (with_reducible refine bt ?_ (by assumption))))
end Go.Proofs.Ythpcangfbpoglaa
