/- The contracts of FlowSizes. -/
import Derived.Test.YthdgibgimdkffaaFlow
import Derived.Test.YthdgibgimdkffaaInts
namespace Go.Proofs.Ythdgibgimdkffaa
open Go.ChangeShapes Go.WideShapes Go.ChangeAt Go.RowKit
set_option linter.unusedVariables false
/-- The sums of the flows behind k packets. -/
def fsz (L : List Pk) (f : Nat) : Nat → List Int
  | 0 => List.replicate f 0
  | k + 1 => (fsz L f k).set (flw (pat L k) f).toNat ((fsz L f k)[(flw (pat L k) f).toNat]?.getD 0 + (pat L k).si)
theorem fsz_len (L : List Pk) (f : Nat) : ∀ k, (fsz L f k).length = f
  | 0 => by simp [fsz]
  | k + 1 => by simp [fsz, fsz_len L f k]
theorem fsz_b {L : List Pk} {f : Nat} (h : SzOk L) : ∀ k : Nat, k ≤ L.length → ∀ j : Nat, 0 ≤ (fsz L f k)[j]?.getD 0 ∧ (fsz L f k)[j]?.getD 0 ≤ k * 1500
  | 0, _, j => by
    rw [fsz, List.getElem?_replicate]
    split <;> simp
  | k + 1, hk, j => by
    have ih := fsz_b (f := f) h k (by omega)
    have e := List.getElem?_eq_getElem (show k < L.length by omega)
    have h1 := h k _ e
    rw [← pat_of e] at h1
    rw [fsz, List.getElem?_set]
    have h2 := ih j
    have h3 := ih (flw (pat L k) f).toNat
    split
    · split
      · simp only [Option.getD_some]; omega
      · simp; omega
    · omega
def flok (f : Int) : Bool := decide (1 ≤ f ∧ f ≤ 64)
theorem flok_iff {f : Int} : flok f = true ↔ 1 ≤ f ∧ f ≤ 64 := by simp [flok]
theorem pkFlows_any (f : Int) (w : World) : Calls Try.prog 32 #[.int .i64 f] w fun e w' => e = .returned (.bool (flok f)) ∧ w = w' := by
  go_enter Try.func32, Try.ntmps32
  go_wp2_with (go_at_call 36; refine (l1In_any _ _ _ _).mono ?_; rintro e w' ⟨rfl, rfl⟩)
  go_ret
  exact ⟨ret_b (by rw [Bool.eq_iff_iff]; simp [flok]), rfl⟩
theorem isFlows_any (f : Int) (w : World) : Calls Try.prog 34 #[.int .i64 f] w fun e w' => e = .returned (.bool (flok f)) ∧ w = w' := by
  go_enter Try.func34, Try.ntmps34
  go_wp2
  all_goals
    go_ret
    exact ⟨ret_b (by rw [Bool.eq_iff_iff]; simp [flok]; try omega), rfl⟩
def fsok (L : List Pk) (f : Int) : Bool := pksB L && flok f
def fsR (L : List Pk) (f : Int) : List Int := if fsok L f then fsz L f.toNat L.length else []
set_option maxHeartbeats 2000000 in
theorem specFlowSizes_any (A : Option Addr) (n cap : Nat) (L : List Pk) (f : Int) (w : World) (hl : L.length = n) (hr : IRow w A (fl L)) (hn : n ≤ 1099511627776) :
    Calls Try.prog 17 #[.slice A n cap, .int .i64 f] w (NewIntsB w (fsR L f) (fsok L f)) := by
  have HL := Lib.hid hl
  have HR := Lib.hid hr
  clear hl hr
  rcases h : pksB L with _ | _
  · rw [show fsok L f = false by simp [fsok, h], show fsR L f = [] by simp [fsR, fsok, h]]
    go_enter Try.func17, Try.ntmps17
    go_wp2_with (go_at_call 28; refine (pkList_any _ _ _ _ _ HL.out HR.out hn).mono ?_; rw [h]; rintro e w1 ⟨rfl, hg⟩)
    go_ret2
    exact NewIntsB.none_ rfl hg
  rcases h2 : flok f with _ | _
  · rw [show fsok L f = false by simp [fsok, h2], show fsR L f = [] by simp [fsR, fsok, h2]]
    go_enter Try.func17, Try.ntmps17
    go_wp2_with (first | (go_at_call 28; refine (pkList_any _ _ _ _ _ HL.out HR.out hn).mono ?_; rw [h]; rintro e w1 ⟨rfl, hg⟩) | (go_at_call 32; refine (pkFlows_any _ _).mono ?_; rw [h2]; rintro e w' ⟨rfl, rfl⟩))
    go_ret2
    exact NewIntsB.none_ rfl hg
  have g2 := flok_iff.1 h2
  obtain ⟨m, rfl⟩ : ∃ m : Nat, f = m := ⟨f.toNat, by omega⟩
  rw [show fsok L m = true by simp [fsok, h, h2], show fsR L m = fsz L m n by simp [fsR, fsok, h, h2, HL.out]]
  have hz := Lib.hid (pks_sz h)
  have hn6 : n ≤ 60 := by have := hz.out.1; have := HL.out; omega
  have HOK := Lib.hid (fun (i : Nat) (p : Pk) (hp : L[i]? = some p) => show p.ok = true by
    have h1 := (pksB_iff.1 h).2 i (List.getElem?_eq_some_iff.1 hp).1
    simp only [pgd, Bool.and_eq_true, pat_of hp] at h1
    exact h1.1)
  go_enter Try.func17, Try.ntmps17
  go_wp2_with (first | (go_at_call 28; refine (pkList_any _ _ _ _ _ HL.out HR.out hn).mono ?_; rw [h]; rintro e w1 ⟨rfl, hg⟩; obtain ⟨w2, hmk, ho, hb⟩ := make_ints m (by omega) w1) | (go_at_call 32; refine (pkFlows_any _ _).mono ?_; rw [h2]; rintro e w' ⟨rfl, rfl⟩))
  have HO := Lib.hid ho
  clear hmk ho
  have z2 := hb.size
  go_loopw [21] (fun i wr => ∃ k : Nat, k ≤ n ∧ i = .int .i64 k ∧ IOwn wr w1.heap.size w2.heap.size 3 1 (some ⟨w1.heap.size, 0, none⟩) m m (fsz L m k) ∧ Below w.heap.size w wr ∧ w2.heap.size ≤ wr.heap.size) (fun i _ => n - (intOf i).toNat)
  case atStart => exact ⟨0, Nat.zero_le _, rfl, HO.out, bt hg hb, Nat.le_refl _⟩
  case round =>
    obtain ⟨k, hk, rfl, hown, hbw, hsz⟩ := hrel
    by_cases hlt : k < n
    · obtain ⟨g, off, p, rfl, hgg, hpk, c0, c1, c2, c3, c4, c5⟩ := pk_at (HR.out.below hbw) (k := k) (by have := HL.out; omega)
      have hpo := HOK.out k p hpk
      have hps := Pk.ok_iff.1 hpo
      have HE := Lib.hid (show fsz L m (k + 1) = (fsz L m k).set (flw p m).toNat ((fsz L m k)[(flw p m).toNat]?.getD 0 + p.si) by simp [fsz, pat_of hpk])
      clear hpk
      obtain ⟨j, hj⟩ : ∃ j : Nat, flw p m = j := ⟨(flw p m).toNat, by have := flw_b (p := p) (f := m) (by omega); omega⟩
      have hjm : j < m := by have := flw_b (p := p) (f := m) (by omega); omega
      have HJ := Lib.hid hj
      rw [show (flw p m).toNat = j by omega] at HE
      clear hj
      have fb := fsz_b (f := m) hz.out.2 k (by have := HL.out; omega) j
      have hbl := fsz_len L m k
      obtain ⟨g', hg', _, hg2, hg3, hc2, hf2⟩ := hown.at_ (k := j) (by rw [hbl]; exact hjm)
      injection hg' with hg'
      injection hg' with hg'
      subst hg'
      have q0 := hc2 j (by rw [hbl]; exact hjm)
      have f0 := hf2 j
      clear hc2 hf2 hbl
      have HOW := Lib.hid hown
      clear hown
      generalize (fsz L m k)[j]?.getD 0 = x at *
      have j1 : (0 : Int) ≤ (j : Int) := by omega
      have j2 : (j : Int) < (m : Int) := by omega
      have wx : IntKind.i64.wrap (x + p.si) = x + p.si := IntWalk.i64_in _ (by omega)
      go_wp2_with fail
      have zq : w1.heap.size < wr.heap.size := by omega
      go_region_with ((go_at_call 33; refine (pkFlow_any _ _ _ hpo (by omega) (by omega)).mono ?_; rw [HJ.out]; rintro e w3 ⟨rfl, hb3⟩; have r3 := fun o => bkeep hb3 w1.heap.size o (by simp; omega); have rf3 := fun o => bfree hb3 w1.heap.size o (by simp; omega); have r4 := fun o => bkeep hb3 wr.heap.size o (by simp)))
      all_goals
        clear wx
        have z3 := hb3.size
        (try simp at z3)
        go_wp2_with fail
        go_roundw
        case rel => exact ⟨k + 1, by omega, by go_num, by rw [HE.out]; exact ((HOW.out.alloc _).drew.old hb3).set_ j _, bs (bt (ba hbw _).drew hb3) (show w.heap.size ≤ w1.heap.size from hg.size) _, by simp; omega⟩
        case measure => simp [intOf]; omega
    · obtain rfl : k = n := by omega
      have HOW := Lib.hid hown
      clear hown
      go_wp2_with fail
      go_ret2
      exact ⟨_, _, _, rfl, (HOW.out.lo_le hg.size).here, hbw⟩
set_option maxHeartbeats 2000000 in
theorem implFlowSizes_any (A : Option Addr) (n cap : Nat) (L : List Pk) (f : Int) (w : World) (hl : L.length = n) (hr : IRow w A (fl L)) (hn : n ≤ 1099511627776) :
    Calls Try.prog 18 #[.slice A n cap, .int .i64 f] w (NewIntsB w (fsR L f) (fsok L f)) := by
  have HL := Lib.hid hl
  have HR := Lib.hid hr
  clear hl hr
  rcases h : pksB L with _ | _
  · rw [show fsok L f = false by simp [fsok, h], show fsR L f = [] by simp [fsR, fsok, h]]
    go_enter Try.func18, Try.ntmps18
    go_wp2_with (go_at_call 13; refine (implArePackets_any _ _ _ _ _ HL.out HR.out hn).mono ?_; rw [h]; rintro e w1 ⟨rfl, hg⟩)
    go_ret2
    exact NewIntsB.none_ rfl hg
  rcases h2 : flok f with _ | _
  · rw [show fsok L f = false by simp [fsok, h2], show fsR L f = [] by simp [fsR, fsok, h2]]
    go_enter Try.func18, Try.ntmps18
    go_wp2_with (first | (go_at_call 13; refine (implArePackets_any _ _ _ _ _ HL.out HR.out hn).mono ?_; rw [h]; rintro e w1 ⟨rfl, hg⟩) | (go_at_call 34; refine (isFlows_any _ _).mono ?_; rw [h2]; rintro e w' ⟨rfl, rfl⟩))
    go_ret2
    exact NewIntsB.none_ rfl hg
  have g2 := flok_iff.1 h2
  obtain ⟨m, rfl⟩ : ∃ m : Nat, f = m := ⟨f.toNat, by omega⟩
  rw [show fsok L m = true by simp [fsok, h, h2], show fsR L m = fsz L m n by simp [fsR, fsok, h, h2, HL.out]]
  have hz := Lib.hid (pks_sz h)
  have hn6 : n ≤ 60 := by have := hz.out.1; have := HL.out; omega
  have HOK := Lib.hid (fun (i : Nat) (p : Pk) (hp : L[i]? = some p) => show p.ok = true by
    have h1 := (pksB_iff.1 h).2 i (List.getElem?_eq_some_iff.1 hp).1
    simp only [pgd, Bool.and_eq_true, pat_of hp] at h1
    exact h1.1)
  go_enter Try.func18, Try.ntmps18
  go_wp2_with (first | (go_at_call 13; refine (implArePackets_any _ _ _ _ _ HL.out HR.out hn).mono ?_; rw [h]; rintro e w1 ⟨rfl, hg⟩; obtain ⟨w2, hmk, ho, hb⟩ := make_ints m (by omega) w1) | (go_at_call 34; refine (isFlows_any _ _).mono ?_; rw [h2]; rintro e w' ⟨rfl, rfl⟩))
  have HO := Lib.hid ho
  clear hmk ho
  have z2 := hb.size
  go_loopw [21] (fun i wr => ∃ k : Nat, k ≤ n ∧ i = .int .i64 k ∧ IOwn wr w1.heap.size w2.heap.size 3 1 (some ⟨w1.heap.size, 0, none⟩) m m (fsz L m k) ∧ Below w.heap.size w wr ∧ w2.heap.size ≤ wr.heap.size) (fun i _ => n - (intOf i).toNat)
  case atStart => exact ⟨0, Nat.zero_le _, rfl, HO.out, bt hg hb, Nat.le_refl _⟩
  case round =>
    obtain ⟨k, hk, rfl, hown, hbw, hsz⟩ := hrel
    by_cases hlt : k < n
    · obtain ⟨g, off, p, rfl, hgg, hpk, c0, c1, c2, c3, c4, c5⟩ := pk_at (HR.out.below hbw) (k := k) (by have := HL.out; omega)
      have hpo := HOK.out k p hpk
      have hps := Pk.ok_iff.1 hpo
      have HE := Lib.hid (show fsz L m (k + 1) = (fsz L m k).set (flw p m).toNat ((fsz L m k)[(flw p m).toNat]?.getD 0 + p.si) by simp [fsz, pat_of hpk])
      clear hpk
      obtain ⟨j, hj⟩ : ∃ j : Nat, flw p m = j := ⟨(flw p m).toNat, by have := flw_b (p := p) (f := m) (by omega); omega⟩
      have hjm : j < m := by have := flw_b (p := p) (f := m) (by omega); omega
      have HJ := Lib.hid hj
      rw [show (flw p m).toNat = j by omega] at HE
      clear hj
      have fb := fsz_b (f := m) hz.out.2 k (by have := HL.out; omega) j
      have hbl := fsz_len L m k
      obtain ⟨g', hg', _, hg2, hg3, hc2, hf2⟩ := hown.at_ (k := j) (by rw [hbl]; exact hjm)
      injection hg' with hg'
      injection hg' with hg'
      subst hg'
      have q0 := hc2 j (by rw [hbl]; exact hjm)
      have f0 := hf2 j
      clear hc2 hf2 hbl
      have HOW := Lib.hid hown
      clear hown
      generalize (fsz L m k)[j]?.getD 0 = x at *
      have j1 : (0 : Int) ≤ (j : Int) := by omega
      have j2 : (j : Int) < (m : Int) := by omega
      have wx : IntKind.i64.wrap (x + p.si) = x + p.si := IntWalk.i64_in _ (by omega)
      go_wp2_with fail
      have zq : w1.heap.size < wr.heap.size := by omega
      go_region_with ((go_at_call 35; refine (flowOf_any _ _ _ hpo (by omega) (by omega)).mono ?_; rw [HJ.out]; rintro e w3 ⟨rfl, hb3⟩; have r3 := fun o => bkeep hb3 w1.heap.size o (by simp; omega); have rf3 := fun o => bfree hb3 w1.heap.size o (by simp; omega); have r4 := fun o => bkeep hb3 wr.heap.size o (by simp)))
      all_goals
        clear wx
        have z3 := hb3.size
        (try simp at z3)
        go_wp2_with fail
        go_roundw
        case rel => exact ⟨k + 1, by omega, by go_num, by rw [HE.out]; exact ((HOW.out.alloc _).drew.old hb3).set_ j _, bs (bt (ba hbw _).drew hb3) (show w.heap.size ≤ w1.heap.size from hg.size) _, by simp; omega⟩
        case measure => simp [intOf]; omega
    · obtain rfl : k = n := by omega
      have HOW := Lib.hid hown
      clear hown
      go_wp2_with fail
      go_ret2
      exact ⟨_, _, _, rfl, (HOW.out.lo_le hg.size).here, hbw⟩
end Go.Proofs.Ythdgibgimdkffaa
