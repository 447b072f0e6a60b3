/- The contracts of WorstWindow. -/
import Derived.Test.YtleknfigikpacaaWorst2
namespace Go.Proofs.Ytleknfigikpacaa
open Go.ChangeShapes Go.WideShapes Go.ChangeAt Go.RowKit
set_option linter.unusedVariables false
def fixm (z m : Int) : Int := if m < 0 then z else m
theorem fixm_pos {z m : Int} (h : 0 ≤ m) : fixm z m = m := by simp [fixm]; omega
set_option maxHeartbeats 4000000 in
theorem implWorstWindow_any (r : Int) (A : Option Addr) (n cap : Nat) (l : List Int) (w : World) (hl : l.length = n * 2) (hr : IRow w A l) (hn : n ≤ 1099511627776) :
    Calls Try.prog 33 #[.int .i64 r, .slice A n cap] w fun e w' => e = .returned (wwR l r n) ∧ Below w.heap.size w w' := by
  have HL := Lib.hid hl
  have HR := Lib.hid hr
  clear hl hr
  go_enter Try.func33, Try.ntmps33
  rcases hr0 : decide (0 ≤ r ∧ r ≤ 100000) with _ | _
  · have hR := Lib.hid (wwR_no (l := l) (r := r) (n := n) (by simp only [wwok, hr0, Bool.false_and]))
    go_wp2_with (go_at_call 46; refine (isFlowRate_any _ _).mono ?_; rw [hr0]; rintro e w' ⟨rfl, rfl⟩)
    exact bodyPost_ret (v := .tuple #[.int .i64 0, .int .i64 0, .bool false]) (by simp [results, Try.results33, go_sem]) rfl ⟨by rw [hR.out], b0 _⟩
  rcases hs0 : sesB l n with _ | _
  · have hR := Lib.hid (wwR_no (l := l) (r := r) (n := n) (by simp only [wwok, hs0, Bool.false_and, Bool.and_false]))
    go_wp2_with (first | (go_at_call 46; refine (isFlowRate_any _ _).mono ?_; rw [hr0]; rintro e w' ⟨rfl, rfl⟩) | (go_at_call 59; refine (areSends_any _ _ _ _ _ HL.out HR.out hn).mono ?_; rw [hs0]; rintro e w1 ⟨rfl, hg1⟩))
    exact bodyPost_ret (v := .tuple #[.int .i64 0, .int .i64 0, .bool false]) (by simp [results, Try.results33, go_sem]) rfl ⟨by rw [hR.out], hg1⟩
  by_cases h0 : n = 0
  · have hR := Lib.hid (wwR_no (l := l) (r := r) (n := n) (by simp [wwok, h0]))
    subst h0
    go_wp2_with (first | (go_at_call 46; refine (isFlowRate_any _ _).mono ?_; rw [hr0]; rintro e w' ⟨rfl, rfl⟩) | (go_at_call 59; refine (areSends_any _ _ _ _ _ HL.out HR.out hn).mono ?_; rw [hs0]; rintro e w1 ⟨rfl, hg1⟩))
    exact bodyPost_ret (v := .tuple #[.int .i64 0, .int .i64 0, .bool false]) (by simp [results, Try.results33, go_sem]) rfl ⟨by rw [hR.out], hg1⟩
  · have hR := Lib.hid (wwR_yes (l := l) (r := r) (n := n) (by simp only [wwok, hr0, hs0]; simp [h0]))
    have h0' : ¬ (n : Int) = 0 := by omega
    have h0'' : 0 < (n : Int) := by omega
    have hb0 : ((n : Int) == 0) = false := by simpa using h0'
    have hx := Lib.hid (sesB_iff.1 hs0)
    have hy := Lib.hid (of_decide_eq_true hr0)
    have h1 := hy.out.1
    have h2 := hy.out.2
    have HS := Lib.hid hx.out.2
    have hn6 := hx.out.1
    have pz := Lib.hid (HS.out.sz (k := 0) (by omega))
    go_wp2_with (first | (go_at_call 46; refine (isFlowRate_any _ _).mono ?_; rw [hr0]; rintro e w' ⟨rfl, rfl⟩) | (go_at_call 59; refine (areSends_any _ _ _ _ _ HL.out HR.out hn).mono ?_; rw [hs0]; rintro e w1 ⟨rfl, hg1⟩; obtain ⟨g, off, rfl, hg, hc⟩ := (HR.out.below hg1).at_ (k := 0) (by have := HL.out; omega); have hcz : w1.cell? ⟨g, off + 1, none⟩ = some (.int .i64 (sz l 0)) := (by have h := hc 1 (by have := HL.out; omega); simpa [sz] using h); have hcc := Lib.hid hc; clear hc))
    clear hn
    have hn := hn6
    go_loopw [7, 8, 9, 33] (fun f t m i wr => ∃ k : Nat, k ≤ n ∧ i = .int .i64 k ∧ f = .int .i64 (outS l r n k).f ∧ t = .int .i64 (outS l r n k).t ∧ m = .int .i64 (fixm (sz l 0) (outS l r n k).m) ∧ ∃ q, wr = w1.drewN q) (fun _ _ _ i _ => n - (intOf i).toNat)
    case atStart => exact ⟨0, Nat.zero_le _, rfl, rfl, rfl, rfl, 0, rfl⟩
    case round =>
      obtain ⟨i, hi, rfl, rfl, rfl, rfl, q, rfl⟩ := hrel
      by_cases hlt : i < n
      · have HW := Lib.hid (Wi.outS (r := r) HS.out hn h1 h2 i hi)
        have HE := Lib.hid (show outS l r n (i + 1) = inS l r i (outS l r n i) (n - i) from rfl)
        generalize outS l r n i = s0 at *
        go_wp2_with fail
        go_loopw [7, 8, 9, 11, 12] (fun f t m u k wr => ∃ j : Nat, i + j ≤ n ∧ k = .int .i64 ((i + j : Nat) : Int) ∧ u = .int .i64 (ss l i j) ∧ f = .int .i64 (inS l r i s0 j).f ∧ t = .int .i64 (inS l r i s0 j).t ∧ m = .int .i64 (fixm (sz l 0) (inS l r i s0 j).m) ∧ ∃ q, wr = w1.drewN q) (fun _ _ _ _ k _ => n - (intOf k).toNat)
        case atStart => exact ⟨0, hi, rfl, rfl, rfl, rfl, rfl, q, rfl⟩
        case round =>
          obtain ⟨j, hj, rfl, rfl, rfl, rfl, rfl, q, rfl⟩ := hrel
          by_cases hjn : i + j < n
          · have hc := hcc.out
            have hc0 : w1.cell? ⟨g, off + (i + j) * 2, none⟩ = some (.int .i64 (tk l (i + j))) := by have h := hc ((i + j) * 2) (by have := HL.out; omega); simpa [Nat.add_assoc, tk, sz] using h
            have hc1 : w1.cell? ⟨g, off + (i + j) * 2 + 1, none⟩ = some (.int .i64 (sz l (i + j))) := by have h := hc ((i + j) * 2 + 1) (by have := HL.out; omega); simpa [Nat.add_assoc, tk, sz] using h
            have hc2 : w1.cell? ⟨g, off + i * 2, none⟩ = some (.int .i64 (tk l i)) := by have h := hc (i * 2) (by have := HL.out; omega); simpa [Nat.add_assoc, tk, sz] using h
            clear hc
            have HI := Lib.hid (HW.out.inS HS.out hn h1 h2 j hj)
            have e1 := Lib.hid (show ss l i (j + 1) = ss l i j + sz l (i + j) from rfl)
            have e2 := Lib.hid (show ov l r i j = ss l i (j + 1) - r * (tk l (i + j) - tk l i) from rfl)
            have e3 := Lib.hid (show inS l r i s0 (j + 1) = wst (inS l r i s0 j) i (i + j) (ov l r i j) from rfl)
            have p1 := Lib.hid (ov_b HS.out hn h1 h2 hjn)
            have p2 := Lib.hid (ss_b HS.out (i := i) j hj)
            have p3 := Lib.hid (ss_b HS.out (i := i) (j + 1) hjn)
            have p4 := Lib.hid (HS.out.mono (i := i) j hjn)
            have p5 := Lib.hid (HS.out.tk (k := i + j) hjn)
            have p6 := Lib.hid (HS.out.tk (k := i) hlt)
            have p7 := Lib.hid (HS.out.sz (k := i + j) hjn)
            have p8 := Lib.hid (mul_bound (r := r) (n := tk l (i + j) - tk l i) h1 h2 (by have := p4.out; omega) (by have := p5.out; have := p6.out; omega))
            have e4 := Lib.hid (fun (h1 : i = 0) (h2 : j = 0) => show ov l r i j = sz l 0 by rw [h1, h2]; exact ov_0)
            generalize hs2 : ss l i (j + 1) = s2 at *
            generalize hs1 : ss l i j = s1 at *
            generalize hov : ov l r i j = o at *
            generalize hta : tk l (i + j) = ta at *
            generalize htb : tk l i = tb at *
            generalize hsa : sz l (i + j) = sa at *
            generalize hsj : inS l r i s0 j = sj at *
            clear hs1 hov hta htb hsa hsj
            generalize hmm : fixm (sz l 0) sj.m = mm at *
            have hmm := Lib.hid hmm
            generalize hij : i + j = k at *
            have w1 : IntKind.i64.wrap (s1 + sa) = s2 := by rw [← e1.out]; exact IntWalk.i64_in _ (by have := p3.out; omega)
            have w2 : IntKind.i64.wrap (ta - tb) = ta - tb := IntWalk.i64_in _ (by have := p5.out; have := p6.out; omega)
            have w3 : IntKind.i64.wrap (r * (ta - tb)) = r * (ta - tb) := IntWalk.i64_in _ (by have := p8.out; omega)
            have w4 : IntKind.i64.wrap (s2 - r * (ta - tb)) = o := by rw [← e2.out]; exact IntWalk.i64_in _ (by have := p1.out; omega)
            by_cases hm : sj.m < 0
            · have HN := Lib.hid (HI.out.neg hm)
              have ho := Lib.hid (show o = sz l 0 by have := e4.out HN.out.2.2.2.1 HN.out.2.2.2.2; exact this)
              have hz := Lib.hid (pz.out)
              have hE := Lib.hid (show inS l r i s0 (j + 1) = ⟨i, k, o⟩ by rw [e3.out]; simp [wst, hm])
              have hfx := Lib.hid (show mm = sz l 0 by rw [← hmm.out]; simp [fixm, hm])
              have hno : ¬ mm < o := by have := ho.out; have := hfx.out; omega
              go_wp2_with fail
              go_quiet (fail)
              clear w1 w2 w3 w4
              go_wp2_with fail
              go_roundw
              case rel => exact ⟨j + 1, by omega, by rw [show i + (j + 1) = k + 1 by omega]; go_num, by rw [hs2], by rw [hE.out, HN.out.1, HN.out.2.2.2.1], by rw [hE.out, HN.out.2.1, ← hij, HN.out.2.2.2.1, HN.out.2.2.2.2], by rw [hE.out, ho.out, hfx.out]; exact congrArg _ (fixm_pos (by have := hz.out; omega)).symm, _, rfl⟩
              case measure => simp [intOf]; omega
            have hfx := Lib.hid (show mm = sj.m by rw [← hmm.out]; simp [fixm, hm])
            by_cases hlo : mm < o
            · have hE := Lib.hid (show inS l r i s0 (j + 1) = ⟨i, k, o⟩ by rw [e3.out]; simp [wst, show sj.m < o by have := hfx.out; omega])
              go_wp2_with fail
              go_quiet (fail)
              clear w1 w2 w3 w4
              go_wp2_with fail
              go_roundw
              case rel => exact ⟨j + 1, by omega, by rw [show i + (j + 1) = k + 1 by omega]; go_num, by rw [hs2], by rw [hE.out], by rw [hE.out], by rw [hE.out]; exact congrArg _ (fixm_pos (by have := hfx.out; omega)).symm, _, rfl⟩
              case measure => simp [intOf]; omega
            · have hE := Lib.hid (show inS l r i s0 (j + 1) = sj by rw [e3.out]; simp [wst, hm, show ¬ sj.m < o by have := hfx.out; omega])
              go_wp2_with fail
              go_quiet (fail)
              clear w1 w2 w3 w4
              go_wp2_with fail
              go_roundw
              case rel => exact ⟨j + 1, by omega, by rw [show i + (j + 1) = k + 1 by omega]; go_num, by rw [hs2], by rw [hE.out], by rw [hE.out], by rw [hE.out, hmm.out], _, rfl⟩
              case measure => simp [intOf]; omega
          · have hjn' : j = n - i := by omega
            subst hjn'
            go_wp2_with fail
            go_roundw
            case rel => exact ⟨i + 1, by omega, by go_num, by rw [HE.out], by rw [HE.out], by rw [HE.out], q, rfl⟩
            case measure => simp [intOf]; omega
      · obtain rfl : i = n := by omega
        go_wp2_with fail
        exact bodyPost_ret (v := .tuple #[.int .i64 (outS l r i i).f, .int .i64 (outS l r i i).t, .bool true]) (by simp [results, Try.results33, go_sem]) rfl ⟨by rw [hR.out], bt hg1 (b0d _ _)⟩
end Go.Proofs.Ytleknfigikpacaa
