/- The contracts of what looks for the worst window of sends. -/
import Derived.Test.YtleknfigikpacaaSends
namespace Go.Proofs.Ytleknfigikpacaa
open Go.ChangeShapes Go.WideShapes Go.ChangeAt Go.RowKit
set_option linter.unusedVariables false
theorem b0d (w : World) (q : Nat) : Below w.heap.size w (w.drewN q) := bd (b0 w) q
def tk (l : List Int) (k : Nat) : Int := l[k * 2]?.getD 0
def sz (l : List Int) (k : Nat) : Int := l[k * 2 + 1]?.getD 0
/-- The sum of j sends' sizes, from send i on. -/
def ss (l : List Int) (i : Nat) : Nat → Int
  | 0 => 0
  | j + 1 => ss l i j + sz l (i + j)
def ov (l : List Int) (r : Int) (i j : Nat) : Int := ss l i (j + 1) - r * (tk l (i + j) - tk l i)
structure Ww where
  f : Nat
  t : Nat
  m : Int
def wst (s : Ww) (i k : Nat) (n : Int) : Ww := if s.m < 0 ∨ s.m < n then ⟨i, k, n⟩ else s
def inS (l : List Int) (r : Int) (i : Nat) (s : Ww) : Nat → Ww
  | 0 => s
  | j + 1 => wst (inS l r i s j) i (i + j) (ov l r i j)
def outS (l : List Int) (r : Int) (n : Nat) : Nat → Ww
  | 0 => ⟨0, 0, -1⟩
  | i + 1 => inS l r i (outS l r n i) (n - i)
theorem Ses.sz {l : List Int} {n k : Nat} (h : Ses l n) (hk : k < n) : 1 ≤ sz l k ∧ sz l k ≤ 1500 := by
  have h1 := (h k hk).1
  simp only [seB, Bool.and_eq_true] at h1
  exact sok_iff.1 h1.1
theorem Ses.tk {l : List Int} {n k : Nat} (h : Ses l n) (hk : k < n) : 0 ≤ tk l k ∧ tk l k ≤ 100000 := by
  have h1 := (h k hk).1
  simp only [seB, Bool.and_eq_true] at h1
  exact tok_iff.1 h1.2
theorem Ses.mono {l : List Int} {n i : Nat} (h : Ses l n) : ∀ j, i + j < n → Go.Proofs.Ytleknfigikpacaa.tk l i ≤ Go.Proofs.Ytleknfigikpacaa.tk l (i + j)
  | 0, _ => Int.le_refl _
  | j + 1, hj => by
    have h1 := Ses.mono (i := i) h j (by omega)
    have h2 := (h (i + j + 1) hj).2
    simp only [lastT] at h2
    exact Int.le_trans h1 h2
theorem ss_b {l : List Int} {n i : Nat} (h : Ses l n) : ∀ j, i + j ≤ n → (j : Int) ≤ ss l i j ∧ ss l i j ≤ j * 1500
  | 0, _ => by simp [ss]
  | j + 1, hj => by
    have h1 := ss_b (i := i) h j (by omega)
    have h2 := h.sz (k := i + j) (by omega)
    simp only [ss]
    omega
theorem ov_b {l : List Int} {n i j : Nat} {r : Int} (h : Ses l n) (hn : n ≤ 60) (h1 : 0 ≤ r) (h2 : r ≤ 100000) (hj : i + j < n) : ov l r i j ≤ 90000 ∧ -10000000000 ≤ ov l r i j := by
  have h3 := ss_b h (i := i) (j + 1) (by omega)
  have h4 := h.mono (i := i) j hj
  have h5 := h.tk (k := i + j) hj
  have h6 := h.tk (k := i) (by omega)
  have h7 := mul_bound (r := r) (n := tk l (i + j) - tk l i) h1 h2 (by omega) (by omega)
  unfold ov
  omega
theorem ov_0 {l : List Int} {r : Int} {i : Nat} : ov l r i 0 = sz l i := by simp [ov, ss]
/-- What holds of the state: nothing is found only ahead of the first window. -/
structure Wi (l : List Int) (s : Ww) (first : Prop) : Prop where
  neg : s.m < 0 → s.f = 0 ∧ s.t = 0 ∧ s.m = -1 ∧ first
  hi : s.m ≤ 90000
theorem Wi.wst {l : List Int} {n i j : Nat} {r : Int} {s : Ww} (h : Ses l n) (hn : n ≤ 60) (h1 : 0 ≤ r) (h2 : r ≤ 100000) (hj : i + j < n) (hw : Wi l s (i = 0 ∧ j = 0)) : Wi l (wst s i (i + j) (ov l r i j)) False := by
  have h3 := ov_b h hn h1 h2 hj
  by_cases hm : s.m < 0
  · obtain ⟨hf, ht, hm1, rfl, rfl⟩ := hw.neg hm
    have h4 := h.sz (k := 0) (by omega)
    have e : Go.Proofs.Ytleknfigikpacaa.wst s 0 (0 + 0) (ov l r 0 0) = ⟨0, 0 + 0, ov l r 0 0⟩ := by simp [Go.Proofs.Ytleknfigikpacaa.wst, hm]
    rw [e, ov_0]
    exact ⟨fun hh => by simp only at hh; omega, by simp only; omega⟩
  · by_cases hlt : s.m < ov l r i j
    · have e : Go.Proofs.Ytleknfigikpacaa.wst s i (i + j) (ov l r i j) = ⟨i, i + j, ov l r i j⟩ := by simp [Go.Proofs.Ytleknfigikpacaa.wst, hlt]
      rw [e]
      exact ⟨fun hh => by simp only at hh; omega, by simp only; omega⟩
    · have e : Go.Proofs.Ytleknfigikpacaa.wst s i (i + j) (ov l r i j) = s := by simp [Go.Proofs.Ytleknfigikpacaa.wst, hlt, hm]
      rw [e]
      exact ⟨fun hh => absurd hh hm, hw.hi⟩
theorem Wi.inS {l : List Int} {n i : Nat} {r : Int} {s : Ww} (h : Ses l n) (hn : n ≤ 60) (h1 : 0 ≤ r) (h2 : r ≤ 100000) (hw : Wi l s (i = 0)) : ∀ j, i + j ≤ n → Wi l (inS l r i s j) (i = 0 ∧ j = 0)
  | 0, _ => ⟨fun hh => by obtain ⟨a, b, c, d⟩ := hw.neg hh; exact ⟨a, b, c, d, rfl⟩, hw.hi⟩
  | j + 1, hj => by
    have h3 := Wi.wst (r := r) h hn h1 h2 (i := i) (j := j) (by omega) (hw.inS h hn h1 h2 j (by omega))
    exact ⟨fun hh => (h3.neg hh).2.2.2.elim, h3.hi⟩
theorem Wi.outS {l : List Int} {n : Nat} {r : Int} (h : Ses l n) (hn : n ≤ 60) (h1 : 0 ≤ r) (h2 : r ≤ 100000) : ∀ i, i ≤ n → Wi l (outS l r n i) (i = 0)
  | 0, _ => ⟨fun hh => ⟨rfl, rfl, rfl, rfl⟩, by simp [Go.Proofs.Ytleknfigikpacaa.outS]⟩
  | i + 1, hi => by
    have h3 := (Wi.outS h hn h1 h2 (r := r) i (by omega)).inS h hn h1 h2 (n - i) (by omega)
    refine ⟨fun hh => ?_, h3.hi⟩
    obtain ⟨a, b, c, d, e⟩ := h3.neg hh
    omega
set_option maxHeartbeats 2000000 in
theorem buWorst_any (r : Int) (A : Option Addr) (n cap : Nat) (l : List Int) (w : World) (hl : l.length = n * 2) (hr : IRow w A l) (hn : n ≤ 60) (h1 : 0 ≤ r) (h2 : r ≤ 100000) (hs : Ses l n) :
    Calls Try.prog 57 #[.int .i64 r, .slice A n cap] w fun e w' => e = .returned (.tuple #[.int .i64 (outS l r n n).f, .int .i64 (outS l r n n).t, .int .i64 (outS l r n n).m]) ∧ Below w.heap.size w w' := by
  have HL := Lib.hid hl
  have HR := Lib.hid hr
  have HS := Lib.hid hs
  clear hl hr hs
  go_enter Try.func57, Try.ntmps57
  go_wp2_with fail
  go_loopw [7, 8, 9, 16] (fun f t m i wr => ∃ k : Nat, k ≤ n ∧ i = .int .i64 k ∧ f = .int .i64 (outS l r n k).f ∧ t = .int .i64 (outS l r n k).t ∧ m = .int .i64 (outS l r n k).m ∧ ∃ q, wr = w.drewN q) (fun _ _ _ i _ => n - (intOf i).toNat)
  case atStart => exact ⟨0, Nat.zero_le _, rfl, rfl, rfl, rfl, 0, rfl⟩
  case round =>
    obtain ⟨i, hi, rfl, rfl, rfl, rfl, q, rfl⟩ := hrel
    by_cases hlt : i < n
    · have HW := Lib.hid (Wi.outS (r := r) HS.out hn h1 h2 i hi)
      have HE := Lib.hid (show outS l r n (i + 1) = inS l r i (outS l r n i) (n - i) from rfl)
      generalize outS l r n i = s0 at *
      go_wp2_with fail
      go_loopw [7, 8, 9, 11, 12] (fun f t m u k wr => ∃ j : Nat, i + j ≤ n ∧ k = .int .i64 ((i + j : Nat) : Int) ∧ u = .int .i64 (ss l i j) ∧ f = .int .i64 (inS l r i s0 j).f ∧ t = .int .i64 (inS l r i s0 j).t ∧ m = .int .i64 (inS l r i s0 j).m ∧ ∃ q, wr = w.drewN q) (fun _ _ _ _ k _ => n - (intOf k).toNat)
      case atStart => exact ⟨0, hi, rfl, rfl, rfl, rfl, rfl, q, rfl⟩
      case round =>
        obtain ⟨j, hj, rfl, rfl, rfl, rfl, rfl, q, rfl⟩ := hrel
        by_cases hjn : i + j < n
        · obtain ⟨g, off, rfl, hg, hc⟩ := HR.out.at_ (k := (i + j) * 2) (by have := HL.out; omega)
          have hc0 : w.cell? ⟨g, off + (i + j) * 2, none⟩ = some (.int .i64 (tk l (i + j))) := by have h := hc ((i + j) * 2) (by have := HL.out; omega); simpa [Nat.add_assoc, tk, sz] using h
          have hc1 : w.cell? ⟨g, off + (i + j) * 2 + 1, none⟩ = some (.int .i64 (sz l (i + j))) := by have h := hc ((i + j) * 2 + 1) (by have := HL.out; omega); simpa [Nat.add_assoc, tk, sz] using h
          have hc2 : w.cell? ⟨g, off + i * 2, none⟩ = some (.int .i64 (tk l i)) := by have h := hc (i * 2) (by have := HL.out; omega); simpa [Nat.add_assoc, tk, sz] using h
          clear hc
          have HI := Lib.hid (HW.out.inS HS.out hn h1 h2 j hj)
          have e1 := Lib.hid (show ss l i (j + 1) = ss l i j + sz l (i + j) from rfl)
          have e2 := Lib.hid (show ov l r i j = ss l i (j + 1) - r * (tk l (i + j) - tk l i) from rfl)
          have e3 := Lib.hid (show inS l r i s0 (j + 1) = wst (inS l r i s0 j) i (i + j) (ov l r i j) from rfl)
          have p1 := Lib.hid (ov_b HS.out hn h1 h2 hjn)
          have p2 := Lib.hid (ss_b HS.out (i := i) j hj)
          have p3 := Lib.hid (ss_b HS.out (i := i) (j + 1) hjn)
          have p4 := Lib.hid (HS.out.mono (i := i) j hjn)
          have p5 := Lib.hid (HS.out.tk (k := i + j) hjn)
          have p6 := Lib.hid (HS.out.tk (k := i) hlt)
          have p7 := Lib.hid (HS.out.sz (k := i + j) hjn)
          have p8 := Lib.hid (mul_bound (r := r) (n := tk l (i + j) - tk l i) h1 h2 (by have := p4.out; omega) (by have := p5.out; have := p6.out; omega))
          generalize hs2 : ss l i (j + 1) = s2 at *
          generalize hs1 : ss l i j = s1 at *
          generalize hov : ov l r i j = o at *
          generalize hta : tk l (i + j) = ta at *
          generalize htb : tk l i = tb at *
          generalize hsa : sz l (i + j) = sa at *
          generalize hsj : inS l r i s0 j = sj at *
          clear hs1 hov hta htb hsa hsj
          generalize hij : i + j = k at *
          have w1 : IntKind.i64.wrap (s1 + sa) = s2 := by rw [← e1.out]; exact IntWalk.i64_in _ (by have := p3.out; omega)
          have w2 : IntKind.i64.wrap (ta - tb) = ta - tb := IntWalk.i64_in _ (by have := p5.out; have := p6.out; omega)
          have w3 : IntKind.i64.wrap (r * (ta - tb)) = r * (ta - tb) := IntWalk.i64_in _ (by have := p8.out; omega)
          have w4 : IntKind.i64.wrap (s2 - r * (ta - tb)) = o := by rw [← e2.out]; exact IntWalk.i64_in _ (by have := p1.out; omega)
          by_cases hm : sj.m < 0 ∨ sj.m < o
          · have hE := Lib.hid (show inS l r i s0 (j + 1) = ⟨i, k, o⟩ by rw [e3.out]; simp [wst, hm])
            go_wp2_with fail
            go_quiet (fail)
            clear w1 w2 w3 w4
            rcases Decidable.em (sj.m < 0) with hm0 | hm0
            all_goals
              (try have hm1 : sj.m < o := hm.resolve_left hm0)
              go_wp2_with fail
              go_roundw
              case rel => exact ⟨j + 1, by omega, by rw [show i + (j + 1) = k + 1 by omega]; go_num, by rw [hs2], by rw [hE.out], by rw [hE.out], by rw [hE.out], _, rfl⟩
              case measure => simp [intOf]; omega
          · have hE := Lib.hid (show inS l r i s0 (j + 1) = sj by rw [e3.out]; simp [wst, hm])
            have hm0 : ¬ sj.m < 0 := fun h => hm (Or.inl h)
            have hm1 : ¬ sj.m < o := fun h => hm (Or.inr h)
            go_wp2_with fail
            go_quiet (fail)
            clear w1 w2 w3 w4
            go_wp2_with fail
            go_roundw
            case rel => exact ⟨j + 1, by omega, by rw [show i + (j + 1) = k + 1 by omega]; go_num, by rw [hs2], by rw [hE.out], by rw [hE.out], by rw [hE.out], _, rfl⟩
            case measure => simp [intOf]; omega
        · have hjn' : j = n - i := by omega
          subst hjn'
          go_wp2_with fail
          go_roundw
          case rel => exact ⟨i + 1, by omega, by go_num, by rw [HE.out], by rw [HE.out], by rw [HE.out], q, rfl⟩
          case measure => simp [intOf]; omega
    · obtain rfl : i = n := by omega
      go_wp2_with fail
      exact bodyPost_ret (v := .tuple #[.int .i64 (outS l r i i).f, .int .i64 (outS l r i i).t, .int .i64 (outS l r i i).m]) (by simp [results, Try.results57, go_sem]) rfl ⟨rfl, b0d _ _⟩
end Go.Proofs.Ytleknfigikpacaa
