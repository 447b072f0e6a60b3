/- The contracts of DelayStep: what the call returns; old memory is left as it was. -/
import Derived.Test.YthpcangfbpoglaaStep3
namespace Go.Proofs.Ythpcangfbpoglaa
open Go.ChangeShapes Go.WideShapes Go.ChangeAt Go.RowKit
set_option linter.unusedVariables false
theorem step_any (B : Nat) (t i s c n now wait back : Int) (dr : Bool) (w : World) (hC : Ctl w B t i s dr c n) (d1 : 1 ≤ t) (d2 : t ≤ 10000) (d3 : 1 ≤ i) (d4 : i ≤ 10000) (d5 : -1 ≤ s) (d6 : s ≤ 110000) (d7 : 0 ≤ c) (d8 : c ≤ 1000) (d9 : 0 ≤ n) (d10 : n ≤ 200000) (e1 : 0 ≤ now) (e2 : now ≤ 100000) (e3 : 0 ≤ wait) (e4 : wait ≤ 100000) (e5 : 0 ≤ back) (e6 : back ≤ 100000) :
    Calls Try.prog 24 #[.pointer (some ⟨B, 0, none⟩), .int .i64 now, .int .i64 wait, .int .i64 back] w (Stepped' w B t i (stepD t i s dr c n now wait back)) := by
  by_cases h1 : t ≤ wait
  rotate_left
  · exact step_1a B t i s c n now wait back dr w hC d1 d2 d3 d4 d5 d6 d7 d8 d9 d10 e1 e2 e3 e4 e5 e6 h1
  by_cases h2 : 1 ≤ back
  rotate_left
  · exact step_1b B t i s c n now wait back dr w hC d1 d2 d3 d4 d5 d6 d7 d8 d9 d10 e1 e2 e3 e4 e5 e6 h1 h2
  by_cases h3 : 0 ≤ s
  rotate_left
  · exact step_2 B t i s c n now wait back dr w hC d1 d2 d3 d4 d5 d6 d7 d8 d9 d10 e1 e2 e3 e4 e5 e6 h1 h2 (by omega)
  by_cases h4 : s ≤ now
  rotate_left
  · exact step_3 B t i s c n now wait back dr w hC d1 d2 d3 d4 d5 d6 d7 d8 d9 d10 e1 e2 e3 e4 e5 e6 h1 h2 h3 (by omega)
  rcases dr with _ | _
  · by_cases h5 : c - 2 < 1
    · exact step_6 B t i s c n now wait back w hC d1 d2 d3 d4 d5 d6 d7 d8 d9 d10 e1 e2 e3 e4 e5 e6 h1 h2 h3 h4 h5
    by_cases h6 : n + 8 * i ≤ now
    · exact step_7 B t i s c n now wait back w hC d1 d2 d3 d4 d5 d6 d7 d8 d9 d10 e1 e2 e3 e4 e5 e6 h1 h2 h3 h4 (by omega) h6
    · exact step_8 B t i s c n now wait back w hC d1 d2 d3 d4 d5 d6 d7 d8 d9 d10 e1 e2 e3 e4 e5 e6 h1 h2 h3 h4 (by omega) (by omega)
  · by_cases h5 : now < n
    · exact step_4 B t i s c n now wait back w hC d1 d2 d3 d4 d5 d6 d7 d8 d9 d10 e1 e2 e3 e4 e5 e6 h1 h2 h3 h4 h5
    by_cases h6 : 1000 ≤ c + 1
    · exact step_hi B t i s c n now wait back w hC d1 d2 d3 d4 d5 d6 d7 d8 d9 d10 e1 e2 e3 e4 e5 e6 h1 h2 h3 h4 (by omega) h6
    · exact step_lo B t i s c n now wait back w hC d1 d2 d3 d4 d5 d6 d7 d8 d9 d10 e1 e2 e3 e4 e5 e6 h1 h2 h3 h4 (by omega) h6
def dsOk (t i s c n now wait back : Int) : Bool := dok t i s c n && tickP now && tickP wait && tickP back
noncomputable def dsOk2 (t i s : Int) (dr : Bool) (c n now wait back : Int) : Bool := dok t i (stepD t i s dr c n now wait back).1 (stepD t i s dr c n now wait back).2.2.1 (stepD t i s dr c n now wait back).2.2.2.1
/-- target, interval, since, dropping, count, next; dropped; whether it is valid. -/
noncomputable def dsR (t i s : Int) (dr : Bool) (c n now wait back : Int) : Int × Int × Int × Bool × Int × Int × Bool × Bool :=
  if dsOk t i s c n now wait back && dsOk2 t i s dr c n now wait back then (t, i, (stepD t i s dr c n now wait back).1, (stepD t i s dr c n now wait back).2.1, (stepD t i s dr c n now wait back).2.2.1, (stepD t i s dr c n now wait back).2.2.2.1, (stepD t i s dr c n now wait back).2.2.2.2, true)
  else (0, 0, 0, false, 0, 0, false, false)
theorem chfree {lo hi : Nat} {W w1 : World} (h : Chg lo hi W w1) : ∀ b o, b < W.heap.size → (b < lo ∨ hi ≤ b) → w1.frozen? ⟨b, o, none⟩ = W.frozen? ⟨b, o, none⟩ := fun b o hb ho => World.frozen?_of_block (a := ⟨b, o, none⟩) (h.block b hb ho)
set_option maxHeartbeats 1000000 in
theorem implDelayStep_any (t i s : Int) (dr : Bool) (c n now wait back : Int) (w : World) :
    Calls Try.prog 18 #[.agg #[.int .i64 t, .int .i64 i, .int .i64 s, .bool dr, .int .i64 c, .int .i64 n], .int .i64 now, .int .i64 wait, .int .i64 back] w fun e w' => e = .returned (.tuple #[.agg #[.int .i64 (dsR t i s dr c n now wait back).1, .int .i64 (dsR t i s dr c n now wait back).2.1, .int .i64 (dsR t i s dr c n now wait back).2.2.1, .bool (dsR t i s dr c n now wait back).2.2.2.1, .int .i64 (dsR t i s dr c n now wait back).2.2.2.2.1, .int .i64 (dsR t i s dr c n now wait back).2.2.2.2.2.1], .bool (dsR t i s dr c n now wait back).2.2.2.2.2.2.1, .bool (dsR t i s dr c n now wait back).2.2.2.2.2.2.2]) ∧ Below w.heap.size w w' := by
  rcases h1 : dok t i s c n with _ | _
  · have hR := Lib.hid (show dsR t i s dr c n now wait back = (0, 0, 0, false, 0, 0, false, false) by simp [dsR, dsOk, h1])
    go_enter Try.func18, Try.ntmps18
    go_wp2_with (first | (go_at_call 15; refine (implIsDelay_any _ _ _ _ _ _ _).mono ?_; rintro e w1 ⟨rfl, hg⟩; have zhg := hg.size; (try simp at zhg); have c0hg := fun o => bkeep hg (w.heap.size) o (by first | omega | (simp; done) | (simp; omega)); have f0hg := fun o => bfree hg (w.heap.size) o (by first | omega | (simp; done) | (simp; omega)); have c1hg := fun o => bkeep hg (w.heap.size + 1) o (by first | omega | (simp; done) | (simp; omega)); have f1hg := fun o => bfree hg (w.heap.size + 1) o (by first | omega | (simp; done) | (simp; omega))) | (go_at_call 23; refine (isTicks_any _ _).mono ?_; rintro e w' ⟨rfl, rfl⟩))
    exact bodyPost_ret (v := .tuple #[.agg #[.int .i64 0, .int .i64 0, .int .i64 0, .bool false, .int .i64 0, .int .i64 0], .bool false, .bool false]) (by simp [results, Try.results18, go_sem, c1hg]) rfl ⟨by rw [hR.out], (by repeat (first | (with_reducible exact b0 _) | (with_reducible refine ba ?_ _) | (with_reducible refine bd ?_ _) | (with_reducible refine Below.drew ?_) | (with_reducible refine bs ?_ (by first | exact Nat.le_refl _ | exact Nat.le_add_right _ _ | omega) _) | (with_reducible refine bt ?_ (by assumption))))⟩
  rcases h2 : tickP now with _ | _
  · have hR := Lib.hid (show dsR t i s dr c n now wait back = (0, 0, 0, false, 0, 0, false, false) by simp [dsR, dsOk, h1, h2])
    go_enter Try.func18, Try.ntmps18
    go_wp2_with (first | (go_at_call 15; refine (implIsDelay_any _ _ _ _ _ _ _).mono ?_; rintro e w1 ⟨rfl, hg⟩; have zhg := hg.size; (try simp at zhg); have c0hg := fun o => bkeep hg (w.heap.size) o (by first | omega | (simp; done) | (simp; omega)); have f0hg := fun o => bfree hg (w.heap.size) o (by first | omega | (simp; done) | (simp; omega)); have c1hg := fun o => bkeep hg (w.heap.size + 1) o (by first | omega | (simp; done) | (simp; omega)); have f1hg := fun o => bfree hg (w.heap.size + 1) o (by first | omega | (simp; done) | (simp; omega))) | (go_at_call 23; refine (isTicks_any _ _).mono ?_; rintro e w' ⟨rfl, rfl⟩))
    exact bodyPost_ret (v := .tuple #[.agg #[.int .i64 0, .int .i64 0, .int .i64 0, .bool false, .int .i64 0, .int .i64 0], .bool false, .bool false]) (by simp [results, Try.results18, go_sem, c1hg]) rfl ⟨by rw [hR.out], (by repeat (first | (with_reducible exact b0 _) | (with_reducible refine ba ?_ _) | (with_reducible refine bd ?_ _) | (with_reducible refine Below.drew ?_) | (with_reducible refine bs ?_ (by first | exact Nat.le_refl _ | exact Nat.le_add_right _ _ | omega) _) | (with_reducible refine bt ?_ (by assumption))))⟩
  rcases h3 : tickP wait with _ | _
  · have hR := Lib.hid (show dsR t i s dr c n now wait back = (0, 0, 0, false, 0, 0, false, false) by simp [dsR, dsOk, h1, h2, h3])
    go_enter Try.func18, Try.ntmps18
    go_wp2_with (first | (go_at_call 15; refine (implIsDelay_any _ _ _ _ _ _ _).mono ?_; rintro e w1 ⟨rfl, hg⟩; have zhg := hg.size; (try simp at zhg); have c0hg := fun o => bkeep hg (w.heap.size) o (by first | omega | (simp; done) | (simp; omega)); have f0hg := fun o => bfree hg (w.heap.size) o (by first | omega | (simp; done) | (simp; omega)); have c1hg := fun o => bkeep hg (w.heap.size + 1) o (by first | omega | (simp; done) | (simp; omega)); have f1hg := fun o => bfree hg (w.heap.size + 1) o (by first | omega | (simp; done) | (simp; omega))) | (go_at_call 23; refine (isTicks_any _ _).mono ?_; rintro e w' ⟨rfl, rfl⟩))
    exact bodyPost_ret (v := .tuple #[.agg #[.int .i64 0, .int .i64 0, .int .i64 0, .bool false, .int .i64 0, .int .i64 0], .bool false, .bool false]) (by simp [results, Try.results18, go_sem, c1hg]) rfl ⟨by rw [hR.out], (by repeat (first | (with_reducible exact b0 _) | (with_reducible refine ba ?_ _) | (with_reducible refine bd ?_ _) | (with_reducible refine Below.drew ?_) | (with_reducible refine bs ?_ (by first | exact Nat.le_refl _ | exact Nat.le_add_right _ _ | omega) _) | (with_reducible refine bt ?_ (by assumption))))⟩
  rcases h4 : tickP back with _ | _
  · have hR := Lib.hid (show dsR t i s dr c n now wait back = (0, 0, 0, false, 0, 0, false, false) by simp [dsR, dsOk, h1, h2, h3, h4])
    go_enter Try.func18, Try.ntmps18
    go_wp2_with (first | (go_at_call 15; refine (implIsDelay_any _ _ _ _ _ _ _).mono ?_; rintro e w1 ⟨rfl, hg⟩; have zhg := hg.size; (try simp at zhg); have c0hg := fun o => bkeep hg (w.heap.size) o (by first | omega | (simp; done) | (simp; omega)); have f0hg := fun o => bfree hg (w.heap.size) o (by first | omega | (simp; done) | (simp; omega)); have c1hg := fun o => bkeep hg (w.heap.size + 1) o (by first | omega | (simp; done) | (simp; omega)); have f1hg := fun o => bfree hg (w.heap.size + 1) o (by first | omega | (simp; done) | (simp; omega))) | (go_at_call 23; refine (isTicks_any _ _).mono ?_; rintro e w' ⟨rfl, rfl⟩))
    exact bodyPost_ret (v := .tuple #[.agg #[.int .i64 0, .int .i64 0, .int .i64 0, .bool false, .int .i64 0, .int .i64 0], .bool false, .bool false]) (by simp [results, Try.results18, go_sem, c1hg]) rfl ⟨by rw [hR.out], (by repeat (first | (with_reducible exact b0 _) | (with_reducible refine ba ?_ _) | (with_reducible refine bd ?_ _) | (with_reducible refine Below.drew ?_) | (with_reducible refine bs ?_ (by first | exact Nat.le_refl _ | exact Nat.le_add_right _ _ | omega) _) | (with_reducible refine bt ?_ (by assumption))))⟩
  have hR := Lib.hid (show dsR t i s dr c n now wait back = if dsOk2 t i s dr c n now wait back then (t, i, (stepD t i s dr c n now wait back).1, (stepD t i s dr c n now wait back).2.1, (stepD t i s dr c n now wait back).2.2.1, (stepD t i s dr c n now wait back).2.2.2.1, (stepD t i s dr c n now wait back).2.2.2.2, true) else (0, 0, 0, false, 0, 0, false, false) by simp [dsR, dsOk, h1, h2, h3, h4])
  have g := dok_iff.1 h1
  have g2 : 0 ≤ now ∧ now ≤ 100000 := by simpa [tickP] using h2
  have g3 : 0 ≤ wait ∧ wait ≤ 100000 := by simpa [tickP] using h3
  have g4 : 0 ≤ back ∧ back ≤ 100000 := by simpa [tickP] using h4
  obtain ⟨x1, x2, x3, x4, x5, hx⟩ : ∃ x1 x2 x3 x4 x5, stepD t i s dr c n now wait back = (x1, x2, x3, x4, x5) := ⟨_, _, _, _, _, rfl⟩
  have HX := Lib.hid hx
  have hR2 := Lib.hid (show dsR t i s dr c n now wait back = if dok t i x1 x3 x4 then (t, i, x1, x2, x3, x4, x5, true) else (0, 0, 0, false, 0, 0, false, false) by rw [hR.out, dsOk2, hx])
  clear hx hR
  go_enter Try.func18, Try.ntmps18
  go_wp2_with (first | (go_at_call 15; refine (implIsDelay_any _ _ _ _ _ _ _).mono ?_; rintro e w1 ⟨rfl, hg⟩; have zhg := hg.size; (try simp at zhg); have c0hg := fun o => bkeep hg (w.heap.size) o (by first | omega | (simp; done) | (simp; omega)); have f0hg := fun o => bfree hg (w.heap.size) o (by first | omega | (simp; done) | (simp; omega)); have c1hg := fun o => bkeep hg (w.heap.size + 1) o (by first | omega | (simp; done) | (simp; omega)); have f1hg := fun o => bfree hg (w.heap.size + 1) o (by first | omega | (simp; done) | (simp; omega))) | (go_at_call 23; refine (isTicks_any _ _).mono ?_; rintro e w' ⟨rfl, rfl⟩))
  have hCt : Ctl w1 w.heap.size t i s dr c n := by
    refine (hg.block w.heap.size (by simp; omega)).trans ?_
    exact (Below.heap_alloc (w.alloc _) _ w.heap.size (by simp)).trans (heap_alloc_new w _)
  refine (step_any _ _ _ _ _ _ _ _ _ _ _ hCt (by omega) (by omega) (by omega) (by omega) (by omega) (by omega) (by omega) (by omega) (by omega) (by omega) (by omega) (by omega) (by omega) (by omega) (by omega) (by omega)).mono ?_
  rw [HX.out]
  rintro e w2 ⟨rfl, hC2, hch⟩
  simp only at hC2
  have z2 := hch.size
  obtain ⟨c20, c21, c22, c23, c24, c25⟩ := hC2.cells
  have r1 := fun o => chkeep hch (w.heap.size + 1) o (by omega) (by omega)
  have rf1 := fun o => chfree hch (w.heap.size + 1) o (by omega) (by omega)
  have HB2 := Lib.hid (Chg.below (bt (ba (ba (b0 w) _) _) hg) hch (Nat.le_refl _))
  clear hC2
  go_wp2_with fail
  refine (implIsDelay_any _ _ _ _ _ _ _).mono ?_
  rintro e w3 ⟨rfl, hw3⟩
  have r3 := fun o => bkeep hw3 (w.heap.size + 1) o (by omega)
  have rf3 := fun o => bfree hw3 (w.heap.size + 1) o (by omega)
  have r30 := fun o => bkeep hw3 w.heap.size o (by omega)
  have HB3 := Lib.hid (bt HB2.out hw3)
  rcases h5 : dok t i x1 x3 x4 with _ | _
  · have hR := Lib.hid (show dsR t i s dr c n now wait back = (0, 0, 0, false, 0, 0, false, false) by rw [hR2.out, h5]; rfl)
    go_wp2_with fail
    exact bodyPost_ret (v := .tuple #[.agg #[.int .i64 0, .int .i64 0, .int .i64 0, .bool false, .int .i64 0, .int .i64 0], .bool false, .bool false]) (by simp [results, Try.results18, go_sem, c1hg, r1, r3]) rfl ⟨by rw [hR.out], bs (bs (bs (bs (bs (bs HB3.out (Nat.le_add_right _ _) _) (Nat.le_add_right _ _) _) (Nat.le_add_right _ _) _) (Nat.le_add_right _ _) _) (Nat.le_add_right _ _) _) (Nat.le_add_right _ _) _⟩
  · have hR := Lib.hid (show dsR t i s dr c n now wait back = (t, i, x1, x2, x3, x4, x5, true) by rw [hR2.out, h5]; rfl)
    go_wp2_with fail
    exact bodyPost_ret (v := .tuple #[.agg #[.int .i64 t, .int .i64 i, .int .i64 x1, .bool x2, .int .i64 x3, .int .i64 x4], .bool x5, .bool true]) (by simp [results, Try.results18, go_sem, c1hg, r1, r3]) rfl ⟨by rw [hR.out], bs (bs (bs (bs (bs (bs HB3.out (Nat.le_add_right _ _) _) (Nat.le_add_right _ _) _) (Nat.le_add_right _ _) _) (Nat.le_add_right _ _) _) (Nat.le_add_right _ _) _) (Nat.le_add_right _ _) _⟩
end Go.Proofs.Ythpcangfbpoglaa
