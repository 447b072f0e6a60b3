/- The contracts of the laws' helpers on configurations: size, copy, comparison. -/
import Derived.Test.YtjajddhedahpnaaDoorRowsClass
import Derived.Test.YtjajddhedahpnaaDoorRowsFilter
import Derived.Test.YtjajddhedahpnaaDoorRowsPacket
import Derived.Test.YtjajddhedahpnaaDoorBlk
namespace Go.Proofs.YtjajddhedahpnaaDoor
open Go.ChangeShapes Go.WideShapes Go.ChangeAt Go.RowKit
set_option linter.unusedVariables false
theorem Bk.set' {w : World} {g : Nat} {t : TypeId} {cs cs' : Array Value} {i : Nat} {u : Value} (h : Bk w g t cs) (he : cs.setIfInBounds i u = cs') : Bk (w.setCell ⟨g, i, none⟩ u) g t cs' := he ▸ h.set i u
theorem gen_world {P : Program} {f : FuncId} {args : Array Value} {W : World} {R : Ending → World → Prop} (h : ∀ V, V = W → Calls P f args V R) : Calls P f args W R := h W rfl
theorem szClass_any (A : Option Addr) (n cap : Nat) (left : Int) (w : World) (hn : n ≤ 9223372036854775807) (h0 : 0 ≤ left) (h1 : left ≤ 1048576) :
    Calls Tryd.prog 24 #[.slice A n cap, .int .i64 left] w fun e w' => e = .returned (.int .i64 (if (n : Int) ≤ left then left - (n : Int) else -1)) ∧ w = w' := by
  have hw : IntKind.i64.wrap (left - (n : Int)) = left - (n : Int) := IntWalk.i64_in _ (by omega)
  by_cases h : (n : Int) ≤ left
  · have h' : ¬ left - (n : Int) < 0 := by omega
    first | rw [if_pos h] | rw [if_neg h]
    go_enter Tryd.func24, Tryd.ntmps24
    go_wp2_with fail
    go_ret
    exact ⟨rfl, rfl⟩
  · have h' : left - (n : Int) < 0 := by omega
    first | rw [if_pos h] | rw [if_neg h]
    go_enter Tryd.func24, Tryd.ntmps24
    go_wp2_with fail
    go_ret
    exact ⟨rfl, rfl⟩
theorem szFilter_any (A : Option Addr) (n cap : Nat) (left : Int) (w : World) (hn : n ≤ 9223372036854775807) (h0 : 0 ≤ left) (h1 : left ≤ 1048576) :
    Calls Tryd.prog 25 #[.slice A n cap, .int .i64 left] w fun e w' => e = .returned (.int .i64 (if (n : Int) ≤ left then left - (n : Int) else -1)) ∧ w = w' := by
  have hw : IntKind.i64.wrap (left - (n : Int)) = left - (n : Int) := IntWalk.i64_in _ (by omega)
  by_cases h : (n : Int) ≤ left
  · have h' : ¬ left - (n : Int) < 0 := by omega
    first | rw [if_pos h] | rw [if_neg h]
    go_enter Tryd.func25, Tryd.ntmps25
    go_wp2_with fail
    go_ret
    exact ⟨rfl, rfl⟩
  · have h' : left - (n : Int) < 0 := by omega
    first | rw [if_pos h] | rw [if_neg h]
    go_enter Tryd.func25, Tryd.ntmps25
    go_wp2_with fail
    go_ret
    exact ⟨rfl, rfl⟩
theorem szPacket_any (A : Option Addr) (n cap : Nat) (left : Int) (w : World) (hn : n ≤ 9223372036854775807) (h0 : 0 ≤ left) (h1 : left ≤ 1048576) :
    Calls Tryd.prog 12 #[.slice A n cap, .int .i64 left] w fun e w' => e = .returned (.int .i64 (if (n : Int) ≤ left then left - (n : Int) else -1)) ∧ w = w' := by
  have hw : IntKind.i64.wrap (left - (n : Int)) = left - (n : Int) := IntWalk.i64_in _ (by omega)
  by_cases h : (n : Int) ≤ left
  · have h' : ¬ left - (n : Int) < 0 := by omega
    first | rw [if_pos h] | rw [if_neg h]
    go_enter Tryd.func12, Tryd.ntmps12
    go_wp2_with fail
    go_ret
    exact ⟨rfl, rfl⟩
  · have h' : left - (n : Int) < 0 := by omega
    first | rw [if_pos h] | rw [if_neg h]
    go_enter Tryd.func12, Tryd.ntmps12
    go_wp2_with fail
    go_ret
    exact ⟨rfl, rfl⟩
/-- What is left behind a configuration; -1: it is too long. -/
def szR (a n m : Nat) : Int := if (a : Int) + (n : Int) + (m : Int) ≤ 1048576 then 1048576 - (a : Int) - (n : Int) - (m : Int) else -1
set_option maxHeartbeats 1000000 in
theorem szConfig_any (nm : ByteArray) (A : Option Addr) (n cap : Nat) (B : Option Addr) (m capb : Nat) (df : Int) (w : World) (hs : nm.size ≤ maxLen) (hn : n ≤ 9223372036854775807) (hm : m ≤ 9223372036854775807) :
    Calls Tryd.prog 6 #[.agg #[.string nm, .slice A n cap, .slice B m capb, .int .i64 df], .int .i64 1048576] w fun e w' => e = .returned (.int .i64 (szR nm.size n m)) ∧ Below w.heap.size w w' := by
  unfold maxLen at hs
  obtain ⟨l1, hl1⟩ : ∃ l : Int, l = 1048576 - (nm.size : Int) := ⟨_, rfl⟩
  have hw : IntKind.i64.wrap (1048576 - (nm.size : Int)) = l1 := by rw [hl1]; exact IntWalk.i64_in _ (by omega)
  by_cases h1 : l1 < 0
  · have hR := Lib.hid (show szR nm.size n m = -1 from by unfold szR; rw [if_neg (by omega)])
    clear hl1
    go_enter Tryd.func6, Tryd.ntmps6
    go_wp2_with fail
    go_ret
    exact ⟨by rw [hR.out]; rfl, (by repeat (first | (with_reducible exact b0 _) | (with_reducible refine ba ?_ _) | (with_reducible refine bd ?_ _) | (with_reducible refine Below.drew ?_) | (with_reducible refine bs ?_ (by first | exact Nat.le_refl _ | exact Nat.le_add_right _ _ | omega) _) | (with_reducible refine bt ?_ (by assumption))))⟩
  have HC := Lib.hid (fun W => szClass_any A n cap l1 W hn (by omega) (by omega))
  by_cases h2 : (n : Int) ≤ l1
  rotate_left
  · have hR := Lib.hid (show szR nm.size n m = -1 from by unfold szR; rw [if_neg (by omega)])
    rw [if_neg h2] at HC
    clear hl1
    go_enter Tryd.func6, Tryd.ntmps6
    go_wp2_with fail
    refine (HC.out _).mono ?_
    rintro e w1 ⟨rfl, rfl⟩
    go_wp2_with fail
    go_ret
    exact ⟨by rw [hR.out]; rfl, (by repeat (first | (with_reducible exact b0 _) | (with_reducible refine ba ?_ _) | (with_reducible refine bd ?_ _) | (with_reducible refine Below.drew ?_) | (with_reducible refine bs ?_ (by first | exact Nat.le_refl _ | exact Nat.le_add_right _ _ | omega) _) | (with_reducible refine bt ?_ (by assumption))))⟩
  rw [if_pos h2] at HC
  have HF := Lib.hid (fun W => szFilter_any B m capb (l1 - (n : Int)) W hm (by omega) (by omega))
  obtain ⟨l2, hl2⟩ : ∃ l : Int, l = l1 - (n : Int) := ⟨_, rfl⟩
  rw [← hl2] at HC HF
  have h2n : ¬ l2 < 0 := by omega
  by_cases h3 : (m : Int) ≤ l2
  · have hR := Lib.hid (show szR nm.size n m = l2 - (m : Int) from by unfold szR; rw [if_pos (by omega)]; omega)
    rw [if_pos h3] at HF
    have h3n : ¬ l2 - (m : Int) < 0 := by omega
    clear hl1 hl2
    go_enter Tryd.func6, Tryd.ntmps6
    go_wp2_with fail
    refine (HC.out _).mono ?_
    rintro e w1 ⟨rfl, rfl⟩
    go_wp2_with fail
    refine (HF.out _).mono ?_
    rintro e w2 ⟨rfl, rfl⟩
    go_wp2_with fail
    go_ret
    exact ⟨by rw [hR.out]; rfl, (by repeat (first | (with_reducible exact b0 _) | (with_reducible refine ba ?_ _) | (with_reducible refine bd ?_ _) | (with_reducible refine Below.drew ?_) | (with_reducible refine bs ?_ (by first | exact Nat.le_refl _ | exact Nat.le_add_right _ _ | omega) _) | (with_reducible refine bt ?_ (by assumption))))⟩
  · have hR := Lib.hid (show szR nm.size n m = -1 from by unfold szR; rw [if_neg (by omega)])
    rw [if_neg h3] at HF
    clear hl1 hl2
    go_enter Tryd.func6, Tryd.ntmps6
    go_wp2_with fail
    refine (HC.out _).mono ?_
    rintro e w1 ⟨rfl, rfl⟩
    go_wp2_with fail
    refine (HF.out _).mono ?_
    rintro e w2 ⟨rfl, rfl⟩
    go_wp2_with fail
    go_ret
    exact ⟨by rw [hR.out]; rfl, (by repeat (first | (with_reducible exact b0 _) | (with_reducible refine ba ?_ _) | (with_reducible refine bd ?_ _) | (with_reducible refine Below.drew ?_) | (with_reducible refine bs ?_ (by first | exact Nat.le_refl _ | exact Nat.le_add_right _ _ | omega) _) | (with_reducible refine bt ?_ (by assumption))))⟩
def TcE (w : World) (nm : ByteArray) (n m : Nat) (df : Int) (lc lf : List Int) (e : Ending) (w' : World) : Prop := ∃ (A : Option Addr) (c : Nat) (B : Option Addr) (d hi : Nat), e = .returned (.agg #[.string nm, .slice A n c, .slice B m d, .int .i64 df]) ∧ IOwn w' w.heap.size hi 74 8 A n c lc ∧ IOwn w' hi w'.heap.size 62 5 B m d lf ∧ w.heap.size ≤ hi ∧ hi ≤ w'.heap.size ∧ Below w.heap.size w w'
set_option maxHeartbeats 1000000 in
theorem toConfig_any (nm : ByteArray) (A : Option Addr) (n cap : Nat) (B : Option Addr) (m capb : Nat) (df : Int) (lc lf : List Int) (w : World) (hc : lc.length = n * 8) (hf : lf.length = m * 5) (hr : IRow w A lc) (hrf : IRow w B lf) (hn : n ≤ 1048576) (hm : m ≤ 1048576) :
    Calls Tryd.prog 8 #[.agg #[.string nm, .slice A n cap, .slice B m capb, .int .i64 df]] w (TcE w nm n m df lc lf) := by
  have HR := Lib.hid hr
  have HRF := Lib.hid hrf
  have HC := Lib.hid hc
  have HF := Lib.hid hf
  clear hr hrf hc hf
  go_enter Tryd.func8, Tryd.ntmps8
  go_wp2_with fail
  refine gen_world ?_
  intro V hV
  have HP := Lib.hid (show Bk V w.heap.size 25 #[.string nm, .slice A n cap, .slice B m capb, .int .i64 df] from by rw [hV]; exact (by repeat' (first | (with_reducible exact Bk.new w _ _) | (with_reducible apply Bk.setx) | (with_reducible refine Bk.farB ?_ (by omega)) | (with_reducible refine Bk.alloc ?_ _) | (with_reducible refine Bk.drew ?_) | rfl)))
  have HX := Lib.hid (show Bk V (w.heap.size + 1 + 1) 34 #[.string nm, .slice none 0 0, .slice none 0 0, .int .i64 0] from by
    rw [hV]
    refine Bk.new_ ?_
    simp)
  have HRB := Lib.hid (show Bk V (w.heap.size + 1) 34 #[.string ByteArray.empty, .slice none 0 0, .slice none 0 0, .int .i64 0] from by
    rw [hV]
    refine Bk.alloc (Bk.new_ ?_) _
    simp)
  have HW := Lib.hid (show Below w.heap.size w V from by rw [hV]; exact (by repeat (first | (with_reducible exact b0 _) | (with_reducible refine ba ?_ _) | (with_reducible refine bd ?_ _) | (with_reducible refine Below.drew ?_) | (with_reducible refine bsB ?_ (by first | exact Nat.le_refl _ | exact Nat.le_add_right _ _ | omega)) | (with_reducible refine bt ?_ (by assumption)))))
  have zV : V.heap.size = w.heap.size + 1 + 1 + 1 := by rw [hV]; simp
  clear hV
  refine (toClassS_any A n cap lc V HC.out (HR.out.below HW.out) hn).mono ?_
  unfold NewClassS
  rintro e w1 ⟨A1, n1, c1, rfl, ho1, hb1⟩
  obtain rfl : n1 = n := by have h := ho1.len; rw [HC.out] at h; omega
  have HO1 := Lib.hid ho1
  have HP1 := Lib.hid (HP.out.old hb1)
  have HX1 := Lib.hid (HX.out.old hb1)
  have HRB1 := Lib.hid (HRB.out.old hb1)
  have HW1 := Lib.hid (bt HW.out hb1)
  have z1 := hb1.size
  clear ho1 hb1 HP HX HRB
  have p : Bk w1 (w.heap.size) 25 #[.string nm, .slice A n1 cap, .slice B m capb, .int .i64 df] := HP1.out
  have zp : w.heap.size < w1.heap.size := p.lt
  have p_0 : w1.cell? ⟨w.heap.size, 0, none⟩ = some (.string nm) := p.cell 0
  have p_1 : w1.cell? ⟨w.heap.size, 1, none⟩ = some (.slice A n1 cap) := p.cell 1
  have p_2 : w1.cell? ⟨w.heap.size, 2, none⟩ = some (.slice B m capb) := p.cell 2
  have p_3 : w1.cell? ⟨w.heap.size, 3, none⟩ = some (.int .i64 df) := p.cell 3
  have pf := p.free
  have Hp := Lib.hid p
  clear p
  have x : Bk w1 (w.heap.size + 1 + 1) 34 #[.string nm, .slice none 0 0, .slice none 0 0, .int .i64 0] := HX1.out
  have zx : w.heap.size + 1 + 1 < w1.heap.size := x.lt
  have x_0 : w1.cell? ⟨w.heap.size + 1 + 1, 0, none⟩ = some (.string nm) := x.cell 0
  have x_1 : w1.cell? ⟨w.heap.size + 1 + 1, 1, none⟩ = some (.slice none 0 0) := x.cell 1
  have x_2 : w1.cell? ⟨w.heap.size + 1 + 1, 2, none⟩ = some (.slice none 0 0) := x.cell 2
  have x_3 : w1.cell? ⟨w.heap.size + 1 + 1, 3, none⟩ = some (.int .i64 0) := x.cell 3
  have xf := x.free
  have Hx := Lib.hid x
  clear x
  go_wp2_with fail
  refine gen_world ?_
  intro V2 hV2
  have zz : V2.heap.size = w1.heap.size := by rw [hV2]; simp [World.setCell]
  have HP2 := Lib.hid (show Bk V2 w.heap.size 25 #[.string nm, .slice A n1 cap, .slice B m capb, .int .i64 df] from by rw [hV2]; exact HP1.out.farB (by omega))
  have HX2 := Lib.hid (show Bk V2 (w.heap.size + 1 + 1) 34 #[.string nm, .slice A1 n1 c1, .slice none 0 0, .int .i64 0] from by rw [hV2]; exact HX1.out.set 1 _)
  have HRB2 := Lib.hid (show Bk V2 (w.heap.size + 1) 34 #[.string ByteArray.empty, .slice none 0 0, .slice none 0 0, .int .i64 0] from by rw [hV2]; exact HRB1.out.farB (by omega))
  have HO2 := Lib.hid (show IOwn V2 V.heap.size w1.heap.size 74 8 A1 n1 c1 lc from by rw [hV2]; exact HO1.out.farB (by omega))
  have HW2 := Lib.hid (show Below w.heap.size w V2 from by rw [hV2]; exact bsB HW1.out (by omega))
  clear hV2 p_0 p_1 p_2 p_3 pf zp Hp x_0 x_1 x_2 x_3 xf zx Hx HP1 HX1 HRB1 HO1
  refine (toFilterS_any B m capb lf V2 HF.out (HRF.out.below HW2.out) hm).mono ?_
  unfold NewFilterS
  rintro e w2 ⟨B1, m1, d1, rfl, ho3, hb3⟩
  obtain rfl : m1 = m := by have h := ho3.len; rw [HF.out] at h; omega
  have HO3 := Lib.hid ho3
  have HO4 := Lib.hid (HO2.out.old hb3)
  have HW3 := Lib.hid (bt HW2.out hb3)
  have z3 := hb3.size
  have p : Bk w2 (w.heap.size) 25 #[.string nm, .slice A n1 cap, .slice B m1 capb, .int .i64 df] := HP2.out.old hb3
  have zp : w.heap.size < w2.heap.size := p.lt
  have p_0 : w2.cell? ⟨w.heap.size, 0, none⟩ = some (.string nm) := p.cell 0
  have p_1 : w2.cell? ⟨w.heap.size, 1, none⟩ = some (.slice A n1 cap) := p.cell 1
  have p_2 : w2.cell? ⟨w.heap.size, 2, none⟩ = some (.slice B m1 capb) := p.cell 2
  have p_3 : w2.cell? ⟨w.heap.size, 3, none⟩ = some (.int .i64 df) := p.cell 3
  have pf := p.free
  have Hp := Lib.hid p
  clear p
  have x : Bk w2 (w.heap.size + 1 + 1) 34 #[.string nm, .slice A1 n1 c1, .slice none 0 0, .int .i64 0] := HX2.out.old hb3
  have zx : w.heap.size + 1 + 1 < w2.heap.size := x.lt
  have x_0 : w2.cell? ⟨w.heap.size + 1 + 1, 0, none⟩ = some (.string nm) := x.cell 0
  have x_1 : w2.cell? ⟨w.heap.size + 1 + 1, 1, none⟩ = some (.slice A1 n1 c1) := x.cell 1
  have x_2 : w2.cell? ⟨w.heap.size + 1 + 1, 2, none⟩ = some (.slice none 0 0) := x.cell 2
  have x_3 : w2.cell? ⟨w.heap.size + 1 + 1, 3, none⟩ = some (.int .i64 0) := x.cell 3
  have xf := x.free
  have Hx := Lib.hid x
  clear x
  have r : Bk w2 (w.heap.size + 1) 34 #[.string ByteArray.empty, .slice none 0 0, .slice none 0 0, .int .i64 0] := HRB2.out.old hb3
  have zr : w.heap.size + 1 < w2.heap.size := r.lt
  have r_0 : w2.cell? ⟨w.heap.size + 1, 0, none⟩ = some (.string ByteArray.empty) := r.cell 0
  have r_1 : w2.cell? ⟨w.heap.size + 1, 1, none⟩ = some (.slice none 0 0) := r.cell 1
  have r_2 : w2.cell? ⟨w.heap.size + 1, 2, none⟩ = some (.slice none 0 0) := r.cell 2
  have r_3 : w2.cell? ⟨w.heap.size + 1, 3, none⟩ = some (.int .i64 0) := r.cell 3
  have rf := r.free
  have Hr := Lib.hid r
  clear r
  clear ho3 hb3
  go_wp2_with fail
  exact bodyPost_ret (v := .agg #[.string nm, .slice A1 n1 c1, .slice B1 m1 d1, .int .i64 df]) (by simp [results, Tryd.results8, go_sem, r_0, r_1, r_2, r_3]) rfl
    ⟨A1, c1, B1, d1, w1.heap.size, rfl, IOwn.lo_le (lo := V.heap.size) (by repeat' (first | (with_reducible exact HO4.out) | (refine IOwn.farB ?_ (by omega)))) (by omega), IOwn.here (IOwn.lo_le (lo := V2.heap.size) (lo' := w1.heap.size) (hi := w2.heap.size) (by repeat' (first | (with_reducible exact HO3.out) | (refine IOwn.farB ?_ (by omega)))) (by omega)), by omega, by simp [World.setCell]; omega, (by repeat (first | (with_reducible exact HW3.out) | (with_reducible refine ba ?_ _) | (with_reducible refine bsB ?_ (by omega)) | (with_reducible refine bd ?_ _) | (with_reducible refine Below.drew ?_)))⟩
set_option maxHeartbeats 1000000 in
theorem eqConfig_any (nm : ByteArray) (A : Option Addr) (n cap : Nat) (B : Option Addr) (m capb : Nat) (df : Int) (A' : Option Addr) (cap' : Nat) (B' : Option Addr) (capb' : Nat) (lc lf : List Int) (w : World) (hc : lc.length = n * 8) (hf : lf.length = m * 5) (hr : IRow w A lc) (hrf : IRow w B lf) (hr' : IRow w A' lc) (hrf' : IRow w B' lf) (hn : n ≤ 1048576) (hm : m ≤ 1048576) :
    Calls Tryd.prog 11 #[.agg #[.string nm, .slice A n cap, .slice B m capb, .int .i64 df], .agg #[.string nm, .slice A' n cap', .slice B' m capb', .int .i64 df]] w fun e w' => e = .returned (.bool true) ∧ Below w.heap.size w w' := by
  have HEC := Lib.hid (fun W (hb : Below w.heap.size w W) => eqClassS_any A A' n cap cap' lc W hc (by omega) (hr.below hb) (hr'.below hb))
  have HEF := Lib.hid (fun W (hb : Below w.heap.size w W) => eqFilterS_any B B' m capb capb' lf W hf (by omega) (hrf.below hb) (hrf'.below hb))
  have hee : (nm.toList == nm.toList) = true := beq_self_eq_true _
  clear hc hf hr hrf hr' hrf'
  go_enter Tryd.func11, Tryd.ntmps11
  go_wp2_with fail
  refine (HEC.out _ (ba (ba (b0 w) _) _)).mono ?_
  rintro e w1 ⟨rfl, hb1⟩
  have HX1 := Lib.hid (((Bk.new w 34 #[.string nm, .slice A n cap, .slice B m capb, .int .i64 df]).alloc (.cells #[.string nm, .slice A' n cap', .slice B' m capb', .int .i64 df] 34)).old hb1)
  have HY1 := Lib.hid ((show Bk ((w.alloc (.cells #[.string nm, .slice A n cap, .slice B m capb, .int .i64 df] 34)).alloc (.cells #[.string nm, .slice A' n cap', .slice B' m capb', .int .i64 df] 34)) (w.heap.size + 1) 34 #[.string nm, .slice A' n cap', .slice B' m capb', .int .i64 df] from Bk.new_ (by simp)).old hb1)
  have HW1 := Lib.hid (bt (ba (ba (b0 w) _) _) hb1)
  have x : Bk w1 (w.heap.size) 34 #[.string nm, .slice A n cap, .slice B m capb, .int .i64 df] := HX1.out
  have zx : w.heap.size < w1.heap.size := x.lt
  have x_0 : w1.cell? ⟨w.heap.size, 0, none⟩ = some (.string nm) := x.cell 0
  have x_1 : w1.cell? ⟨w.heap.size, 1, none⟩ = some (.slice A n cap) := x.cell 1
  have x_2 : w1.cell? ⟨w.heap.size, 2, none⟩ = some (.slice B m capb) := x.cell 2
  have x_3 : w1.cell? ⟨w.heap.size, 3, none⟩ = some (.int .i64 df) := x.cell 3
  have xf := x.free
  have Hx := Lib.hid x
  clear x
  have y : Bk w1 (w.heap.size + 1) 34 #[.string nm, .slice A' n cap', .slice B' m capb', .int .i64 df] := HY1.out
  have zy : w.heap.size + 1 < w1.heap.size := y.lt
  have y_0 : w1.cell? ⟨w.heap.size + 1, 0, none⟩ = some (.string nm) := y.cell 0
  have y_1 : w1.cell? ⟨w.heap.size + 1, 1, none⟩ = some (.slice A' n cap') := y.cell 1
  have y_2 : w1.cell? ⟨w.heap.size + 1, 2, none⟩ = some (.slice B' m capb') := y.cell 2
  have y_3 : w1.cell? ⟨w.heap.size + 1, 3, none⟩ = some (.int .i64 df) := y.cell 3
  have yf := y.free
  have Hy := Lib.hid y
  clear y
  clear hb1
  go_wp2_with fail
  refine (HEF.out _ HW1.out).mono ?_
  rintro e w2 ⟨rfl, hb2⟩
  have HW2 := Lib.hid (bt HW1.out hb2)
  have HX2 := Lib.hid (HX1.out.old hb2)
  have HY2 := Lib.hid (HY1.out.old hb2)
  clear hb2 x_0 x_1 x_2 x_3 xf zx Hx y_0 y_1 y_2 y_3 yf zy Hy
  have x : Bk w2 (w.heap.size) 34 #[.string nm, .slice A n cap, .slice B m capb, .int .i64 df] := HX2.out
  have zx : w.heap.size < w2.heap.size := x.lt
  have x_0 : w2.cell? ⟨w.heap.size, 0, none⟩ = some (.string nm) := x.cell 0
  have x_1 : w2.cell? ⟨w.heap.size, 1, none⟩ = some (.slice A n cap) := x.cell 1
  have x_2 : w2.cell? ⟨w.heap.size, 2, none⟩ = some (.slice B m capb) := x.cell 2
  have x_3 : w2.cell? ⟨w.heap.size, 3, none⟩ = some (.int .i64 df) := x.cell 3
  have xf := x.free
  have Hx := Lib.hid x
  clear x
  have y : Bk w2 (w.heap.size + 1) 34 #[.string nm, .slice A' n cap', .slice B' m capb', .int .i64 df] := HY2.out
  have zy : w.heap.size + 1 < w2.heap.size := y.lt
  have y_0 : w2.cell? ⟨w.heap.size + 1, 0, none⟩ = some (.string nm) := y.cell 0
  have y_1 : w2.cell? ⟨w.heap.size + 1, 1, none⟩ = some (.slice A' n cap') := y.cell 1
  have y_2 : w2.cell? ⟨w.heap.size + 1, 2, none⟩ = some (.slice B' m capb') := y.cell 2
  have y_3 : w2.cell? ⟨w.heap.size + 1, 3, none⟩ = some (.int .i64 df) := y.cell 3
  have yf := y.free
  have Hy := Lib.hid y
  clear y
  go_wp2_with fail
  go_ret
  exact ⟨rfl, HW2.out⟩
end Go.Proofs.YtjajddhedahpnaaDoor
