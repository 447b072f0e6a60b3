/- The contracts of the program's IsFair. -/
import Derived.Test.YtgdldmeeaejjpaaFairLaw
import Derived.Test.YtgdldmeeaejjpaaFairBox
import Derived.Test.YtgdldmeeaejjpaaConcat
import Derived.Test.YtgdldmeeaejjpaaQueue2
namespace Go.Proofs.Ytgdldmeeaejjpaa
open Go.ChangeShapes Go.WideShapes Go.ChangeAt Go.RowKit
set_option linter.unusedVariables false
set_option maxRecDepth 100000 in
set_option maxHeartbeats 4000000 in
theorem flowRight_any (qu li : Int) (A : Option Addr) (n cap : Nat) (B : Option Addr) (m capd : Nat) (nx : Int) (op : Bool) (F : List (List Pk)) (D : List Int) (w : World) (hr : FRow w ⟨A, n, cap, B, m, capd⟩ (F.map fl) D) (hn : n ≤ 1048576) (hm : m ≤ 1048576) (h : fnum qu li n m nx = true) (k : Nat) (L : List Pk) (hk : F[k]? = some L) :
    Calls Try.prog 75 #[.agg #[.int .i64 qu, .int .i64 li, .slice A n cap, .slice B m capd, .int .i64 nx, .bool op], .int .i64 (k : Int)] w fun e w' => e = .returned (.bool (flowR qu li nx op F.length L (datD D k) k)) ∧ Below w.heap.size w w' := by
  have gn := fnum_iff.1 h
  have g1 : 100 ≤ qu ∧ qu ≤ 3000 := gn.1
  have g2 : 1 ≤ li ∧ li ≤ 20 := gn.2.1
  have g3 : 1 ≤ n ∧ n ≤ 8 := gn.2.2.1
  obtain rfl : m = n := gn.2.2.2.1
  have hfn : F.length = m := by simpa using hr.qn
  have hdn : D.length = m := hr.dn
  have hlt : k < m := by rw [← hfn]; exact (List.getElem?_eq_some_iff.1 hk).1
  have HKL := Lib.hid hk
  have HFN := Lib.hid hfn
  obtain ⟨g, off, X, x, xc, rfl, hgl, hck0, hxl, hxc, hx0, hxr⟩ := hr.q.at_ (k := k) (l := fl L) (by simp [hk])
  obtain rfl : L.length = x := by rw [fl_len] at hxl; omega
  obtain ⟨gd, od, rfl, hgd, hcd⟩ := hr.d.at_ (k := k) (by rw [hdn]; exact hlt)
  have hdk0 : w.cell? ⟨gd, od + k, none⟩ = some (.int .i64 (datD D k)) := hcd k (by rw [hdn]; exact hlt)
  have HXR := Lib.hid (fun (W : World) (hb : Below w.heap.size w W) => hxr.below hb)
  obtain ⟨d, hdd⟩ : ∃ d, d = datD D k := ⟨_, rfl⟩
  rw [← hdd] at hdk0 ⊢
  clear hxr hxl hcd hr hk hdn hfn gn h hdd
  have HIF := Lib.hid (flowR_iff (qu := qu) (li := li) (nx := nx) (op := op) (n := F.length) (L := L) (d := d) (k := k))
  by_cases hb : (L.length : Int) ≤ li ∧ (0 ≤ d ∧ d ≤ qu + 1500)
  rotate_left
  · have hR := Lib.hid (show flowR qu li nx op F.length L d k = false from bnot fun h => hb ⟨(HIF.out.1 h).1, (HIF.out.1 h).2.1⟩)
    have HN := Lib.hid hb
    clear hb
    go_enter Try.func75, Try.ntmps75
    go_wp2_with fail
    all_goals first
      | (go_ret; exact ⟨by rw [hR.out]; rfl, (by repeat (first | (with_reducible exact b0 _) | (with_reducible refine ba ?_ _) | (with_reducible refine bd ?_ _) | (with_reducible refine Below.drew ?_) | (with_reducible refine bs ?_ (by first | exact Nat.le_refl _ | exact Nat.le_add_right _ _ | omega) _) | (with_reducible refine bt ?_ (by assumption))))⟩)
      | (exfalso; have := HN.out; omega)
  have HGD := Lib.hid hb
  obtain ⟨b1, b2, b3⟩ := hb
  have hb1 : decide (li < (L.length : Int)) = false := decide_eq_false (by omega)
  have hb2 : decide (d < 0) = false := decide_eq_false (by omega)
  have hb3 : decide (qu + 1500 < d) = false := decide_eq_false (by omega)
  go_enter Try.func75, Try.ntmps75
  go_wp2_with fail
  go_loopw [37] (fun z wr => ∃ j : Nat, j ≤ L.length ∧ z = .int .i64 j ∧ fpk L F.length k j = true ∧ Bk wr w.heap.size 56 #[.int .i64 qu, .int .i64 li, .slice (some ⟨g, off, none⟩) m cap, .slice (some ⟨gd, od, none⟩) m capd, .int .i64 nx, .bool op] ∧ Below w.heap.size w wr) (fun z _ => L.length - (intOf z).toNat)
  case atStart => exact ⟨0, Nat.zero_le _, rfl, fpk_zero _ _ _, Bk.new _ _ _, ba (b0 w) _⟩
  case round =>
    obtain ⟨j, hj, rfl, hfp, hbk, hbw⟩ := hrel
    have HFP := Lib.hid hfp
    have HBW := Lib.hid hbw
    have HF := Lib.hid hbk
    clear hfp hbw hbk
    have f : Bk wr (w.heap.size) 56 #[.int .i64 qu, .int .i64 li, .slice (some ⟨g, off, none⟩) m cap, .slice (some ⟨gd, od, none⟩) m capd, .int .i64 nx, .bool op] := HF.out
    have zf : w.heap.size < wr.heap.size := f.lt
    have f_0 : wr.cell? ⟨w.heap.size, 0, none⟩ = some (.int .i64 qu) := f.cell 0
    have f_1 : wr.cell? ⟨w.heap.size, 1, none⟩ = some (.int .i64 li) := f.cell 1
    have f_2 : wr.cell? ⟨w.heap.size, 2, none⟩ = some (.slice (some ⟨g, off, none⟩) m cap) := f.cell 2
    have f_3 : wr.cell? ⟨w.heap.size, 3, none⟩ = some (.slice (some ⟨gd, od, none⟩) m capd) := f.cell 3
    have f_4 : wr.cell? ⟨w.heap.size, 4, none⟩ = some (.int .i64 nx) := f.cell 4
    have f_5 : wr.cell? ⟨w.heap.size, 5, none⟩ = some (.bool op) := f.cell 5
    have ff := f.free
    have Hf := Lib.hid f
    clear f
    by_cases hjl : j < L.length
    · obtain ⟨gx, ox, p, rfl, hgx, hpk, c0, c1', c2', c3, c4, c5⟩ := pk_at (HXR.out _ HBW.out) hjl
      have HPK := Lib.hid hpk
      clear hpk
      rcases hp : p.ok with _ | _
      · have hR := Lib.hid (show flowR qu li nx op F.length L d k = false from bnot fun h => by
          have h1 := (HIF.out.1 h).2.2.1
          rw [fpk_no HPK.out (by rw [hp]; rfl)] at h1
          cases h1)
        go_wp2_with fail
        refine (isPacket_b hp _).mono ?_
        rintro e w3 ⟨rfl, hg3⟩
        go_wp2_with fail
        go_ret
        exact ⟨by rw [hR.out]; rfl, bt (ba HBW.out _) hg3⟩
      rcases hf : decide (flw p (m : Int) = (k : Int)) with _ | _
      · have hR := Lib.hid (show flowR qu li nx op F.length L d k = false from bnot fun h => by
          have h1 := (HIF.out.1 h).2.2.1
          rw [fpk_no HPK.out (by rw [HFN.out, hf, Bool.and_false])] at h1
          cases h1)
        have hfb : (flw p (m : Int) != (k : Int)) = true := by simpa using hf
        go_wp2_with (first | (go_at_call 78; (with_reducible refine (isPacket_b hp _).mono ?_); rintro e w3 ⟨rfl, hg3⟩; have z3 := hg3.size; (try simp at z3); have r3 := fun o => bkeep hg3 wr.heap.size o (by simp); have s3 := fun o => bkeep hg3 w.heap.size o (by first | omega | (simp; done) | (simp; omega))) | (go_at_call 102; refine (flowOf_any p _ _ hp (by omega) (by omega)).mono ?_; rintro e w4 ⟨rfl, hg4⟩))
        go_ret
        exact ⟨by rw [hR.out]; rfl, bt (bt (ba HBW.out _) hg3) hg4⟩
      have hfb : (flw p (m : Int) != (k : Int)) = false := by simpa using hf
      have HS1 := Lib.hid (show fpk L F.length k (j + 1) = true from by rw [fpk_succ HPK.out, HFP.out, hp, HFN.out, hf]; rfl)
      go_wp2_with (first | (go_at_call 78; (with_reducible refine (isPacket_b hp _).mono ?_); rintro e w3 ⟨rfl, hg3⟩; have z3 := hg3.size; (try simp at z3); have r3 := fun o => bkeep hg3 wr.heap.size o (by simp); have s3 := fun o => bkeep hg3 w.heap.size o (by first | omega | (simp; done) | (simp; omega))) | (go_at_call 102; refine (flowOf_any p _ _ hp (by omega) (by omega)).mono ?_; rintro e w4 ⟨rfl, hg4⟩))
      go_roundw
      case rel => exact ⟨j + 1, by omega, by go_num, HS1.out, ((HF.out.alloc _).old hg3).old hg4, bt (bt (ba HBW.out _) hg3) hg4⟩
      case measure => simp [intOf]; omega
    · obtain rfl : j = L.length := by omega
      rcases Nat.eq_zero_or_pos L.length with hz0 | hpos
      · have hq0 : ((L.length : Int) == 0) = true := by simp; exact List.eq_nil_of_length_eq_zero hz0
        rcases hd : (d == 0) with _ | _
        · have hR := Lib.hid (show flowR qu li nx op F.length L d k = false from bnot fun h => by
            have h1 := (HIF.out.1 h).2.2.2.1 hz0
            rw [h1] at hd
            cases hd)
          go_wp2_with fail
          go_ret
          exact ⟨by rw [hR.out]; rfl, HBW.out⟩
        · have hR := Lib.hid (show flowR qu li nx op F.length L d k = true from HIF.out.2 ⟨HGD.out.1, HGD.out.2, HFP.out, fun _ => by simpa using hd, fun h => by omega⟩)
          go_wp2_with fail
          go_ret
          exact ⟨by rw [hR.out]; rfl, HBW.out⟩
      · have hq0 : ((L.length : Int) == 0) = false := by simp; intro e; rw [e] at hpos; simp at hpos
        obtain ⟨gx, ox, p0, rfl, hgx, hpk, c0, c1', c2', c3, c4, c5⟩ := pk_at (HXR.out _ HBW.out) hpos
        simp only [Nat.zero_mul, Nat.add_zero] at c5
        have HP0 := Lib.hid (show (pat L 0).si = p0.si from by rw [pat_of hpk])
        clear hpk c0 c1' c2' c3 c4
        have hR0 : flowR qu li nx op F.length L d k = (decide ((op = true ∧ (k : Int) = nx) ∨ d < p0.si)) := by
          rw [Bool.eq_iff_iff, HIF.out, decide_eq_true_eq, HP0.out]
          exact ⟨fun h => h.2.2.2.2 hpos, fun h => ⟨HGD.out.1, HGD.out.2, HFP.out, fun h' => by omega, fun _ => h⟩⟩
        have HR0 := Lib.hid hR0
        clear hR0
        rcases op with _ | _
        · have hR := Lib.hid (show flowR qu li nx false F.length L d k = decide (d < p0.si) from by rw [HR0.out]; simp)
          go_wp2_with fail
          go_ret
          exact ⟨ret_b (by rw [hR.out]), HBW.out⟩
        rcases hq : ((k : Int) == nx) with _ | _
        · have hR := Lib.hid (show flowR qu li nx true F.length L d k = decide (d < p0.si) from by
            have hne : ¬ (k : Int) = nx := by simpa using hq
            rw [HR0.out]
            exact decide_eq_decide.2 ⟨fun h => by rcases h with h | h; exact absurd h.2 hne; exact h, .inr⟩)
          go_wp2_with fail
          go_ret
          exact ⟨ret_b (by rw [hR.out]), HBW.out⟩
        · have hR := Lib.hid (show flowR qu li nx true F.length L d k = true from by
            have he : (k : Int) = nx := by simpa using hq
            rw [HR0.out]
            exact decide_eq_true (.inl ⟨rfl, he⟩))
          go_wp2_with fail
          go_ret
          exact ⟨by rw [hR.out]; rfl, HBW.out⟩
theorem flowRight_b {b : Bool} (qu li : Int) (A : Option Addr) (n cap : Nat) (B : Option Addr) (m capd : Nat) (nx : Int) (op : Bool) (F : List (List Pk)) (D : List Int) (w : World) (hr : FRow w ⟨A, n, cap, B, m, capd⟩ (F.map fl) D) (hn : n ≤ 1048576) (hm : m ≤ 1048576) (h : fnum qu li n m nx = true) (k : Nat) (L : List Pk) (hk : F[k]? = some L) (hb : flowR qu li nx op F.length L (datD D k) k = b) :
    Calls Try.prog 75 #[.agg #[.int .i64 qu, .int .i64 li, .slice A n cap, .slice B m capd, .int .i64 nx, .bool op], .int .i64 (k : Int)] w fun e w' => e = .returned (.bool b) ∧ Below w.heap.size w w' := hb ▸ flowRight_any qu li A n cap B m capd nx op F D w hr hn hm h k L hk
theorem flat_len : ∀ {F : List (List Pk)} {b : Nat}, (∀ L ∈ F, L.length ≤ b) → F.flatten.length ≤ F.length * b
  | [], _, _ => by simp
  | L :: F, b, h => by
    have h1 := h L (by simp)
    have h2 := flat_len (F := F) (b := b) fun M hM => h M (by simp [hM])
    rw [List.flatten_cons, List.length_append, List.length_cons, Nat.succ_mul]
    omega
theorem FGood.len {qu li nx : Int} {op : Bool} {F : List (List Pk)} {D : List Int} {m : Nat} (h : FGood qu li nx op F D m) (hm : F.length = m) (h2 : li ≤ 20) : F.flatten.length ≤ m * 20 := by
  subst hm
  refine flat_len fun L hL => ?_
  obtain ⟨i, hi⟩ := List.mem_iff_getElem?.1 hL
  have h1 := h i (List.getElem?_eq_some_iff.1 hi).1
  rw [rowF_of hi] at h1
  have := (flowR_iff.1 h1).1
  omega
set_option maxRecDepth 100000 in
set_option maxHeartbeats 4000000 in
theorem implIsFair_any (qu li : Int) (A : Option Addr) (n cap : Nat) (B : Option Addr) (m capd : Nat) (nx : Int) (op : Bool) (F : List (List Pk)) (D : List Int) (w : World) (hr : FRow w ⟨A, n, cap, B, m, capd⟩ (F.map fl) D) (hn : n ≤ 1048576) (hm : m ≤ 1048576) :
    Calls Try.prog 32 #[.agg #[.int .i64 qu, .int .i64 li, .slice A n cap, .slice B m capd, .int .i64 nx, .bool op]] w fun e w' => e = .returned (.bool (fok qu li F D nx op)) ∧ Below w.heap.size w w' := by
  have hdn : D.length = m := hr.dn
  have hfn : F.length = n := by simpa using hr.qn
  rcases h : fnum qu li n m nx with _ | _
  · have hR := Lib.hid (show fok qu li F D nx op = false from fok_num (by rw [hfn, hdn]; exact h))
    have HN := Lib.hid (show ¬ ((100 ≤ qu ∧ qu ≤ 3000) ∧ (1 ≤ li ∧ li ≤ 20) ∧ (1 ≤ n ∧ n ≤ 8) ∧ m = n ∧ (0 ≤ nx ∧ nx < (n : Int))) from fun h' => by rw [fnum_iff.2 h'] at h; cases h)
    clear hr h hdn hfn
    by_cases hmn : m = n
    · subst hmn
      rcases hx : decide ((m : Int) ≤ nx) with _ | _
      rotate_left
      have hx1 := of_decide_eq_true hx
      rotate_left
      have hx1 := of_decide_eq_false hx
      all_goals
       have HX1 := Lib.hid hx1
       clear hx1
       go_enter Try.func32, Try.ntmps32
       go_wp2_with fail
       all_goals first
        | (go_ret; exact ⟨by rw [hR.out]; rfl, (by repeat (first | (with_reducible exact b0 _) | (with_reducible refine ba ?_ _) | (with_reducible refine bd ?_ _) | (with_reducible refine Below.drew ?_) | (with_reducible refine bs ?_ (by first | exact Nat.le_refl _ | exact Nat.le_add_right _ _ | omega) _) | (with_reducible refine bt ?_ (by assumption))))⟩)
        | (exfalso; have h1 := HN.out; have h2 := HX1.out; simp only [true_and] at h1; omega)
    · have hmn' : ((m : Int) != (n : Int)) = true := bne_iff_ne.2 (by omega)
      clear hmn
      go_enter Try.func32, Try.ntmps32
      go_wp2_with fail
      all_goals first
        | (go_ret; exact ⟨by rw [hR.out]; rfl, (by repeat (first | (with_reducible exact b0 _) | (with_reducible refine ba ?_ _) | (with_reducible refine bd ?_ _) | (with_reducible refine Below.drew ?_) | (with_reducible refine bs ?_ (by first | exact Nat.le_refl _ | exact Nat.le_add_right _ _ | omega) _) | (with_reducible refine bt ?_ (by assumption))))⟩)
        | (exfalso; have := HN.out; omega)
  have HNM := Lib.hid h
  have gn := fnum_iff.1 h
  have g1 : 100 ≤ qu ∧ qu ≤ 3000 := gn.1
  have g2 : 1 ≤ li ∧ li ≤ 20 := gn.2.1
  have g3 : 1 ≤ n ∧ n ≤ 8 := gn.2.2.1
  obtain rfl : m = n := gn.2.2.2.1
  obtain ⟨i, rfl⟩ : ∃ i : Nat, nx = (i : Int) := ⟨nx.toNat, by omega⟩
  have g4 : i < m := by omega
  have HDN := Lib.hid hdn
  have HFN := Lib.hid hfn
  have HR := Lib.hid (fun (W : World) (hb : Below w.heap.size w W) => hr.below hb)
  have HNO := Lib.hid (fun (k : Nat) (L : List Pk) (hk : F[k]? = some L) (h : ¬ flowR qu li i op F.length L (datD D k) k = true) => fok_flow (D := D) hk h)
  clear hr h gn hdn hfn
  have d1 : decide (qu < 100) = false := decide_eq_false (by omega)
  have d2 : decide (3000 < qu) = false := decide_eq_false (by omega)
  have d3 : decide (li < 1) = false := decide_eq_false (by omega)
  have d4 : decide (20 < li) = false := decide_eq_false (by omega)
  have d5 : decide ((m : Int) < 1) = false := decide_eq_false (by omega)
  have d6 : decide (8 < (m : Int)) = false := decide_eq_false (by omega)
  have d7 : decide ((i : Int) < 0) = false := decide_eq_false (by omega)
  have d9 : ((m : Int) != (m : Int)) = false := by simp
  have d10 : decide (m ≤ i) = false := decide_eq_false (by omega)
  have d8 : decide ((m : Int) ≤ (i : Int)) = false := decide_eq_false (by omega)
  go_enter Try.func32, Try.ntmps32
  go_wp2_with fail
  go_loopw [55] (fun z wr => ∃ k : Nat, k ≤ m ∧ z = .int .i64 k ∧ FGood qu li i op F D k ∧ Bk wr w.heap.size 56 #[.int .i64 qu, .int .i64 li, .slice A m cap, .slice B m capd, .int .i64 i, .bool op] ∧ Below w.heap.size w wr) (fun z _ => m - (intOf z).toNat)
  case atStart => exact ⟨0, Nat.zero_le _, rfl, FGood.zero, Bk.new _ _ _, ba (b0 w) _⟩
  case round =>
    obtain ⟨k, hk, rfl, hgood, hbk, hbw⟩ := hrel
    have HGD := Lib.hid hgood
    have HBW := Lib.hid hbw
    have HF := Lib.hid hbk
    clear hgood hbw hbk
    have f : Bk wr (w.heap.size) 56 #[.int .i64 qu, .int .i64 li, .slice A m cap, .slice B m capd, .int .i64 i, .bool op] := HF.out
    have zf : w.heap.size < wr.heap.size := f.lt
    have f_0 : wr.cell? ⟨w.heap.size, 0, none⟩ = some (.int .i64 qu) := f.cell 0
    have f_1 : wr.cell? ⟨w.heap.size, 1, none⟩ = some (.int .i64 li) := f.cell 1
    have f_2 : wr.cell? ⟨w.heap.size, 2, none⟩ = some (.slice A m cap) := f.cell 2
    have f_3 : wr.cell? ⟨w.heap.size, 3, none⟩ = some (.slice B m capd) := f.cell 3
    have f_4 : wr.cell? ⟨w.heap.size, 4, none⟩ = some (.int .i64 i) := f.cell 4
    have f_5 : wr.cell? ⟨w.heap.size, 5, none⟩ = some (.bool op) := f.cell 5
    have ff := f.free
    have Hf := Lib.hid f
    clear f
    by_cases hlt : k < m
    · obtain ⟨L, hkl⟩ : ∃ L, F[k]? = some L := ⟨_, List.getElem?_eq_getElem (by rw [HFN.out]; exact hlt)⟩
      have HKL := Lib.hid hkl
      clear hkl
      rcases hfr : flowR qu li i op F.length L (datD D k) k with _ | _
      · have hR := Lib.hid (HNO.out k L HKL.out (by rw [hfr]; exact fun h => by cases h))
        go_wp2_with fail
        refine (flowRight_b _ _ _ _ _ _ _ _ _ _ F D _ (HR.out _ HBW.out) hn hm HNM.out k L HKL.out hfr).mono ?_
        rintro e w2 ⟨rfl, hg2⟩
        go_wp2_with fail
        go_ret
        exact ⟨by rw [hR.out]; rfl, bt HBW.out hg2⟩
      · have HS := Lib.hid (HGD.out.succ HKL.out hfr)
        go_wp2_with fail
        refine (flowRight_b _ _ _ _ _ _ _ _ _ _ F D _ (HR.out _ HBW.out) hn hm HNM.out k L HKL.out hfr).mono ?_
        rintro e w2 ⟨rfl, hg2⟩
        go_wp2_with fail
        go_roundw
        case rel => exact ⟨k + 1, by omega, by go_num, HS.out, HF.out.old hg2, bt HBW.out hg2⟩
        case measure => simp [intOf]; omega
    · obtain rfl : k = m := by omega
      have HLN := Lib.hid (HGD.out.len HFN.out (by omega))
      have hl20 := HLN.out
      have HK := Lib.hid (fun (h : op = true → 0 < (rowF F i).length) => show fok qu li F D i op = apart F.flatten from by
        rw [Bool.eq_iff_iff, fok_iff]
        exact ⟨fun h => h.2.2.2, fun h' => ⟨by rw [HFN.out, HDN.out]; exact HNM.out, fun k' hk' => HGD.out k' (by rw [← HFN.out]; exact hk'), by simpa using h, h'⟩⟩)
      obtain ⟨L, hkl⟩ : ∃ L, F[i]? = some L := ⟨_, List.getElem?_eq_getElem (by rw [HFN.out]; exact g4)⟩
      obtain ⟨g, off, X, x, xc, rfl, hgl, hck0, hxl, hxc, hx0, hxr⟩ := (HR.out w (b0 w)).q.at_ (k := i) (l := fl L) (by simp [hkl])
      have hck := (HBW.out.cell (p := ⟨g, off + i, none⟩) hgl).trans hck0
      obtain rfl : L.length = x := by rw [fl_len] at hxl; omega
      have HRF := Lib.hid (rowF_of hkl)
      clear hck0 hxl hxr hkl
      by_cases hbad : op = true ∧ L.length = 0
      · obtain ⟨rfl, h0⟩ := hbad
        have hR := Lib.hid (show fok qu li F D i true = false from bnot fun h => by
          have := (fok_iff.1 h).2.2.1 rfl
          rw [Int.toNat_natCast, HRF.out] at this
          omega)
        have hq0 : ((L.length : Int) == 0) = true := by simp; exact List.eq_nil_of_length_eq_zero h0
        go_wp2_with fail
        go_ret
        exact ⟨by rw [hR.out]; rfl, HBW.out⟩
      have HK2 := Lib.hid (HK.out (fun h => by rw [HRF.out]; rcases Nat.eq_zero_or_pos L.length with h' | h'; exact absurd ⟨h, h'⟩ hbad; exact h'))
      have hq : op = true → ((L.length : Int) == 0) = false := fun h => by simp; intro e; exact hbad ⟨h, by rw [e]; rfl⟩
      have HQN := Lib.hid (HR.out _ HBW.out).q
      clear hbad
      rcases op with _ | _
      rotate_left
      have hq0 := hq rfl
      all_goals
        clear hq
        go_wp2_with fail
        refine (concat_any _ _ _ F _ HFN.out HQN.out hn (by omega)).mono ?_
        rintro e w2 ⟨C, c0, c1, rfl, ho, hg2⟩
        have HFL := Lib.hid (show F.flatten.length = c0 by have := ho.len; rw [fl_len] at this; omega)
        have hc0 : c0 ≤ 160 := by have := HFL.out; omega
        have HO := Lib.hid ho
        have HB2 := Lib.hid (bt HBW.out hg2)
        clear ho hg2
        generalize F.flatten = T at *
        go_wp2_with fail
        refine (apartIds_any _ _ _ T _ HFL.out HO.out.row (by omega) HO.out.cap).mono ?_
        rintro e w3 ⟨rfl, hg3⟩
        go_wp2_with fail
        go_ret
        exact ⟨by rw [HK2.out]; rfl, bt HB2.out hg3⟩
theorem implIsFair_b {b : Bool} (qu li : Int) (A : Option Addr) (n cap : Nat) (B : Option Addr) (m capd : Nat) (nx : Int) (op : Bool) (F : List (List Pk)) (D : List Int) (w : World) (hr : FRow w ⟨A, n, cap, B, m, capd⟩ (F.map fl) D) (hn : n ≤ 1048576) (hm : m ≤ 1048576) (h : fok qu li F D nx op = b) :
    Calls Try.prog 32 #[.agg #[.int .i64 qu, .int .i64 li, .slice A n cap, .slice B m capd, .int .i64 nx, .bool op]] w fun e w' => e = .returned (.bool b) ∧ Below w.heap.size w w' := h ▸ implIsFair_any qu li A n cap B m capd nx op F D w hr hn hm
end Go.Proofs.Ytgdldmeeaejjpaa
