/- The contracts of DropFlow. -/
import Derived.Test.YtgdldmeeaejjpaaFairOwn
namespace Go.Proofs.Ytgdldmeeaejjpaa
open Go.ChangeShapes Go.WideShapes Go.ChangeAt Go.RowKit
set_option linter.unusedVariables false
theorem keepT_set {w : World} {g o : Nat} {u : Value} {T : TypeId} {cs : Array Value} {f : Nat × Nat} (h : w.heap[g]? = some (.cells cs T f)) : KeepT T w (w.setCell ⟨g, o, none⟩ u) := fun b cs' t f' hb ht => by
  refine Below.heap_setCell w ⟨g, o, none⟩ u b (show b ≠ g from ?_)
  rintro rfl
  rw [h] at hb
  injection hb with hb
  injection hb with _ hb
  exact ht hb.symm
/-- A scheduler of the call's own, one flow emptied. -/
theorem FOwn.drop {w : World} {lo hi : Nat} {A : Option Addr} {n cap : Nat} {B : Option Addr} {m capd : Nat} {G : List (List Int)} {D : List Int} {i : Nat} (h : FOwn w lo hi ⟨A, n, cap, B, m, capd⟩ G D) (hi1 : i < n) (hi2 : i < m) :
    ∃ g gd v0 d0, A = some ⟨g, 0, none⟩ ∧ B = some ⟨gd, 0, none⟩ ∧ (lo ≤ g ∧ g < hi ∧ lo ≤ gd ∧ gd < hi) ∧ g ≠ gd ∧ g < w.heap.size ∧ gd < w.heap.size ∧ w.cell? ⟨g, i, none⟩ = some v0 ∧ w.frozen? ⟨g, i, none⟩ = false ∧ w.cell? ⟨gd, i, none⟩ = some (.int .i64 d0) ∧ w.frozen? ⟨gd, i, none⟩ = false ∧
      FOwn ((w.setCell ⟨g, i, none⟩ (.slice none 0 0)).setCell ⟨gd, i, none⟩ (.int .i64 0)) lo hi ⟨A, n, cap, B, m, capd⟩ (G.set i []) (D.set i 0) := by
  obtain ⟨⟨S, hS⟩, hd⟩ := h
  simp only at hS hd
  obtain ⟨g, rfl, p1, p2, p3, hc, hf, cs, fz, hg⟩ := hS.at_ hi1
  have hlen := hd.len
  obtain ⟨gd, rfl, q1, q2, q3, hcd, hfd⟩ := hd.at_ (k := i) (by omega)
  obtain ⟨_, _, _, csd, fd, hgd⟩ := hd.blk (g := gd) rfl
  have hne : g ≠ gd := by
    rintro rfl
    rw [hg] at hgd
    injection hgd with e
    injection e with _ e
    cases e
  obtain ⟨s0, hs0⟩ : ∃ s, S[i]? = some s := ⟨_, List.getElem?_eq_getElem (by rw [hS.slen]; exact hi1)⟩
  have hput := hS.put (i := i) (s := ⟨none, 0, 0⟩) (l := []) (IOwn.none_ _ _ _ _ _) (fun j t b _ _ hb => by cases hb)
  have hd1 : IOwn (w.setCell ⟨g, i, none⟩ (.slice none 0 0)) lo hi 3 1 (some ⟨gd, 0, none⟩) m capd D := hd.keepT (keepT_set hg) (by decide)
  obtain ⟨_, _, _, csd1, fd1, hgd1⟩ := hd1.blk (g := gd) rfl
  refine ⟨g, gd, s0.v, _, rfl, rfl, ⟨p1, p2, q1, q2⟩, hne, p3, q3, hc i s0 hs0, hf i, hcd i (by omega), hfd i, ?_, hd1.set_ i 0⟩
  exact NOwn.keepT ⟨_, hput⟩ (keepT_set hgd1) (by decide) (by decide)
/-! ### DropFlow -/
def dfOp (nx z : Int) (op : Bool) : Bool := if nx = z then false else op
def DfP (w : World) (qu li : Int) (F : List (List Pk)) (D : List Int) (nx : Int) (op : Bool) (z : Int) : Ending → World → Prop :=
  NewFaB w (ifz (rdOk qu li F D nx op z) qu) (ifz (rdOk qu li F D nx op z) li) (ifz (rdOk qu li F D nx op z) nx) (rdOk qu li F D nx op z && dfOp nx z op) (ifG (rdOk qu li F D nx op z) ((F.map fl).set z.toNat [])) (ifG (rdOk qu li F D nx op z) (D.set z.toNat 0)) (rdOk qu li F D nx op z)
theorem DfP_no {w : World} {qu li : Int} {F : List (List Pk)} {D : List Int} {nx : Int} {op : Bool} {z : Int} (h : rdOk qu li F D nx op z = false) : DfP w qu li F D nx op z = NewFaB w 0 0 0 false [] [] false := by simp [DfP, h, ifz, ifG]
theorem DfP_yes {w : World} {qu li : Int} {F : List (List Pk)} {D : List Int} {nx : Int} {op : Bool} {z : Int} (h : rdOk qu li F D nx op z = true) : DfP w qu li F D nx op z = NewFaB w qu li nx (dfOp nx z op) ((F.map fl).set z.toNat []) (D.set z.toNat 0) true := by simp [DfP, h, ifz, ifG]
set_option maxHeartbeats 2000000 in
theorem specDf_bad (z : Int) (qu li : Int) (A : Option Addr) (n cap : Nat) (B : Option Addr) (m capd : Nat) (nx : Int) (op : Bool) (F : List (List Pk)) (D : List Int) (w : World) (hr : FRow w ⟨A, n, cap, B, m, capd⟩ (F.map fl) D) (hn : n ≤ 1048576) (hm : m ≤ 1048576) (h : rdOk qu li F D nx op z = false) :
    Calls Try.prog 44 #[.agg #[.int .i64 qu, .int .i64 li, .slice A n cap, .slice B m capd, .int .i64 nx, .bool op], .int .i64 z] w (DfP w qu li F D nx op z) := by
  rw [DfP_no h]
  have HO := Lib.hid h
  have HFN := Lib.hid (show F.length = n by simpa using hr.qn); have HDN := Lib.hid (show D.length = m from hr.dn); have HR := Lib.hid (fun (W : World) (hb : Below w.heap.size w W) => hr.below hb); clear hr
  have HE := Lib.hid (show rdOk qu li F D nx op z = (fok qu li F D nx op && decide (0 ≤ z ∧ z < (n : Int))) by rw [rdOk, HFN.out])
  clear h
  rcases h : fok qu li F D nx op with _ | _
  · go_enter Try.func44, Try.ntmps44
    go_wp2_with (go_at_call 72; (with_reducible refine (faGood_b _ _ _ _ _ _ _ _ _ _ F D _ (HR.out _ (ba (ba (b0 w) _) _)) hn hm h).mono ?_); rintro e w1 ⟨rfl, hg⟩; have zhg := hg.size; (try simp at zhg); have c0hg := fun o => bkeep hg (w.heap.size) o (by first | omega | (simp; done) | (simp; omega)); have f0hg := fun o => bfree hg (w.heap.size) o (by first | omega | (simp; done) | (simp; omega)); have c1hg := fun o => bkeep hg (w.heap.size + 1) o (by first | omega | (simp; done) | (simp; omega)); have f1hg := fun o => bfree hg (w.heap.size + 1) o (by first | omega | (simp; done) | (simp; omega)))
    have bb : Below w.heap.size w w1 := (by repeat (first | (with_reducible exact b0 _) | (with_reducible refine ba ?_ _) | (with_reducible refine bd ?_ _) | (with_reducible refine Below.drew ?_) | (with_reducible refine bs ?_ (by first | exact Nat.le_refl _ | exact Nat.le_add_right _ _ | omega) _) | (with_reducible refine bt ?_ (by assumption))))
    have HBB := Lib.hid bb
    clear bb hg
    exact bodyPost_ret (v := .tuple #[.agg #[.int .i64 0, .int .i64 0, .slice none 0 0, .slice none 0 0, .int .i64 0, .bool false], .bool false]) (by simp [results, Try.results44, go_sem, c1hg]) rfl (NewFaB.none_ rfl (by repeat (first | (with_reducible exact HBB.out) | (with_reducible refine ba ?_ _) | (with_reducible refine bsB ?_ (by omega)) | (with_reducible refine bd ?_ _) | (with_reducible refine Below.drew ?_))))
  · have hz : decide (0 ≤ z ∧ z ≤ (n : Int) - 1) = false := by
      have h1 := HO.out
      rw [HE.out, h, Bool.true_and] at h1
      have := of_decide_eq_false h1
      exact decide_eq_false (by omega)
    go_enter Try.func44, Try.ntmps44
    go_wp2_with (first | (go_at_call 72; (with_reducible refine (faGood_b _ _ _ _ _ _ _ _ _ _ F D _ (HR.out _ (ba (ba (b0 w) _) _)) hn hm h).mono ?_); rintro e w1 ⟨rfl, hg⟩; have zhg := hg.size; (try simp at zhg); have c0hg := fun o => bkeep hg (w.heap.size) o (by first | omega | (simp; done) | (simp; omega)); have f0hg := fun o => bfree hg (w.heap.size) o (by first | omega | (simp; done) | (simp; omega)); have c1hg := fun o => bkeep hg (w.heap.size + 1) o (by first | omega | (simp; done) | (simp; omega)); have f1hg := fun o => bfree hg (w.heap.size + 1) o (by first | omega | (simp; done) | (simp; omega))) | (go_at_call 61; (with_reducible refine (l1In_b hz _).mono ?_); rintro e w' ⟨rfl, rfl⟩))
    have bb : Below w.heap.size w w1 := (by repeat (first | (with_reducible exact b0 _) | (with_reducible refine ba ?_ _) | (with_reducible refine bd ?_ _) | (with_reducible refine Below.drew ?_) | (with_reducible refine bs ?_ (by first | exact Nat.le_refl _ | exact Nat.le_add_right _ _ | omega) _) | (with_reducible refine bt ?_ (by assumption))))
    have HBB := Lib.hid bb
    clear bb hg
    exact bodyPost_ret (v := .tuple #[.agg #[.int .i64 0, .int .i64 0, .slice none 0 0, .slice none 0 0, .int .i64 0, .bool false], .bool false]) (by simp [results, Try.results44, go_sem, c1hg]) rfl (NewFaB.none_ rfl (by repeat (first | (with_reducible exact HBB.out) | (with_reducible refine ba ?_ _) | (with_reducible refine bsB ?_ (by omega)) | (with_reducible refine bd ?_ _) | (with_reducible refine Below.drew ?_))))
set_option maxHeartbeats 2000000 in
theorem implDf_bad (z : Int) (qu li : Int) (A : Option Addr) (n cap : Nat) (B : Option Addr) (m capd : Nat) (nx : Int) (op : Bool) (F : List (List Pk)) (D : List Int) (w : World) (hr : FRow w ⟨A, n, cap, B, m, capd⟩ (F.map fl) D) (hn : n ≤ 1048576) (hm : m ≤ 1048576) (h : rdOk qu li F D nx op z = false) :
    Calls Try.prog 45 #[.agg #[.int .i64 qu, .int .i64 li, .slice A n cap, .slice B m capd, .int .i64 nx, .bool op], .int .i64 z] w (DfP w qu li F D nx op z) := by
  rw [DfP_no h]
  have HO := Lib.hid h
  have HFN := Lib.hid (show F.length = n by simpa using hr.qn); have HDN := Lib.hid (show D.length = m from hr.dn); have HR := Lib.hid (fun (W : World) (hb : Below w.heap.size w W) => hr.below hb); clear hr
  have HE := Lib.hid (show rdOk qu li F D nx op z = (fok qu li F D nx op && decide (0 ≤ z ∧ z < (n : Int))) by rw [rdOk, HFN.out])
  clear h
  rcases h : fok qu li F D nx op with _ | _
  · go_enter Try.func45, Try.ntmps45
    go_wp2_with (go_at_call 32; (with_reducible refine (implIsFair_b _ _ _ _ _ _ _ _ _ _ F D _ (HR.out _ (ba (ba (b0 w) _) _)) hn hm h).mono ?_); rintro e w1 ⟨rfl, hg⟩; have zhg := hg.size; (try simp at zhg); have c0hg := fun o => bkeep hg (w.heap.size) o (by first | omega | (simp; done) | (simp; omega)); have f0hg := fun o => bfree hg (w.heap.size) o (by first | omega | (simp; done) | (simp; omega)); have c1hg := fun o => bkeep hg (w.heap.size + 1) o (by first | omega | (simp; done) | (simp; omega)); have f1hg := fun o => bfree hg (w.heap.size + 1) o (by first | omega | (simp; done) | (simp; omega)))
    have bb : Below w.heap.size w w1 := (by repeat (first | (with_reducible exact b0 _) | (with_reducible refine ba ?_ _) | (with_reducible refine bd ?_ _) | (with_reducible refine Below.drew ?_) | (with_reducible refine bs ?_ (by first | exact Nat.le_refl _ | exact Nat.le_add_right _ _ | omega) _) | (with_reducible refine bt ?_ (by assumption))))
    have HBB := Lib.hid bb
    clear bb hg
    exact bodyPost_ret (v := .tuple #[.agg #[.int .i64 0, .int .i64 0, .slice none 0 0, .slice none 0 0, .int .i64 0, .bool false], .bool false]) (by simp [results, Try.results45, go_sem, c1hg]) rfl (NewFaB.none_ rfl (by repeat (first | (with_reducible exact HBB.out) | (with_reducible refine ba ?_ _) | (with_reducible refine bsB ?_ (by omega)) | (with_reducible refine bd ?_ _) | (with_reducible refine Below.drew ?_))))
  · have hz : ¬ (0 ≤ z ∧ z < (n : Int)) := by
      have h1 := HO.out
      rw [HE.out, h, Bool.true_and] at h1
      exact of_decide_eq_false h1
    rcases Int.lt_or_le z 0 with h0 | h0
    · go_enter Try.func45, Try.ntmps45
      go_wp2_with (go_at_call 32; (with_reducible refine (implIsFair_b _ _ _ _ _ _ _ _ _ _ F D _ (HR.out _ (ba (ba (b0 w) _) _)) hn hm h).mono ?_); rintro e w1 ⟨rfl, hg⟩; have zhg := hg.size; (try simp at zhg); have c0hg := fun o => bkeep hg (w.heap.size) o (by first | omega | (simp; done) | (simp; omega)); have f0hg := fun o => bfree hg (w.heap.size) o (by first | omega | (simp; done) | (simp; omega)); have c1hg := fun o => bkeep hg (w.heap.size + 1) o (by first | omega | (simp; done) | (simp; omega)); have f1hg := fun o => bfree hg (w.heap.size + 1) o (by first | omega | (simp; done) | (simp; omega)))
      have bb : Below w.heap.size w w1 := (by repeat (first | (with_reducible exact b0 _) | (with_reducible refine ba ?_ _) | (with_reducible refine bd ?_ _) | (with_reducible refine Below.drew ?_) | (with_reducible refine bs ?_ (by first | exact Nat.le_refl _ | exact Nat.le_add_right _ _ | omega) _) | (with_reducible refine bt ?_ (by assumption))))
      have HBB := Lib.hid bb
      clear bb hg
      exact bodyPost_ret (v := .tuple #[.agg #[.int .i64 0, .int .i64 0, .slice none 0 0, .slice none 0 0, .int .i64 0, .bool false], .bool false]) (by simp [results, Try.results45, go_sem, c1hg]) rfl (NewFaB.none_ rfl (by repeat (first | (with_reducible exact HBB.out) | (with_reducible refine ba ?_ _) | (with_reducible refine bsB ?_ (by omega)) | (with_reducible refine bd ?_ _) | (with_reducible refine Below.drew ?_))))
    · have h1 : (n : Int) ≤ z := by omega
      clear hz
      go_enter Try.func45, Try.ntmps45
      go_wp2_with (go_at_call 32; (with_reducible refine (implIsFair_b _ _ _ _ _ _ _ _ _ _ F D _ (HR.out _ (ba (ba (b0 w) _) _)) hn hm h).mono ?_); rintro e w1 ⟨rfl, hg⟩; have zhg := hg.size; (try simp at zhg); have c0hg := fun o => bkeep hg (w.heap.size) o (by first | omega | (simp; done) | (simp; omega)); have f0hg := fun o => bfree hg (w.heap.size) o (by first | omega | (simp; done) | (simp; omega)); have c1hg := fun o => bkeep hg (w.heap.size + 1) o (by first | omega | (simp; done) | (simp; omega)); have f1hg := fun o => bfree hg (w.heap.size + 1) o (by first | omega | (simp; done) | (simp; omega)))
      have bb : Below w.heap.size w w1 := (by repeat (first | (with_reducible exact b0 _) | (with_reducible refine ba ?_ _) | (with_reducible refine bd ?_ _) | (with_reducible refine Below.drew ?_) | (with_reducible refine bs ?_ (by first | exact Nat.le_refl _ | exact Nat.le_add_right _ _ | omega) _) | (with_reducible refine bt ?_ (by assumption))))
      have HBB := Lib.hid bb
      clear bb hg
      exact bodyPost_ret (v := .tuple #[.agg #[.int .i64 0, .int .i64 0, .slice none 0 0, .slice none 0 0, .int .i64 0, .bool false], .bool false]) (by simp [results, Try.results45, go_sem, c1hg]) rfl (NewFaB.none_ rfl (by repeat (first | (with_reducible exact HBB.out) | (with_reducible refine ba ?_ _) | (with_reducible refine bsB ?_ (by omega)) | (with_reducible refine bd ?_ _) | (with_reducible refine Below.drew ?_))))
set_option maxRecDepth 100000 in
set_option maxHeartbeats 4000000 in
theorem specDf_yes (i : Nat) (qu li : Int) (A : Option Addr) (n cap : Nat) (B : Option Addr) (m capd : Nat) (nx : Int) (op : Bool) (F : List (List Pk)) (D : List Int) (w : World) (hr : FRow w ⟨A, n, cap, B, m, capd⟩ (F.map fl) D) (hn : n ≤ 1048576) (hm : m ≤ 1048576) (h : fok qu li F D nx op = true) (hi : i < n) :
    Calls Try.prog 44 #[.agg #[.int .i64 qu, .int .i64 li, .slice A n cap, .slice B m capd, .int .i64 nx, .bool op], .int .i64 (i : Int)] w (NewFaB w qu li nx (dfOp nx (i : Int) op) ((F.map fl).set i []) (D.set i 0) true) := by
  have HFN := Lib.hid (show F.length = n by simpa using hr.qn); have HDN := Lib.hid (show D.length = m from hr.dn); have HR := Lib.hid (fun (W : World) (hb : Below w.heap.size w W) => hr.below hb); clear hr
  obtain rfl : n = m := by have := (fok_num8 h).2.2.2.1; have := HFN.out; have := HDN.out; omega
  have hn8 : n ≤ 8 := by have := (fok_num8 h).2.2.1; have := HFN.out; omega
  have HG := Lib.hid (show ∀ (k : Nat) (l : List Int), (F.map fl)[k]? = some l → l.length ≤ 6291456 from fun k l hk => by
    rw [List.getElem?_map] at hk
    rcases hL : F[k]? with _ | L
    · rw [hL] at hk; cases hk
    · rw [hL] at hk
      simp at hk
      have := (fok_row h hL).1
      rw [← hk, fl_len]
      omega)
  have hz : decide (0 ≤ (i : Int) ∧ (i : Int) ≤ (n : Int) - 1) = true := decide_eq_true (by omega)
  have hi1 : (i : Int) < (n : Int) := by omega
  have hi3 : decide ((n : Int) ≤ (i : Int)) = false := decide_eq_false (by omega)
  have hi4 : decide (n ≤ i) = false := decide_eq_false (by omega)
  have HDF := Lib.hid (show dfOp nx (i : Int) op = if nx = (i : Int) then false else op from rfl)
  go_enter Try.func44, Try.ntmps44
  go_wp2_with fail
  refine (faGood_b _ _ _ _ _ _ _ _ _ _ F D _ (HR.out _ (ba (ba (b0 w) _) _)) hn hm h).mono ?_
  rintro e w1 ⟨rfl, hb1⟩
  have z1 := hb1.size
  (try simp at z1)
  have HK_q_1 : Hid (Bk w1 (w.heap.size) 56 #[.int .i64 qu, .int .i64 li, .slice A n cap, .slice B n capd, .int .i64 nx, .bool op]) := Lib.hid (((Bk.new_ (by simp) : Bk _ (w.heap.size) 56 #[.int .i64 qu, .int .i64 li, .slice A n cap, .slice B n capd, .int .i64 nx, .bool op]).alloc _).old hb1)
  have zb_q : w.heap.size < w1.heap.size := HK_q_1.out.lt
  have cb_q_0 : w1.cell? ⟨w.heap.size, 0, none⟩ = some (.int .i64 qu) := HK_q_1.out.cell 0
  have cb_q_1 : w1.cell? ⟨w.heap.size, 1, none⟩ = some (.int .i64 li) := HK_q_1.out.cell 1
  have cb_q_2 : w1.cell? ⟨w.heap.size, 2, none⟩ = some (.slice A n cap) := HK_q_1.out.cell 2
  have cb_q_3 : w1.cell? ⟨w.heap.size, 3, none⟩ = some (.slice B n capd) := HK_q_1.out.cell 3
  have cb_q_4 : w1.cell? ⟨w.heap.size, 4, none⟩ = some (.int .i64 nx) := HK_q_1.out.cell 4
  have cb_q_5 : w1.cell? ⟨w.heap.size, 5, none⟩ = some (.bool op) := HK_q_1.out.cell 5
  have HK_r_1 : Hid (Bk w1 (w.heap.size + 1) 56 #[.int .i64 0, .int .i64 0, .slice none 0 0, .slice none 0 0, .int .i64 0, .bool false]) := Lib.hid ((Bk.new_ (by simp) : Bk _ (w.heap.size + 1) 56 #[.int .i64 0, .int .i64 0, .slice none 0 0, .slice none 0 0, .int .i64 0, .bool false]).old hb1)
  have zb_r : w.heap.size + 1 < w1.heap.size := HK_r_1.out.lt
  have cb_r_0 : w1.cell? ⟨w.heap.size + 1, 0, none⟩ = some (.int .i64 0) := HK_r_1.out.cell 0
  have cb_r_1 : w1.cell? ⟨w.heap.size + 1, 1, none⟩ = some (.int .i64 0) := HK_r_1.out.cell 1
  have cb_r_2 : w1.cell? ⟨w.heap.size + 1, 2, none⟩ = some (.slice none 0 0) := HK_r_1.out.cell 2
  have cb_r_3 : w1.cell? ⟨w.heap.size + 1, 3, none⟩ = some (.slice none 0 0) := HK_r_1.out.cell 3
  have cb_r_4 : w1.cell? ⟨w.heap.size + 1, 4, none⟩ = some (.int .i64 0) := HK_r_1.out.cell 4
  have cb_r_5 : w1.cell? ⟨w.heap.size + 1, 5, none⟩ = some (.bool false) := HK_r_1.out.cell 5
  have HB_1 := Lib.hid (bt (ba (ba (b0 w) _) _) hb1)
  clear hb1
  go_wp2_with (go_at_call 61; (with_reducible refine (l1In_b hz _).mono ?_); rintro e w' ⟨rfl, rfl⟩)
  refine (faOwn_any _ _ ⟨A, n, cap, B, n, capd⟩ _ _ (F.map fl) D _ (HR.out _ HB_1.out) HG.out hn hm).mono ?_
  rintro e w2 ⟨⟨A_o, n_o, cap_o, B_o, m_o, capd_o⟩, rfl, ho, hb2⟩
  have z2 := hb2.size
  (try simp at z2)
  have HK_q_2 : Hid (Bk w2 (w.heap.size) 56 #[.int .i64 qu, .int .i64 li, .slice A n cap, .slice B n capd, .int .i64 nx, .bool op]) := Lib.hid (HK_q_1.out.old hb2)
  clear HK_q_1
  clear cb_q_0 cb_q_1 cb_q_2 cb_q_3 cb_q_4 cb_q_5 zb_q
  have zb_q : w.heap.size < w2.heap.size := HK_q_2.out.lt
  have cb_q_0 : w2.cell? ⟨w.heap.size, 0, none⟩ = some (.int .i64 qu) := HK_q_2.out.cell 0
  have cb_q_1 : w2.cell? ⟨w.heap.size, 1, none⟩ = some (.int .i64 li) := HK_q_2.out.cell 1
  have cb_q_2 : w2.cell? ⟨w.heap.size, 2, none⟩ = some (.slice A n cap) := HK_q_2.out.cell 2
  have cb_q_3 : w2.cell? ⟨w.heap.size, 3, none⟩ = some (.slice B n capd) := HK_q_2.out.cell 3
  have cb_q_4 : w2.cell? ⟨w.heap.size, 4, none⟩ = some (.int .i64 nx) := HK_q_2.out.cell 4
  have cb_q_5 : w2.cell? ⟨w.heap.size, 5, none⟩ = some (.bool op) := HK_q_2.out.cell 5
  have HK_r_2 : Hid (Bk w2 (w.heap.size + 1) 56 #[.int .i64 0, .int .i64 0, .slice none 0 0, .slice none 0 0, .int .i64 0, .bool false]) := Lib.hid (HK_r_1.out.old hb2)
  clear HK_r_1
  clear cb_r_0 cb_r_1 cb_r_2 cb_r_3 cb_r_4 cb_r_5 zb_r
  have zb_r : w.heap.size + 1 < w2.heap.size := HK_r_2.out.lt
  have cb_r_0 : w2.cell? ⟨w.heap.size + 1, 0, none⟩ = some (.int .i64 0) := HK_r_2.out.cell 0
  have cb_r_1 : w2.cell? ⟨w.heap.size + 1, 1, none⟩ = some (.int .i64 0) := HK_r_2.out.cell 1
  have cb_r_2 : w2.cell? ⟨w.heap.size + 1, 2, none⟩ = some (.slice none 0 0) := HK_r_2.out.cell 2
  have cb_r_3 : w2.cell? ⟨w.heap.size + 1, 3, none⟩ = some (.slice none 0 0) := HK_r_2.out.cell 3
  have cb_r_4 : w2.cell? ⟨w.heap.size + 1, 4, none⟩ = some (.int .i64 0) := HK_r_2.out.cell 4
  have cb_r_5 : w2.cell? ⟨w.heap.size + 1, 5, none⟩ = some (.bool false) := HK_r_2.out.cell 5
  have HB_2 := Lib.hid (bt HB_1.out hb2)
  clear hb2
  obtain rfl : n = n_o := by have h1 := ho.q.len; have h2 := HFN.out; simp at h1; omega
  obtain rfl : n = m_o := by have h1 := ho.d.len; have h2 := HDN.out; simp only at h1; omega
  obtain ⟨g, gd, v0, d0, rfl, rfl, hgg, hne, hgs, hgds, c0, f0, c1, f1, hdrop⟩ := ho.drop hi hi
  have HDR := Lib.hid hdrop
  clear ho hdrop
  have n1 : ¬ g = w2.heap.size := by omega
  have n2 : ¬ gd = w2.heap.size := by omega
  have n3 : ¬ g = w.heap.size + 1 := by omega
  have n4 : ¬ gd = w.heap.size + 1 := by omega
  have n5 : ¬ w2.heap.size = g := by omega
  have n6 : ¬ w2.heap.size = gd := by omega
  have n7 : ¬ w.heap.size + 1 = g := by omega
  have n8 : ¬ w.heap.size + 1 = gd := by omega
  have n9 : ¬ gd = g := fun e => hne e.symm
  have n10 : ¬ w.heap.size + 1 = w2.heap.size := by omega
  have n11 : ¬ w2.heap.size = w.heap.size + 1 := by omega
  have rf := HK_r_2.out.free
  have hzi1 := hi
  dsimp only
  rcases hq : decide (nx = (i : Int)) with _ | _
  · have hq1 : (nx == (i : Int)) = false := by simpa using hq
    have hq2 : ((i : Int) == nx) = false := by simp; exact fun e => of_decide_eq_false hq e.symm
    have HOP := Lib.hid (HDF.out.trans (if_neg (of_decide_eq_false hq)))
    clear hq
    go_wp2_with fail
    refine bodyPost_ret (v := .tuple #[.agg #[.int .i64 qu, .int .i64 li, .slice (some ⟨g, 0, none⟩) n cap_o, .slice (some ⟨gd, 0, none⟩) n capd_o, .int .i64 nx, .bool op], .bool true]) (by simp [results, Try.results44, go_sem, cb_r_0, cb_r_1, cb_r_2, cb_r_3, cb_r_4, cb_r_5, zb_r]) rfl ?_
    rw [HOP.out]
    refine ⟨⟨some ⟨g, 0, none⟩, n, cap_o, some ⟨gd, 0, none⟩, n, capd_o⟩, rfl, ?_, ?_⟩
    · refine FOwn.lo_le (lo := w1.heap.size) (FOwn.here (hi := w2.heap.size) ?_) (by omega)
      refine FOwn.alloc ?_ _
      repeat (refine FOwn.farC ?_ (.inl (by omega)))
      exact HDR.out
    · refine ba ?_ _
      repeat (refine bsB ?_ (by omega))
      exact HB_2.out
  have he := of_decide_eq_true hq
  have hq1 : (nx == (i : Int)) = true := by simpa using he
  have hq2 : ((i : Int) == nx) = true := by simp; exact he.symm
  have HOP := Lib.hid (HDF.out.trans (if_pos he))
  clear hq he
  go_wp2_with fail
  refine bodyPost_ret (v := .tuple #[.agg #[.int .i64 qu, .int .i64 li, .slice (some ⟨g, 0, none⟩) n cap_o, .slice (some ⟨gd, 0, none⟩) n capd_o, .int .i64 nx, .bool false], .bool true]) (by simp [results, Try.results44, go_sem, cb_r_0, cb_r_1, cb_r_2, cb_r_3, cb_r_4, cb_r_5, zb_r]) rfl ?_
  rw [HOP.out]
  refine ⟨⟨some ⟨g, 0, none⟩, n, cap_o, some ⟨gd, 0, none⟩, n, capd_o⟩, rfl, ?_, ?_⟩
  · refine FOwn.lo_le (lo := w1.heap.size) (FOwn.here (hi := w2.heap.size) ?_) (by omega)
    refine FOwn.alloc ?_ _
    repeat (refine FOwn.farC ?_ (.inl (by omega)))
    exact HDR.out
  · refine ba ?_ _
    repeat (refine bsB ?_ (by omega))
    exact HB_2.out
set_option maxRecDepth 100000 in
set_option maxHeartbeats 4000000 in
theorem implDf_yes (i : Nat) (qu li : Int) (A : Option Addr) (n cap : Nat) (B : Option Addr) (m capd : Nat) (nx : Int) (op : Bool) (F : List (List Pk)) (D : List Int) (w : World) (hr : FRow w ⟨A, n, cap, B, m, capd⟩ (F.map fl) D) (hn : n ≤ 1048576) (hm : m ≤ 1048576) (h : fok qu li F D nx op = true) (hi : i < n) :
    Calls Try.prog 45 #[.agg #[.int .i64 qu, .int .i64 li, .slice A n cap, .slice B m capd, .int .i64 nx, .bool op], .int .i64 (i : Int)] w (NewFaB w qu li nx (dfOp nx (i : Int) op) ((F.map fl).set i []) (D.set i 0) true) := by
  have HFN := Lib.hid (show F.length = n by simpa using hr.qn); have HDN := Lib.hid (show D.length = m from hr.dn); have HR := Lib.hid (fun (W : World) (hb : Below w.heap.size w W) => hr.below hb); clear hr
  obtain rfl : n = m := by have := (fok_num8 h).2.2.2.1; have := HFN.out; have := HDN.out; omega
  have hn8 : n ≤ 8 := by have := (fok_num8 h).2.2.1; have := HFN.out; omega
  have HG := Lib.hid (show ∀ (k : Nat) (l : List Int), (F.map fl)[k]? = some l → l.length ≤ 6291456 from fun k l hk => by
    rw [List.getElem?_map] at hk
    rcases hL : F[k]? with _ | L
    · rw [hL] at hk; cases hk
    · rw [hL] at hk
      simp at hk
      have := (fok_row h hL).1
      rw [← hk, fl_len]
      omega)
  have hz : decide (0 ≤ (i : Int) ∧ (i : Int) ≤ (n : Int) - 1) = true := decide_eq_true (by omega)
  have hi1 : (i : Int) < (n : Int) := by omega
  have hi3 : decide ((n : Int) ≤ (i : Int)) = false := decide_eq_false (by omega)
  have hi4 : decide (n ≤ i) = false := decide_eq_false (by omega)
  have HDF := Lib.hid (show dfOp nx (i : Int) op = if nx = (i : Int) then false else op from rfl)
  go_enter Try.func45, Try.ntmps45
  go_wp2_with fail
  refine (implIsFair_b _ _ _ _ _ _ _ _ _ _ F D _ (HR.out _ (ba (ba (b0 w) _) _)) hn hm h).mono ?_
  rintro e w1 ⟨rfl, hb1⟩
  have z1 := hb1.size
  (try simp at z1)
  have HK_q_1 : Hid (Bk w1 (w.heap.size) 56 #[.int .i64 qu, .int .i64 li, .slice A n cap, .slice B n capd, .int .i64 nx, .bool op]) := Lib.hid (((Bk.new_ (by simp) : Bk _ (w.heap.size) 56 #[.int .i64 qu, .int .i64 li, .slice A n cap, .slice B n capd, .int .i64 nx, .bool op]).alloc _).old hb1)
  have zb_q : w.heap.size < w1.heap.size := HK_q_1.out.lt
  have cb_q_0 : w1.cell? ⟨w.heap.size, 0, none⟩ = some (.int .i64 qu) := HK_q_1.out.cell 0
  have cb_q_1 : w1.cell? ⟨w.heap.size, 1, none⟩ = some (.int .i64 li) := HK_q_1.out.cell 1
  have cb_q_2 : w1.cell? ⟨w.heap.size, 2, none⟩ = some (.slice A n cap) := HK_q_1.out.cell 2
  have cb_q_3 : w1.cell? ⟨w.heap.size, 3, none⟩ = some (.slice B n capd) := HK_q_1.out.cell 3
  have cb_q_4 : w1.cell? ⟨w.heap.size, 4, none⟩ = some (.int .i64 nx) := HK_q_1.out.cell 4
  have cb_q_5 : w1.cell? ⟨w.heap.size, 5, none⟩ = some (.bool op) := HK_q_1.out.cell 5
  have HK_r_1 : Hid (Bk w1 (w.heap.size + 1) 56 #[.int .i64 0, .int .i64 0, .slice none 0 0, .slice none 0 0, .int .i64 0, .bool false]) := Lib.hid ((Bk.new_ (by simp) : Bk _ (w.heap.size + 1) 56 #[.int .i64 0, .int .i64 0, .slice none 0 0, .slice none 0 0, .int .i64 0, .bool false]).old hb1)
  have zb_r : w.heap.size + 1 < w1.heap.size := HK_r_1.out.lt
  have cb_r_0 : w1.cell? ⟨w.heap.size + 1, 0, none⟩ = some (.int .i64 0) := HK_r_1.out.cell 0
  have cb_r_1 : w1.cell? ⟨w.heap.size + 1, 1, none⟩ = some (.int .i64 0) := HK_r_1.out.cell 1
  have cb_r_2 : w1.cell? ⟨w.heap.size + 1, 2, none⟩ = some (.slice none 0 0) := HK_r_1.out.cell 2
  have cb_r_3 : w1.cell? ⟨w.heap.size + 1, 3, none⟩ = some (.slice none 0 0) := HK_r_1.out.cell 3
  have cb_r_4 : w1.cell? ⟨w.heap.size + 1, 4, none⟩ = some (.int .i64 0) := HK_r_1.out.cell 4
  have cb_r_5 : w1.cell? ⟨w.heap.size + 1, 5, none⟩ = some (.bool false) := HK_r_1.out.cell 5
  have HB_1 := Lib.hid (bt (ba (ba (b0 w) _) _) hb1)
  clear hb1
  go_wp2_with (go_at_call 61; (with_reducible refine (l1In_b hz _).mono ?_); rintro e w' ⟨rfl, rfl⟩)
  refine (copyFair_any _ _ ⟨A, n, cap, B, n, capd⟩ _ _ (F.map fl) D _ (HR.out _ HB_1.out) HG.out hn hm).mono ?_
  rintro e w2 ⟨⟨A_o, n_o, cap_o, B_o, m_o, capd_o⟩, rfl, ho, hb2⟩
  have z2 := hb2.size
  (try simp at z2)
  have HK_q_2 : Hid (Bk w2 (w.heap.size) 56 #[.int .i64 qu, .int .i64 li, .slice A n cap, .slice B n capd, .int .i64 nx, .bool op]) := Lib.hid (HK_q_1.out.old hb2)
  clear HK_q_1
  clear cb_q_0 cb_q_1 cb_q_2 cb_q_3 cb_q_4 cb_q_5 zb_q
  have zb_q : w.heap.size < w2.heap.size := HK_q_2.out.lt
  have cb_q_0 : w2.cell? ⟨w.heap.size, 0, none⟩ = some (.int .i64 qu) := HK_q_2.out.cell 0
  have cb_q_1 : w2.cell? ⟨w.heap.size, 1, none⟩ = some (.int .i64 li) := HK_q_2.out.cell 1
  have cb_q_2 : w2.cell? ⟨w.heap.size, 2, none⟩ = some (.slice A n cap) := HK_q_2.out.cell 2
  have cb_q_3 : w2.cell? ⟨w.heap.size, 3, none⟩ = some (.slice B n capd) := HK_q_2.out.cell 3
  have cb_q_4 : w2.cell? ⟨w.heap.size, 4, none⟩ = some (.int .i64 nx) := HK_q_2.out.cell 4
  have cb_q_5 : w2.cell? ⟨w.heap.size, 5, none⟩ = some (.bool op) := HK_q_2.out.cell 5
  have HK_r_2 : Hid (Bk w2 (w.heap.size + 1) 56 #[.int .i64 0, .int .i64 0, .slice none 0 0, .slice none 0 0, .int .i64 0, .bool false]) := Lib.hid (HK_r_1.out.old hb2)
  clear HK_r_1
  clear cb_r_0 cb_r_1 cb_r_2 cb_r_3 cb_r_4 cb_r_5 zb_r
  have zb_r : w.heap.size + 1 < w2.heap.size := HK_r_2.out.lt
  have cb_r_0 : w2.cell? ⟨w.heap.size + 1, 0, none⟩ = some (.int .i64 0) := HK_r_2.out.cell 0
  have cb_r_1 : w2.cell? ⟨w.heap.size + 1, 1, none⟩ = some (.int .i64 0) := HK_r_2.out.cell 1
  have cb_r_2 : w2.cell? ⟨w.heap.size + 1, 2, none⟩ = some (.slice none 0 0) := HK_r_2.out.cell 2
  have cb_r_3 : w2.cell? ⟨w.heap.size + 1, 3, none⟩ = some (.slice none 0 0) := HK_r_2.out.cell 3
  have cb_r_4 : w2.cell? ⟨w.heap.size + 1, 4, none⟩ = some (.int .i64 0) := HK_r_2.out.cell 4
  have cb_r_5 : w2.cell? ⟨w.heap.size + 1, 5, none⟩ = some (.bool false) := HK_r_2.out.cell 5
  have HB_2 := Lib.hid (bt HB_1.out hb2)
  clear hb2
  obtain rfl : n = n_o := by have h1 := ho.q.len; have h2 := HFN.out; simp at h1; omega
  obtain rfl : n = m_o := by have h1 := ho.d.len; have h2 := HDN.out; simp only at h1; omega
  obtain ⟨g, gd, v0, d0, rfl, rfl, hgg, hne, hgs, hgds, c0, f0, c1, f1, hdrop⟩ := ho.drop hi hi
  have HDR := Lib.hid hdrop
  clear ho hdrop
  have n1 : ¬ g = w2.heap.size := by omega
  have n2 : ¬ gd = w2.heap.size := by omega
  have n3 : ¬ g = w.heap.size + 1 := by omega
  have n4 : ¬ gd = w.heap.size + 1 := by omega
  have n5 : ¬ w2.heap.size = g := by omega
  have n6 : ¬ w2.heap.size = gd := by omega
  have n7 : ¬ w.heap.size + 1 = g := by omega
  have n8 : ¬ w.heap.size + 1 = gd := by omega
  have n9 : ¬ gd = g := fun e => hne e.symm
  have n10 : ¬ w.heap.size + 1 = w2.heap.size := by omega
  have n11 : ¬ w2.heap.size = w.heap.size + 1 := by omega
  have rf := HK_r_2.out.free
  have hzi1 := hi
  dsimp only
  rcases hq : decide (nx = (i : Int)) with _ | _
  · have hq1 : (nx == (i : Int)) = false := by simpa using hq
    have hq2 : ((i : Int) == nx) = false := by simp; exact fun e => of_decide_eq_false hq e.symm
    have HOP := Lib.hid (HDF.out.trans (if_neg (of_decide_eq_false hq)))
    clear hq
    go_wp2_with fail
    refine bodyPost_ret (v := .tuple #[.agg #[.int .i64 qu, .int .i64 li, .slice (some ⟨g, 0, none⟩) n cap_o, .slice (some ⟨gd, 0, none⟩) n capd_o, .int .i64 nx, .bool op], .bool true]) (by simp [results, Try.results45, go_sem, cb_r_0, cb_r_1, cb_r_2, cb_r_3, cb_r_4, cb_r_5, zb_r]) rfl ?_
    rw [HOP.out]
    refine ⟨⟨some ⟨g, 0, none⟩, n, cap_o, some ⟨gd, 0, none⟩, n, capd_o⟩, rfl, ?_, ?_⟩
    · refine FOwn.lo_le (lo := w1.heap.size) (FOwn.here (hi := w2.heap.size) ?_) (by omega)
      refine FOwn.alloc ?_ _
      repeat (refine FOwn.farC ?_ (.inl (by omega)))
      exact HDR.out
    · refine ba ?_ _
      repeat (refine bsB ?_ (by omega))
      exact HB_2.out
  have he := of_decide_eq_true hq
  have hq1 : (nx == (i : Int)) = true := by simpa using he
  have hq2 : ((i : Int) == nx) = true := by simp; exact he.symm
  have HOP := Lib.hid (HDF.out.trans (if_pos he))
  clear hq he
  go_wp2_with fail
  refine bodyPost_ret (v := .tuple #[.agg #[.int .i64 qu, .int .i64 li, .slice (some ⟨g, 0, none⟩) n cap_o, .slice (some ⟨gd, 0, none⟩) n capd_o, .int .i64 nx, .bool false], .bool true]) (by simp [results, Try.results45, go_sem, cb_r_0, cb_r_1, cb_r_2, cb_r_3, cb_r_4, cb_r_5, zb_r]) rfl ?_
  rw [HOP.out]
  refine ⟨⟨some ⟨g, 0, none⟩, n, cap_o, some ⟨gd, 0, none⟩, n, capd_o⟩, rfl, ?_, ?_⟩
  · refine FOwn.lo_le (lo := w1.heap.size) (FOwn.here (hi := w2.heap.size) ?_) (by omega)
    refine FOwn.alloc ?_ _
    repeat (refine FOwn.farC ?_ (.inl (by omega)))
    exact HDR.out
  · refine ba ?_ _
    repeat (refine bsB ?_ (by omega))
    exact HB_2.out
theorem specDropFlow_any (z : Int) (qu li : Int) (A : Option Addr) (n cap : Nat) (B : Option Addr) (m capd : Nat) (nx : Int) (op : Bool) (F : List (List Pk)) (D : List Int) (w : World) (hr : FRow w ⟨A, n, cap, B, m, capd⟩ (F.map fl) D) (hn : n ≤ 1048576) (hm : m ≤ 1048576) :
    Calls Try.prog 44 #[.agg #[.int .i64 qu, .int .i64 li, .slice A n cap, .slice B m capd, .int .i64 nx, .bool op], .int .i64 z] w (DfP w qu li F D nx op z) := by
  rcases h : rdOk qu li F D nx op z with _ | _
  · exact specDf_bad z qu li A n cap B m capd nx op F D w hr hn hm h
  · have hfn : F.length = n := by simpa using hr.qn
    have h1 := h
    simp only [rdOk, Bool.and_eq_true, decide_eq_true_eq] at h1
    obtain ⟨i, rfl⟩ : ∃ i : Nat, z = (i : Int) := ⟨z.toNat, by omega⟩
    rw [DfP_yes h, Int.toNat_natCast]
    exact specDf_yes i qu li A n cap B m capd nx op F D w hr hn hm h1.1 (by omega)
theorem implDropFlow_any (z : Int) (qu li : Int) (A : Option Addr) (n cap : Nat) (B : Option Addr) (m capd : Nat) (nx : Int) (op : Bool) (F : List (List Pk)) (D : List Int) (w : World) (hr : FRow w ⟨A, n, cap, B, m, capd⟩ (F.map fl) D) (hn : n ≤ 1048576) (hm : m ≤ 1048576) :
    Calls Try.prog 45 #[.agg #[.int .i64 qu, .int .i64 li, .slice A n cap, .slice B m capd, .int .i64 nx, .bool op], .int .i64 z] w (DfP w qu li F D nx op z) := by
  rcases h : rdOk qu li F D nx op z with _ | _
  · exact implDf_bad z qu li A n cap B m capd nx op F D w hr hn hm h
  · have hfn : F.length = n := by simpa using hr.qn
    have h1 := h
    simp only [rdOk, Bool.and_eq_true, decide_eq_true_eq] at h1
    obtain ⟨i, rfl⟩ : ∃ i : Nat, z = (i : Int) := ⟨z.toNat, by omega⟩
    rw [DfP_yes h, Int.toNat_natCast]
    exact implDf_yes i qu li A n cap B m capd nx op F D w hr hn hm h1.1 (by omega)
theorem ifG_len {α : Type} (ok : Bool) (l : List α) : (ifG ok l).length ≤ l.length := by
  unfold ifG
  split
  · exact Nat.le_refl _
  · simp
theorem ifG_set_len {ok : Bool} {G : List (List Int)} {i b : Nat} (h : ∀ (j : Nat) (l : List Int), G[j]? = some l → l.length ≤ b) : ∀ (j : Nat) (l : List Int), (ifG ok (G.set i []))[j]? = some l → l.length ≤ b := fun j l hj => by
  unfold ifG at hj
  split at hj
  · rw [List.getElem?_set] at hj
    split at hj
    · split at hj
      · injection hj with hj
        subst hj
        exact Nat.zero_le _
      · cases hj
    · exact h j l hj
  · simp at hj
theorem gsum_set : ∀ (G : List (List Int)) (i : Nat), gsum (G.set i []) ≤ gsum G
  | [], _ => by simp
  | l :: G, 0 => by simp [gsum]
  | l :: G, i + 1 => by
    have := gsum_set G i
    simp [gsum] at this ⊢
    exact this
theorem ifG_set_gsum (ok : Bool) (G : List (List Int)) (i : Nat) : gsum (ifG ok (G.set i [])) ≤ gsum G := by
  unfold ifG
  split
  · exact gsum_set _ _
  · simp [gsum]
end Go.Proofs.Ytgdldmeeaejjpaa
