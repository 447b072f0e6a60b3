/- The contracts of NewFair. -/
import Derived.Test.YtgdldmeeaejjpaaFairSpec
import Derived.Test.YtgdldmeeaejjpaaFairImpl
import Derived.Test.YtgdldmeeaejjpaaPdLaw
import Derived.BigRegion
import Derived.Deep.DeepCutAuto
namespace Go.Proofs.Ytgdldmeeaejjpaa
open Go.ChangeShapes Go.WideShapes Go.ChangeAt Go.RowKit
set_option linter.unusedVariables false
/-- A scheduler whose slices are the call's own, and a bool. -/
def NewFaB (w : World) (qu li nx : Int) (op : Bool) (G : List (List Int)) (D : List Int) (b : Bool) (e : Ending) (w' : World) : Prop :=
  ∃ M : Fm, e = .returned (.tuple #[.agg #[.int .i64 qu, .int .i64 li, .slice M.A M.n M.cap, .slice M.B M.m M.capd, .int .i64 nx, .bool op], .bool b]) ∧ FOwn w' w.heap.size w'.heap.size M G D ∧ Below w.heap.size w w'
theorem NewFaB.none_ {w w' : World} {e : Ending} (he : e = .returned (.tuple #[.agg #[.int .i64 0, .int .i64 0, .slice none 0 0, .slice none 0 0, .int .i64 0, .bool false], .bool false])) (hb : Below w.heap.size w w') : NewFaB w 0 0 0 false [] [] false e w' := ⟨⟨none, 0, 0, none, 0, 0⟩, he, FOwn.none_ _ _ _, hb⟩
def cellN (n : Nat) : Array Value := madeCells (Value.slice none 0 0).cells (n * 1)
def cellI (n : Nat) : Array Value := madeCells (Value.int .i64 0).cells (n * 1)
theorem run_make_nest (n : Nat) (hn : n ≤ 1048576) (w : World) : (Instr.makeSlice 54 (.int .i64 (n : Int)) (.int .i64 (n : Int))).run Try.prog w = .ok (.slice (some ⟨w.heap.size, 0, none⟩) n n) (w.alloc (.cells (cellN n) 28)) := by
  obtain ⟨i0, hi, hz0, hz1, hz2⟩ := info_parts tNest
  have h := run_make (P := Try.prog) w 54 28 i0 _ Try.underlying54 hi hz0 .i64 .i64 (n : Int) (n : Int) (by omega) (Int.le_refl _) (by rw [hz2]; omega) (by omega)
  rw [hz1] at h
  simpa [cellN] using h
theorem run_make_ints (n : Nat) (hn : n ≤ 1048576) (w : World) : (Instr.makeSlice 31 (.int .i64 (n : Int)) (.int .i64 (n : Int))).run Try.prog w = .ok (.slice (some ⟨w.heap.size, 0, none⟩) n n) (w.alloc (.cells (cellI n) 3)) := by
  obtain ⟨i0, hi, hz0, hz1, hz2⟩ := info_parts tinfo
  have h := run_make (P := Try.prog) w 31 3 i0 _ Try.underlying31 hi hz0 .i64 .i64 (n : Int) (n : Int) (by omega) (Int.le_refl _) (by rw [hz2]; omega) (by omega)
  rw [hz1] at h
  simpa [cellI] using h
theorem Bk.nest {W : World} {g n : Nat} (h : Bk W g 28 (cellN n)) (hn : n ≤ 1048576) : NOwn W g (g + 1) (some ⟨g, 0, none⟩) n n (List.replicate n []) := by
  have e : (cellN n).toList = (List.replicate n (⟨none, 0, 0⟩ : Sl)).map Sl.v := by
    unfold cellN
    rw [Nat.mul_one, List.map_replicate]
    exact toList_madeCells_one _ n
  refine ⟨List.replicate n ⟨none, 0, 0⟩, ⟨⟨by simp, .inr ⟨g, n, _, rfl, Nat.le_refl _, h, Nat.le_refl _, by unfold maxLen; omega, ?_, ?_⟩⟩, fun k hk => ?_⟩, by simp, fun i s l hs hl => ?_, fun i j s t b _ hs _ hg => ?_⟩
  · rw [← Array.length_toList, e]; simp
  · rw [e, Nat.mul_one]; exact List.take_of_length_le (by simp)
  · have : g = k := by simpa [Value.ownBlock] using hk
    omega
  · rw [List.getElem?_replicate] at hs hl
    split at hs
    · rename_i hin
      rw [if_pos hin] at hl
      injection hs with hs
      injection hl with hl
      subst hs hl
      exact IOwn.none_ _ _ _ _ _
    · cases hs
  · rw [List.getElem?_replicate] at hs
    split at hs
    · injection hs with hs
      subst hs
      cases hg
    · cases hs
theorem Bk.ints {W : World} {g n : Nat} (h : Bk W g 3 (cellI n)) (hn : n ≤ 1048576) : IOwn W g (g + 1) 3 1 (some ⟨g, 0, none⟩) n n (List.replicate n 0) := by
  have e : (cellI n).toList = (List.replicate n (0 : Int)).map (Value.int .i64) := by
    unfold cellI
    rw [Nat.mul_one, List.map_replicate]
    exact toList_madeCells_one _ n
  refine ⟨⟨by simp, .inr ⟨g, n, _, rfl, Nat.le_refl _, h, Nat.le_refl _, by unfold maxLen; omega, ?_, ?_⟩⟩, fun k hk => ?_⟩
  · rw [← Array.length_toList, e]; simp
  · rw [e, Nat.mul_one]; exact List.take_of_length_le (by simp)
  · have : g = k := by simpa [Value.ownBlock] using hk
    omega
def nfOk (z qu li : Int) : Bool := decide (1 ≤ z ∧ z ≤ 8) && fok qu li (List.replicate z.toNat []) (List.replicate z.toNat 0) 0 false
def ifG {α : Type} (ok : Bool) (l : List α) : List α := if ok then l else []
def NfP (w : World) (z qu li : Int) : Ending → World → Prop := NewFaB w (ifz (nfOk z qu li) qu) (ifz (nfOk z qu li) li) 0 false (ifG (nfOk z qu li) (List.replicate z.toNat [])) (ifG (nfOk z qu li) (List.replicate z.toNat 0)) (nfOk z qu li)
theorem NfP_no {w : World} {z qu li : Int} (h : nfOk z qu li = false) : NfP w z qu li = NewFaB w 0 0 0 false [] [] false := by simp [NfP, h, ifz, ifG]
theorem NfP_yes {w : World} {z qu li : Int} (h : nfOk z qu li = true) : NfP w z qu li = NewFaB w qu li 0 false (List.replicate z.toNat []) (List.replicate z.toNat 0) true := by simp [NfP, h, ifz, ifG]
theorem specNf_bad (z qu li : Int) (w : World) (h : decide (1 ≤ z ∧ z ≤ 8) = false) : Calls Try.prog 36 #[.int .i64 z, .int .i64 qu, .int .i64 li] w (NfP w z qu li) := by
  have HN := Lib.hid (show nfOk z qu li = false by simp only [nfOk, h, Bool.false_and])
  rw [NfP_no HN.out]
  go_enter Try.func36, Try.ntmps36
  go_wp2_with (go_at_call 61; (with_reducible refine (l1In_b h _).mono ?_); rintro e w' ⟨rfl, rfl⟩)
  exact bodyPost_ret (v := .tuple #[.agg #[.int .i64 0, .int .i64 0, .slice none 0 0, .slice none 0 0, .int .i64 0, .bool false], .bool false]) (by simp [results, Try.results36, go_sem]) rfl (NewFaB.none_ rfl (by repeat (first | (with_reducible exact (b0 w)) | (with_reducible refine ba ?_ _) | (with_reducible refine bsB ?_ (by omega)) | (with_reducible refine bd ?_ _) | (with_reducible refine Below.drew ?_))))
theorem implNf_bad (z qu li : Int) (w : World) (h : decide (1 ≤ z ∧ z ≤ 8) = false) : Calls Try.prog 37 #[.int .i64 z, .int .i64 qu, .int .i64 li] w (NfP w z qu li) := by
  have HN := Lib.hid (show nfOk z qu li = false by simp only [nfOk, h, Bool.false_and])
  rw [NfP_no HN.out]
  have h' := of_decide_eq_false h
  clear h
  rcases Int.lt_or_le z 1 with h1 | h1
  · clear h'
    go_enter Try.func37, Try.ntmps37
    go_wp2_with fail
    exact bodyPost_ret (v := .tuple #[.agg #[.int .i64 0, .int .i64 0, .slice none 0 0, .slice none 0 0, .int .i64 0, .bool false], .bool false]) (by simp [results, Try.results37, go_sem]) rfl (NewFaB.none_ rfl (by repeat (first | (with_reducible exact (b0 w)) | (with_reducible refine ba ?_ _) | (with_reducible refine bsB ?_ (by omega)) | (with_reducible refine bd ?_ _) | (with_reducible refine Below.drew ?_))))
  · have h2 : 8 < z := by omega
    clear h'
    go_enter Try.func37, Try.ntmps37
    go_wp2_with fail
    exact bodyPost_ret (v := .tuple #[.agg #[.int .i64 0, .int .i64 0, .slice none 0 0, .slice none 0 0, .int .i64 0, .bool false], .bool false]) (by simp [results, Try.results37, go_sem]) rfl (NewFaB.none_ rfl (by repeat (first | (with_reducible exact (b0 w)) | (with_reducible refine ba ?_ _) | (with_reducible refine bsB ?_ (by omega)) | (with_reducible refine bd ?_ _) | (with_reducible refine Below.drew ?_))))
set_option maxRecDepth 100000 in
set_option maxHeartbeats 4000000 in
theorem specNf_yes (n : Nat) (qu li : Int) (w : World) (h1 : 1 ≤ n) (h8 : n ≤ 8) : Calls Try.prog 36 #[.int .i64 (n : Int), .int .i64 qu, .int .i64 li] w (NfP w (n : Int) qu li) := by
  have h : decide (1 ≤ (n : Int) ∧ (n : Int) ≤ 8) = true := decide_eq_true (by omega)
  have HMN := Lib.hid (run_make_nest n (by omega))
  have HMI := Lib.hid (run_make_ints n (by omega))
  have mN := HMN.out
  have mI := HMI.out
  go_enter Try.func36, Try.ntmps36
  go_wp2_with (go_at_call 61; (with_reducible refine (l1In_b h _).mono ?_); rintro e w' ⟨rfl, rfl⟩)
  obtain ⟨w1, hW⟩ : ∃ x, x = w.alloc (.cells #[.int .i64 0, .int .i64 0, .slice none 0 0, .slice none 0 0, .int .i64 0, .bool false] 56) := ⟨_, rfl⟩
  rw [← hW]
  have R1 := Lib.hid (show Bk w1 w.heap.size 56 #[.int .i64 0, .int .i64 0, .slice none 0 0, .slice none 0 0, .int .i64 0, .bool false] from by rw [hW]; exact Bk.new _ _ _)
  have B1 := Lib.hid (show Below w.heap.size w w1 from by rw [hW]; exact ba (b0 w) _)
  have z1 : w1.heap.size = w.heap.size + 1 := by rw [hW]; simp
  clear hW
  go_cut [8] (fun a8 wx => ∃ (x y v : Nat), a8 = .pointer (some ⟨x, 0, none⟩) ∧ Bk wx x 56 #[.int .i64 qu, .int .i64 li, .slice (some ⟨y, 0, none⟩) n n, .slice (some ⟨v, 0, none⟩) n n, .int .i64 0, .bool false] ∧ Bk wx y 28 (cellN n) ∧ Bk wx v 3 (cellI n) ∧ (w1.heap.size ≤ x ∧ w1.heap.size ≤ y ∧ w1.heap.size ≤ v) ∧ Below w1.heap.size w1 wx)
  case first =>
    go_region
    all_goals (go_wp2_with fail; go_meet; first | ((refine ⟨w.heap.size + 1, w.heap.size + 1 + 1, w.heap.size + 1 + 1 + 1, rfl, ?_, ?_, ?_, ?_, (ba (ba (ba (b0 w1) _) _) _).drew⟩) <;> first | omega | ((repeat (first | ((with_reducible refine Bk.new_ ?_); (simp [z1]; done)) | (with_reducible refine Bk.alloc ?_ _) | (with_reducible refine Bk.drew ?_))); done)) | ((refine ⟨w.heap.size + 1, w.heap.size + 1 + 1 + 1, w.heap.size + 1 + 1, rfl, ?_, ?_, ?_, ?_, (ba (ba (ba (b0 w1) _) _) _).drew⟩) <;> first | omega | ((repeat (first | ((with_reducible refine Bk.new_ ?_); (simp [z1]; done)) | (with_reducible refine Bk.alloc ?_ _) | (with_reducible refine Bk.drew ?_))); done)) | ((refine ⟨w.heap.size + 1 + 1, w.heap.size + 1, w.heap.size + 1 + 1 + 1, rfl, ?_, ?_, ?_, ?_, (ba (ba (ba (b0 w1) _) _) _).drew⟩) <;> first | omega | ((repeat (first | ((with_reducible refine Bk.new_ ?_); (simp [z1]; done)) | (with_reducible refine Bk.alloc ?_ _) | (with_reducible refine Bk.drew ?_))); done)) | ((refine ⟨w.heap.size + 1 + 1, w.heap.size + 1 + 1 + 1, w.heap.size + 1, rfl, ?_, ?_, ?_, ?_, (ba (ba (ba (b0 w1) _) _) _).drew⟩) <;> first | omega | ((repeat (first | ((with_reducible refine Bk.new_ ?_); (simp [z1]; done)) | (with_reducible refine Bk.alloc ?_ _) | (with_reducible refine Bk.drew ?_))); done)) | ((refine ⟨w.heap.size + 1 + 1 + 1, w.heap.size + 1, w.heap.size + 1 + 1, rfl, ?_, ?_, ?_, ?_, (ba (ba (ba (b0 w1) _) _) _).drew⟩) <;> first | omega | ((repeat (first | ((with_reducible refine Bk.new_ ?_); (simp [z1]; done)) | (with_reducible refine Bk.alloc ?_ _) | (with_reducible refine Bk.drew ?_))); done)) | ((refine ⟨w.heap.size + 1 + 1 + 1, w.heap.size + 1 + 1, w.heap.size + 1, rfl, ?_, ?_, ?_, ?_, (ba (ba (ba (b0 w1) _) _) _).drew⟩) <;> first | omega | ((repeat (first | ((with_reducible refine Bk.new_ ?_); (simp [z1]; done)) | (with_reducible refine Bk.alloc ?_ _) | (with_reducible refine Bk.drew ?_))); done)))
  obtain ⟨w2, hwc⟩ : ∃ x, x = wc := ⟨_, rfl⟩
  subst hwc
  obtain ⟨x, y, v, rfl, hx, hy, hv, hle, hb2⟩ := hcut
  have z2 := hb2.size
  have R2 := Lib.hid (R1.out.old hb2)
  have B2 := Lib.hid (bt B1.out hb2)
  have HY := Lib.hid hy
  have HV := Lib.hid hv
  have hy2 := hy.lt
  have hv2 := hv.lt
  have f : Bk w2 (x) 56 #[.int .i64 qu, .int .i64 li, .slice (some ⟨y, 0, none⟩) n n, .slice (some ⟨v, 0, none⟩) n n, .int .i64 0, .bool false] := hx
  have zf : x < w2.heap.size := f.lt
  have f_0 : w2.cell? ⟨x, 0, none⟩ = some (.int .i64 qu) := f.cell 0
  have f_1 : w2.cell? ⟨x, 1, none⟩ = some (.int .i64 li) := f.cell 1
  have f_2 : w2.cell? ⟨x, 2, none⟩ = some (.slice (some ⟨y, 0, none⟩) n n) := f.cell 2
  have f_3 : w2.cell? ⟨x, 3, none⟩ = some (.slice (some ⟨v, 0, none⟩) n n) := f.cell 3
  have f_4 : w2.cell? ⟨x, 4, none⟩ = some (.int .i64 0) := f.cell 4
  have f_5 : w2.cell? ⟨x, 5, none⟩ = some (.bool false) := f.cell 5
  have ff := f.free
  have Hf := Lib.hid f
  clear f
  clear hx hy hv hb2 mN mI
  have HFO := Lib.hid (show FOwn w2 w1.heap.size w2.heap.size ⟨some ⟨y, 0, none⟩, n, n, some ⟨v, 0, none⟩, n, n⟩ ((List.replicate n []).map fl) (List.replicate n 0) from ⟨by rw [List.map_replicate]; exact (HY.out.nest (by omega)).lo_le hle.2.1 |>.more hy2, (HV.out.ints (by omega)).lo_le hle.2.2 |>.more hv2⟩)
  rcases hk : fok qu li (List.replicate n []) (List.replicate n 0) 0 false with _ | _
  · have HN := Lib.hid (show nfOk (n : Int) qu li = false by simp only [nfOk, Int.toNat_natCast, hk, Bool.and_false])
    go_wp2_with fail
    refine (faGood_b _ _ _ _ _ _ _ _ _ _ (List.replicate n []) (List.replicate n 0) _ HFO.out.row (by omega) (by omega) hk).mono ?_
    rintro e w3 ⟨rfl, hg3⟩
    have B3 := Lib.hid (bt B2.out hg3)
    have r : Bk w3 (w.heap.size) 56 #[.int .i64 0, .int .i64 0, .slice none 0 0, .slice none 0 0, .int .i64 0, .bool false] := R2.out.old hg3
    have zr : w.heap.size < w3.heap.size := r.lt
    have r_0 : w3.cell? ⟨w.heap.size, 0, none⟩ = some (.int .i64 0) := r.cell 0
    have r_1 : w3.cell? ⟨w.heap.size, 1, none⟩ = some (.int .i64 0) := r.cell 1
    have r_2 : w3.cell? ⟨w.heap.size, 2, none⟩ = some (.slice none 0 0) := r.cell 2
    have r_3 : w3.cell? ⟨w.heap.size, 3, none⟩ = some (.slice none 0 0) := r.cell 3
    have r_4 : w3.cell? ⟨w.heap.size, 4, none⟩ = some (.int .i64 0) := r.cell 4
    have r_5 : w3.cell? ⟨w.heap.size, 5, none⟩ = some (.bool false) := r.cell 5
    have rf := r.free
    have Hr := Lib.hid r
    clear r
    clear hg3
    go_wp2_with fail
    exact bodyPost_ret (v := .tuple #[.agg #[.int .i64 0, .int .i64 0, .slice none 0 0, .slice none 0 0, .int .i64 0, .bool false], .bool false]) (by simp [results, Try.results36, go_sem, r_0, r_1, r_2, r_3, r_4, r_5]) rfl (by rw [NfP_no HN.out]; exact NewFaB.none_ rfl (by repeat (first | (with_reducible exact B3.out) | (with_reducible refine ba ?_ _) | (with_reducible refine bsB ?_ (by omega)) | (with_reducible refine bd ?_ _) | (with_reducible refine Below.drew ?_))))
  have HN := Lib.hid (show nfOk (n : Int) qu li = true by simp only [nfOk, Int.toNat_natCast, hk, h, Bool.and_true])
  go_wp2_with fail
  refine (faGood_b _ _ _ _ _ _ _ _ _ _ (List.replicate n []) (List.replicate n 0) _ HFO.out.row (by omega) (by omega) hk).mono ?_
  rintro e w3 ⟨rfl, hg3⟩
  have B3 := Lib.hid (bt B2.out hg3)
  have z3 := hg3.size
  have HFO3 := Lib.hid (HFO.out.old hg3)
  have HX3 := Lib.hid (Hf.out.old hg3)
  have r : Bk w3 (w.heap.size) 56 #[.int .i64 0, .int .i64 0, .slice none 0 0, .slice none 0 0, .int .i64 0, .bool false] := R2.out.old hg3
  have zr : w.heap.size < w3.heap.size := r.lt
  have r_0 : w3.cell? ⟨w.heap.size, 0, none⟩ = some (.int .i64 0) := r.cell 0
  have r_1 : w3.cell? ⟨w.heap.size, 1, none⟩ = some (.int .i64 0) := r.cell 1
  have r_2 : w3.cell? ⟨w.heap.size, 2, none⟩ = some (.slice none 0 0) := r.cell 2
  have r_3 : w3.cell? ⟨w.heap.size, 3, none⟩ = some (.slice none 0 0) := r.cell 3
  have r_4 : w3.cell? ⟨w.heap.size, 4, none⟩ = some (.int .i64 0) := r.cell 4
  have r_5 : w3.cell? ⟨w.heap.size, 5, none⟩ = some (.bool false) := r.cell 5
  have rf := r.free
  have Hr := Lib.hid r
  clear r
  clear hg3 f_0 f_1 f_2 f_3 f_4 f_5 ff zf
  have f : Bk w3 (x) 56 #[.int .i64 qu, .int .i64 li, .slice (some ⟨y, 0, none⟩) n n, .slice (some ⟨v, 0, none⟩) n n, .int .i64 0, .bool false] := HX3.out
  have zf : x < w3.heap.size := f.lt
  have f_0 : w3.cell? ⟨x, 0, none⟩ = some (.int .i64 qu) := f.cell 0
  have f_1 : w3.cell? ⟨x, 1, none⟩ = some (.int .i64 li) := f.cell 1
  have f_2 : w3.cell? ⟨x, 2, none⟩ = some (.slice (some ⟨y, 0, none⟩) n n) := f.cell 2
  have f_3 : w3.cell? ⟨x, 3, none⟩ = some (.slice (some ⟨v, 0, none⟩) n n) := f.cell 3
  have f_4 : w3.cell? ⟨x, 4, none⟩ = some (.int .i64 0) := f.cell 4
  have f_5 : w3.cell? ⟨x, 5, none⟩ = some (.bool false) := f.cell 5
  have ff := f.free
  have Hf := Lib.hid f
  clear f
  go_wp2_with fail
  refine bodyPost_ret (v := .tuple #[.agg #[.int .i64 qu, .int .i64 li, .slice (some ⟨y, 0, none⟩) n n, .slice (some ⟨v, 0, none⟩) n n, .int .i64 0, .bool false], .bool true]) (by simp [results, Try.results36, go_sem, r_0, r_1, r_2, r_3, r_4, r_5]) rfl ?_
  rw [NfP_yes HN.out, Int.toNat_natCast]
  refine ⟨⟨some ⟨y, 0, none⟩, n, n, some ⟨v, 0, none⟩, n, n⟩, rfl, ?_, ?_⟩
  · refine (FOwn.lo_le (lo := w1.heap.size) (FOwn.here (hi := w2.heap.size) ?_) (by omega))
    repeat (refine FOwn.farC ?_ (.inl (by omega)))
    have h := HFO3.out
    rwa [List.map_replicate] at h
  · exact (by repeat (first | (with_reducible exact B3.out) | (with_reducible refine ba ?_ _) | (with_reducible refine bsB ?_ (by omega)) | (with_reducible refine bd ?_ _) | (with_reducible refine Below.drew ?_)))
set_option maxRecDepth 100000 in
set_option maxHeartbeats 4000000 in
theorem implNf_yes (n : Nat) (qu li : Int) (w : World) (h1 : 1 ≤ n) (h8 : n ≤ 8) : Calls Try.prog 37 #[.int .i64 (n : Int), .int .i64 qu, .int .i64 li] w (NfP w (n : Int) qu li) := by
  have h : decide (1 ≤ (n : Int) ∧ (n : Int) ≤ 8) = true := decide_eq_true (by omega)
  have HMN := Lib.hid (run_make_nest n (by omega))
  have HMI := Lib.hid (run_make_ints n (by omega))
  have mN := HMN.out
  have mI := HMI.out
  go_enter Try.func37, Try.ntmps37
  go_wp2_with fail
  obtain ⟨w1, hW⟩ : ∃ x, x = w.alloc (.cells #[.int .i64 0, .int .i64 0, .slice none 0 0, .slice none 0 0, .int .i64 0, .bool false] 56) := ⟨_, rfl⟩
  rw [← hW]
  have R1 := Lib.hid (show Bk w1 w.heap.size 56 #[.int .i64 0, .int .i64 0, .slice none 0 0, .slice none 0 0, .int .i64 0, .bool false] from by rw [hW]; exact Bk.new _ _ _)
  have B1 := Lib.hid (show Below w.heap.size w w1 from by rw [hW]; exact ba (b0 w) _)
  have z1 : w1.heap.size = w.heap.size + 1 := by rw [hW]; simp
  clear hW
  go_cut [8] (fun a8 wx => ∃ (x y v : Nat), a8 = .pointer (some ⟨x, 0, none⟩) ∧ Bk wx x 56 #[.int .i64 qu, .int .i64 li, .slice (some ⟨y, 0, none⟩) n n, .slice (some ⟨v, 0, none⟩) n n, .int .i64 0, .bool false] ∧ Bk wx y 28 (cellN n) ∧ Bk wx v 3 (cellI n) ∧ (w1.heap.size ≤ x ∧ w1.heap.size ≤ y ∧ w1.heap.size ≤ v) ∧ Below w1.heap.size w1 wx)
  case first =>
    go_region
    all_goals (go_wp2_with fail; go_meet; first | ((refine ⟨w.heap.size + 1, w.heap.size + 1 + 1, w.heap.size + 1 + 1 + 1, rfl, ?_, ?_, ?_, ?_, (ba (ba (ba (b0 w1) _) _) _).drew⟩) <;> first | omega | ((repeat (first | ((with_reducible refine Bk.new_ ?_); (simp [z1]; done)) | (with_reducible refine Bk.alloc ?_ _) | (with_reducible refine Bk.drew ?_))); done)) | ((refine ⟨w.heap.size + 1, w.heap.size + 1 + 1 + 1, w.heap.size + 1 + 1, rfl, ?_, ?_, ?_, ?_, (ba (ba (ba (b0 w1) _) _) _).drew⟩) <;> first | omega | ((repeat (first | ((with_reducible refine Bk.new_ ?_); (simp [z1]; done)) | (with_reducible refine Bk.alloc ?_ _) | (with_reducible refine Bk.drew ?_))); done)) | ((refine ⟨w.heap.size + 1 + 1, w.heap.size + 1, w.heap.size + 1 + 1 + 1, rfl, ?_, ?_, ?_, ?_, (ba (ba (ba (b0 w1) _) _) _).drew⟩) <;> first | omega | ((repeat (first | ((with_reducible refine Bk.new_ ?_); (simp [z1]; done)) | (with_reducible refine Bk.alloc ?_ _) | (with_reducible refine Bk.drew ?_))); done)) | ((refine ⟨w.heap.size + 1 + 1, w.heap.size + 1 + 1 + 1, w.heap.size + 1, rfl, ?_, ?_, ?_, ?_, (ba (ba (ba (b0 w1) _) _) _).drew⟩) <;> first | omega | ((repeat (first | ((with_reducible refine Bk.new_ ?_); (simp [z1]; done)) | (with_reducible refine Bk.alloc ?_ _) | (with_reducible refine Bk.drew ?_))); done)) | ((refine ⟨w.heap.size + 1 + 1 + 1, w.heap.size + 1, w.heap.size + 1 + 1, rfl, ?_, ?_, ?_, ?_, (ba (ba (ba (b0 w1) _) _) _).drew⟩) <;> first | omega | ((repeat (first | ((with_reducible refine Bk.new_ ?_); (simp [z1]; done)) | (with_reducible refine Bk.alloc ?_ _) | (with_reducible refine Bk.drew ?_))); done)) | ((refine ⟨w.heap.size + 1 + 1 + 1, w.heap.size + 1 + 1, w.heap.size + 1, rfl, ?_, ?_, ?_, ?_, (ba (ba (ba (b0 w1) _) _) _).drew⟩) <;> first | omega | ((repeat (first | ((with_reducible refine Bk.new_ ?_); (simp [z1]; done)) | (with_reducible refine Bk.alloc ?_ _) | (with_reducible refine Bk.drew ?_))); done)))
  obtain ⟨w2, hwc⟩ : ∃ x, x = wc := ⟨_, rfl⟩
  subst hwc
  obtain ⟨x, y, v, rfl, hx, hy, hv, hle, hb2⟩ := hcut
  have z2 := hb2.size
  have R2 := Lib.hid (R1.out.old hb2)
  have B2 := Lib.hid (bt B1.out hb2)
  have HY := Lib.hid hy
  have HV := Lib.hid hv
  have hy2 := hy.lt
  have hv2 := hv.lt
  have f : Bk w2 (x) 56 #[.int .i64 qu, .int .i64 li, .slice (some ⟨y, 0, none⟩) n n, .slice (some ⟨v, 0, none⟩) n n, .int .i64 0, .bool false] := hx
  have zf : x < w2.heap.size := f.lt
  have f_0 : w2.cell? ⟨x, 0, none⟩ = some (.int .i64 qu) := f.cell 0
  have f_1 : w2.cell? ⟨x, 1, none⟩ = some (.int .i64 li) := f.cell 1
  have f_2 : w2.cell? ⟨x, 2, none⟩ = some (.slice (some ⟨y, 0, none⟩) n n) := f.cell 2
  have f_3 : w2.cell? ⟨x, 3, none⟩ = some (.slice (some ⟨v, 0, none⟩) n n) := f.cell 3
  have f_4 : w2.cell? ⟨x, 4, none⟩ = some (.int .i64 0) := f.cell 4
  have f_5 : w2.cell? ⟨x, 5, none⟩ = some (.bool false) := f.cell 5
  have ff := f.free
  have Hf := Lib.hid f
  clear f
  clear hx hy hv hb2 mN mI
  have HFO := Lib.hid (show FOwn w2 w1.heap.size w2.heap.size ⟨some ⟨y, 0, none⟩, n, n, some ⟨v, 0, none⟩, n, n⟩ ((List.replicate n []).map fl) (List.replicate n 0) from ⟨by rw [List.map_replicate]; exact (HY.out.nest (by omega)).lo_le hle.2.1 |>.more hy2, (HV.out.ints (by omega)).lo_le hle.2.2 |>.more hv2⟩)
  rcases hk : fok qu li (List.replicate n []) (List.replicate n 0) 0 false with _ | _
  · have HN := Lib.hid (show nfOk (n : Int) qu li = false by simp only [nfOk, Int.toNat_natCast, hk, Bool.and_false])
    go_wp2_with fail
    refine (implIsFair_b _ _ _ _ _ _ _ _ _ _ (List.replicate n []) (List.replicate n 0) _ HFO.out.row (by omega) (by omega) hk).mono ?_
    rintro e w3 ⟨rfl, hg3⟩
    have B3 := Lib.hid (bt B2.out hg3)
    have r : Bk w3 (w.heap.size) 56 #[.int .i64 0, .int .i64 0, .slice none 0 0, .slice none 0 0, .int .i64 0, .bool false] := R2.out.old hg3
    have zr : w.heap.size < w3.heap.size := r.lt
    have r_0 : w3.cell? ⟨w.heap.size, 0, none⟩ = some (.int .i64 0) := r.cell 0
    have r_1 : w3.cell? ⟨w.heap.size, 1, none⟩ = some (.int .i64 0) := r.cell 1
    have r_2 : w3.cell? ⟨w.heap.size, 2, none⟩ = some (.slice none 0 0) := r.cell 2
    have r_3 : w3.cell? ⟨w.heap.size, 3, none⟩ = some (.slice none 0 0) := r.cell 3
    have r_4 : w3.cell? ⟨w.heap.size, 4, none⟩ = some (.int .i64 0) := r.cell 4
    have r_5 : w3.cell? ⟨w.heap.size, 5, none⟩ = some (.bool false) := r.cell 5
    have rf := r.free
    have Hr := Lib.hid r
    clear r
    clear hg3
    go_wp2_with fail
    exact bodyPost_ret (v := .tuple #[.agg #[.int .i64 0, .int .i64 0, .slice none 0 0, .slice none 0 0, .int .i64 0, .bool false], .bool false]) (by simp [results, Try.results37, go_sem, r_0, r_1, r_2, r_3, r_4, r_5]) rfl (by rw [NfP_no HN.out]; exact NewFaB.none_ rfl (by repeat (first | (with_reducible exact B3.out) | (with_reducible refine ba ?_ _) | (with_reducible refine bsB ?_ (by omega)) | (with_reducible refine bd ?_ _) | (with_reducible refine Below.drew ?_))))
  have HN := Lib.hid (show nfOk (n : Int) qu li = true by simp only [nfOk, Int.toNat_natCast, hk, h, Bool.and_true])
  go_wp2_with fail
  refine (implIsFair_b _ _ _ _ _ _ _ _ _ _ (List.replicate n []) (List.replicate n 0) _ HFO.out.row (by omega) (by omega) hk).mono ?_
  rintro e w3 ⟨rfl, hg3⟩
  have B3 := Lib.hid (bt B2.out hg3)
  have z3 := hg3.size
  have HFO3 := Lib.hid (HFO.out.old hg3)
  have HX3 := Lib.hid (Hf.out.old hg3)
  have r : Bk w3 (w.heap.size) 56 #[.int .i64 0, .int .i64 0, .slice none 0 0, .slice none 0 0, .int .i64 0, .bool false] := R2.out.old hg3
  have zr : w.heap.size < w3.heap.size := r.lt
  have r_0 : w3.cell? ⟨w.heap.size, 0, none⟩ = some (.int .i64 0) := r.cell 0
  have r_1 : w3.cell? ⟨w.heap.size, 1, none⟩ = some (.int .i64 0) := r.cell 1
  have r_2 : w3.cell? ⟨w.heap.size, 2, none⟩ = some (.slice none 0 0) := r.cell 2
  have r_3 : w3.cell? ⟨w.heap.size, 3, none⟩ = some (.slice none 0 0) := r.cell 3
  have r_4 : w3.cell? ⟨w.heap.size, 4, none⟩ = some (.int .i64 0) := r.cell 4
  have r_5 : w3.cell? ⟨w.heap.size, 5, none⟩ = some (.bool false) := r.cell 5
  have rf := r.free
  have Hr := Lib.hid r
  clear r
  clear hg3 f_0 f_1 f_2 f_3 f_4 f_5 ff zf
  have f : Bk w3 (x) 56 #[.int .i64 qu, .int .i64 li, .slice (some ⟨y, 0, none⟩) n n, .slice (some ⟨v, 0, none⟩) n n, .int .i64 0, .bool false] := HX3.out
  have zf : x < w3.heap.size := f.lt
  have f_0 : w3.cell? ⟨x, 0, none⟩ = some (.int .i64 qu) := f.cell 0
  have f_1 : w3.cell? ⟨x, 1, none⟩ = some (.int .i64 li) := f.cell 1
  have f_2 : w3.cell? ⟨x, 2, none⟩ = some (.slice (some ⟨y, 0, none⟩) n n) := f.cell 2
  have f_3 : w3.cell? ⟨x, 3, none⟩ = some (.slice (some ⟨v, 0, none⟩) n n) := f.cell 3
  have f_4 : w3.cell? ⟨x, 4, none⟩ = some (.int .i64 0) := f.cell 4
  have f_5 : w3.cell? ⟨x, 5, none⟩ = some (.bool false) := f.cell 5
  have ff := f.free
  have Hf := Lib.hid f
  clear f
  go_wp2_with fail
  refine bodyPost_ret (v := .tuple #[.agg #[.int .i64 qu, .int .i64 li, .slice (some ⟨y, 0, none⟩) n n, .slice (some ⟨v, 0, none⟩) n n, .int .i64 0, .bool false], .bool true]) (by simp [results, Try.results37, go_sem, r_0, r_1, r_2, r_3, r_4, r_5]) rfl ?_
  rw [NfP_yes HN.out, Int.toNat_natCast]
  refine ⟨⟨some ⟨y, 0, none⟩, n, n, some ⟨v, 0, none⟩, n, n⟩, rfl, ?_, ?_⟩
  · refine (FOwn.lo_le (lo := w1.heap.size) (FOwn.here (hi := w2.heap.size) ?_) (by omega))
    repeat (refine FOwn.farC ?_ (.inl (by omega)))
    have h := HFO3.out
    rwa [List.map_replicate] at h
  · exact (by repeat (first | (with_reducible exact B3.out) | (with_reducible refine ba ?_ _) | (with_reducible refine bsB ?_ (by omega)) | (with_reducible refine bd ?_ _) | (with_reducible refine Below.drew ?_)))
theorem specNewFair_any (z qu li : Int) (w : World) : Calls Try.prog 36 #[.int .i64 z, .int .i64 qu, .int .i64 li] w (NfP w z qu li) := by
  rcases h : decide (1 ≤ z ∧ z ≤ 8) with _ | _
  · exact specNf_bad z qu li w h
  · have h' := of_decide_eq_true h
    obtain ⟨n, rfl⟩ : ∃ n : Nat, z = (n : Int) := ⟨z.toNat, by omega⟩
    exact specNf_yes n qu li w (by omega) (by omega)
theorem implNewFair_any (z qu li : Int) (w : World) : Calls Try.prog 37 #[.int .i64 z, .int .i64 qu, .int .i64 li] w (NfP w z qu li) := by
  rcases h : decide (1 ≤ z ∧ z ≤ 8) with _ | _
  · exact implNf_bad z qu li w h
  · have h' := of_decide_eq_true h
    obtain ⟨n, rfl⟩ : ∃ n : Nat, z = (n : Int) := ⟨z.toNat, by omega⟩
    exact implNf_yes n qu li w (by omega) (by omega)
end Go.Proofs.Ytgdldmeeaejjpaa
