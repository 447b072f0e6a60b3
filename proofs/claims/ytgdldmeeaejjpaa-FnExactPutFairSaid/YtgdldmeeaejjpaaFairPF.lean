/- The contracts of PutFair. -/
import Derived.Test.YtgdldmeeaejjpaaFairPut
import Derived.Test.YtgdldmeeaejjpaaFairOpen
namespace Go.Proofs.Ytgdldmeeaejjpaa
open Go.ChangeShapes Go.WideShapes Go.ChangeAt Go.RowKit
set_option linter.unusedVariables false
/-- A scheduler of the call's own, whether the packet went in, and whether the call was allowed. -/
def NewFaBB (w : World) (qu li nx : Int) (op : Bool) (G : List (List Int)) (D : List Int) (b c : Bool) (e : Ending) (w' : World) : Prop :=
  ∃ M : Fm, e = .returned (.tuple #[.agg #[.int .i64 qu, .int .i64 li, .slice M.A M.n M.cap, .slice M.B M.m M.capd, .int .i64 nx, .bool op], .bool b, .bool c]) ∧ FOwn w' w.heap.size w'.heap.size M G D ∧ Below w.heap.size w w'
theorem NewFaBB.none_ {w w' : World} {e : Ending} (he : e = .returned (.tuple #[.agg #[.int .i64 0, .int .i64 0, .slice none 0 0, .slice none 0 0, .int .i64 0, .bool false], .bool false, .bool false])) (hb : Below w.heap.size w w') : NewFaBB w 0 0 0 false [] [] false false e w' := ⟨⟨none, 0, 0, none, 0, 0⟩, he, FOwn.none_ _ _ _, hb⟩
def pfOk (qu li : Int) (F : List (List Pk)) (D : List Int) (nx : Int) (op : Bool) (p : Pk) : Bool := fok qu li F D nx op && p.ok && !fhas F p.id
def pfAt (F : List (List Pk)) (p : Pk) : Nat := (flw p F.length).toNat
def pfIn (li : Int) (F : List (List Pk)) (p : Pk) : Bool := decide (((rowF F (pfAt F p)).length : Int) < li)
theorem faHas_b {b : Bool} (id : Int) (qu li : Int) (A : Option Addr) (n cap : Nat) (B : Option Addr) (m capd : Nat) (nx : Int) (op : Bool) (F : List (List Pk)) (D : List Int) (w : World) (hr : FRow w ⟨A, n, cap, B, m, capd⟩ (F.map fl) D) (hn : n ≤ 1048576) (hm : m ≤ 1048576) (hF : ∀ (k : Nat) (L : List Pk), F[k]? = some L → L.length ≤ 1048576) (h : fhas F id = b) :
    Calls Try.prog 88 #[.agg #[.int .i64 qu, .int .i64 li, .slice A n cap, .slice B m capd, .int .i64 nx, .bool op], .int .i64 id] w fun e w' => e = .returned (.bool b) ∧ Below w.heap.size w w' := h ▸ faHas_any id qu li A n cap B m capd nx op F D w hr hn hm hF
theorem fairHas_b {b : Bool} (id : Int) (Q : Nat) (qu li : Int) (A : Option Addr) (n cap : Nat) (B : Option Addr) (m capd : Nat) (nx : Int) (op : Bool) (F : List (List Pk)) (D : List Int) (w : World) (hq : w.cell? ⟨Q, 2, none⟩ = some (.slice A n cap)) (hr : FRow w ⟨A, n, cap, B, m, capd⟩ (F.map fl) D) (hn : n ≤ 1048576) (hm : m ≤ 1048576) (hF : ∀ (k : Nat) (L : List Pk), F[k]? = some L → L.length ≤ 1048576) (h : fhas F id = b) :
    Calls Try.prog 90 #[.pointer (some ⟨Q, 0, none⟩), .int .i64 id] w fun e w' => e = .returned (.bool b) ∧ Below w.heap.size w w' := h ▸ fairHas_any id Q qu li A n cap B m capd nx op F D w hq hr hn hm hF
set_option maxHeartbeats 2000000 in
theorem specPf_bad (p : Pk) (qu li : Int) (A : Option Addr) (n cap : Nat) (B : Option Addr) (m capd : Nat) (nx : Int) (op : Bool) (F : List (List Pk)) (D : List Int) (w : World) (hr : FRow w ⟨A, n, cap, B, m, capd⟩ (F.map fl) D) (hn : n ≤ 1048576) (hm : m ≤ 1048576) (h : pfOk qu li F D nx op p = false) :
    Calls Try.prog 46 #[.agg #[.int .i64 qu, .int .i64 li, .slice A n cap, .slice B m capd, .int .i64 nx, .bool op], .agg #[.int .i64 (p.id), .int .i64 (p.so), .int .i64 (p.de), .int .i64 (p.po), .int .i64 (p.ma), .int .i64 (p.si)]] w (NewFaBB w 0 0 0 false [] [] false false) := by
  have HO := Lib.hid h
  have HR := Lib.hid (fun (W : World) (hb : Below w.heap.size w W) => hr.below hb)
  clear h hr
  rcases h1 : fok qu li F D nx op with _ | _
  · go_enter Try.func46, Try.ntmps46
    go_wp2_with fail
    refine (faGood_b _ _ _ _ _ _ _ _ _ _ F D _ (HR.out _ (ba (ba (ba (b0 w) _) _) _)) hn hm h1).mono ?_
    rintro e w1 ⟨rfl, hg⟩
    have zhg := hg.size; (try simp at zhg); have c0hg := fun o => bkeep hg (w.heap.size) o (by first | omega | (simp; done) | (simp; omega)); have f0hg := fun o => bfree hg (w.heap.size) o (by first | omega | (simp; done) | (simp; omega)); have c1hg := fun o => bkeep hg (w.heap.size + 1) o (by first | omega | (simp; done) | (simp; omega)); have f1hg := fun o => bfree hg (w.heap.size + 1) o (by first | omega | (simp; done) | (simp; omega)); have c2hg := fun o => bkeep hg (w.heap.size + 1 + 1) o (by first | omega | (simp; done) | (simp; omega)); have f2hg := fun o => bfree hg (w.heap.size + 1 + 1) o (by first | omega | (simp; done) | (simp; omega))
    go_wp2_with fail
    have bb : Below w.heap.size w w1 := (by repeat (first | (with_reducible exact b0 _) | (with_reducible refine ba ?_ _) | (with_reducible refine bd ?_ _) | (with_reducible refine Below.drew ?_) | (with_reducible refine bs ?_ (by first | exact Nat.le_refl _ | exact Nat.le_add_right _ _ | omega) _) | (with_reducible refine bt ?_ (by assumption))))
    have HBB := Lib.hid bb
    clear bb hg
    exact bodyPost_ret (v := .tuple #[.agg #[.int .i64 0, .int .i64 0, .slice none 0 0, .slice none 0 0, .int .i64 0, .bool false], .bool false, .bool false]) (by simp [results, Try.results46, go_sem, c2hg]) rfl (NewFaBB.none_ rfl (by repeat (first | (with_reducible exact HBB.out) | (with_reducible refine ba ?_ _) | (with_reducible refine bsB ?_ (by omega)) | (with_reducible refine bd ?_ _) | (with_reducible refine Below.drew ?_))))
  have HF := Lib.hid (show ∀ (k : Nat) (L : List Pk), F[k]? = some L → L.length ≤ 1048576 from fun k L hk => by have := (fok_row h1 hk).1; omega)
  rcases h2 : p.ok with _ | _
  · go_enter Try.func46, Try.ntmps46
    go_wp2_with fail
    refine (faGood_b _ _ _ _ _ _ _ _ _ _ F D _ (HR.out _ (ba (ba (ba (b0 w) _) _) _)) hn hm h1).mono ?_
    rintro e w1 ⟨rfl, hg⟩
    have zhg := hg.size; (try simp at zhg); have c0hg := fun o => bkeep hg (w.heap.size) o (by first | omega | (simp; done) | (simp; omega)); have f0hg := fun o => bfree hg (w.heap.size) o (by first | omega | (simp; done) | (simp; omega)); have c1hg := fun o => bkeep hg (w.heap.size + 1) o (by first | omega | (simp; done) | (simp; omega)); have f1hg := fun o => bfree hg (w.heap.size + 1) o (by first | omega | (simp; done) | (simp; omega)); have c2hg := fun o => bkeep hg (w.heap.size + 1 + 1) o (by first | omega | (simp; done) | (simp; omega)); have f2hg := fun o => bfree hg (w.heap.size + 1 + 1) o (by first | omega | (simp; done) | (simp; omega))
    go_wp2_with fail
    refine (pkGood_b h2 _).mono ?_
    rintro e w2 ⟨rfl, hg2⟩
    have zhg2 := hg2.size; (try simp at zhg2); have c0hg2 := fun o => bkeep hg2 (w.heap.size) o (by first | omega | (simp; done) | (simp; omega)); have f0hg2 := fun o => bfree hg2 (w.heap.size) o (by first | omega | (simp; done) | (simp; omega)); have c1hg2 := fun o => bkeep hg2 (w.heap.size + 1) o (by first | omega | (simp; done) | (simp; omega)); have f1hg2 := fun o => bfree hg2 (w.heap.size + 1) o (by first | omega | (simp; done) | (simp; omega)); have c2hg2 := fun o => bkeep hg2 (w.heap.size + 1 + 1) o (by first | omega | (simp; done) | (simp; omega)); have f2hg2 := fun o => bfree hg2 (w.heap.size + 1 + 1) o (by first | omega | (simp; done) | (simp; omega))
    go_wp2_with fail
    have bb : Below w.heap.size w w2 := (by repeat (first | (with_reducible exact b0 _) | (with_reducible refine ba ?_ _) | (with_reducible refine bd ?_ _) | (with_reducible refine Below.drew ?_) | (with_reducible refine bs ?_ (by first | exact Nat.le_refl _ | exact Nat.le_add_right _ _ | omega) _) | (with_reducible refine bt ?_ (by assumption))))
    have HBB := Lib.hid bb
    clear bb hg hg2
    exact bodyPost_ret (v := .tuple #[.agg #[.int .i64 0, .int .i64 0, .slice none 0 0, .slice none 0 0, .int .i64 0, .bool false], .bool false, .bool false]) (by simp [results, Try.results46, go_sem, c2hg, c2hg2]) rfl (NewFaBB.none_ rfl (by repeat (first | (with_reducible exact HBB.out) | (with_reducible refine ba ?_ _) | (with_reducible refine bsB ?_ (by omega)) | (with_reducible refine bd ?_ _) | (with_reducible refine Below.drew ?_))))
  have h3 : fhas F p.id = true := by
    have h := HO.out
    rw [pfOk, h1, h2] at h
    simpa using h
  go_enter Try.func46, Try.ntmps46
  go_wp2_with fail
  refine (faGood_b _ _ _ _ _ _ _ _ _ _ F D _ (HR.out _ (ba (ba (ba (b0 w) _) _) _)) hn hm h1).mono ?_
  rintro e w1 ⟨rfl, hg⟩
  have zhg := hg.size; (try simp at zhg); have c0hg := fun o => bkeep hg (w.heap.size) o (by first | omega | (simp; done) | (simp; omega)); have f0hg := fun o => bfree hg (w.heap.size) o (by first | omega | (simp; done) | (simp; omega)); have c1hg := fun o => bkeep hg (w.heap.size + 1) o (by first | omega | (simp; done) | (simp; omega)); have f1hg := fun o => bfree hg (w.heap.size + 1) o (by first | omega | (simp; done) | (simp; omega)); have c2hg := fun o => bkeep hg (w.heap.size + 1 + 1) o (by first | omega | (simp; done) | (simp; omega)); have f2hg := fun o => bfree hg (w.heap.size + 1 + 1) o (by first | omega | (simp; done) | (simp; omega))
  go_wp2_with fail
  refine (pkGood_b h2 _).mono ?_
  rintro e w2 ⟨rfl, hg2⟩
  have zhg2 := hg2.size; (try simp at zhg2); have c0hg2 := fun o => bkeep hg2 (w.heap.size) o (by first | omega | (simp; done) | (simp; omega)); have f0hg2 := fun o => bfree hg2 (w.heap.size) o (by first | omega | (simp; done) | (simp; omega)); have c1hg2 := fun o => bkeep hg2 (w.heap.size + 1) o (by first | omega | (simp; done) | (simp; omega)); have f1hg2 := fun o => bfree hg2 (w.heap.size + 1) o (by first | omega | (simp; done) | (simp; omega)); have c2hg2 := fun o => bkeep hg2 (w.heap.size + 1 + 1) o (by first | omega | (simp; done) | (simp; omega)); have f2hg2 := fun o => bfree hg2 (w.heap.size + 1 + 1) o (by first | omega | (simp; done) | (simp; omega))
  go_wp2_with fail
  have b2 : Below w.heap.size w w2 := (by repeat (first | (with_reducible exact b0 _) | (with_reducible refine ba ?_ _) | (with_reducible refine bd ?_ _) | (with_reducible refine Below.drew ?_) | (with_reducible refine bs ?_ (by first | exact Nat.le_refl _ | exact Nat.le_add_right _ _ | omega) _) | (with_reducible refine bt ?_ (by assumption))))
  have hq2 : w2.cell? ⟨w.heap.size, 2, none⟩ = some (.slice A n cap) := (((((Bk.new w 56 #[.int .i64 qu, .int .i64 li, .slice A n cap, .slice B m capd, .int .i64 nx, .bool op]).alloc _).alloc _).old hg).old hg2).cell 2
  refine (faHas_b _ _ _ _ _ _ _ _ _ _ _ F D _ (HR.out _ b2) hn hm HF.out h3).mono ?_
  rintro e w3 ⟨rfl, hg3⟩
  clear hq2
  have zhg3 := hg3.size; (try simp at zhg3); have c0hg3 := fun o => bkeep hg3 (w.heap.size) o (by first | omega | (simp; done) | (simp; omega)); have f0hg3 := fun o => bfree hg3 (w.heap.size) o (by first | omega | (simp; done) | (simp; omega)); have c1hg3 := fun o => bkeep hg3 (w.heap.size + 1) o (by first | omega | (simp; done) | (simp; omega)); have f1hg3 := fun o => bfree hg3 (w.heap.size + 1) o (by first | omega | (simp; done) | (simp; omega)); have c2hg3 := fun o => bkeep hg3 (w.heap.size + 1 + 1) o (by first | omega | (simp; done) | (simp; omega)); have f2hg3 := fun o => bfree hg3 (w.heap.size + 1 + 1) o (by first | omega | (simp; done) | (simp; omega))
  go_wp2_with fail
  have bb : Below w.heap.size w w3 := bt b2 hg3
  have HBB := Lib.hid bb
  clear bb hg hg2 hg3 b2
  exact bodyPost_ret (v := .tuple #[.agg #[.int .i64 0, .int .i64 0, .slice none 0 0, .slice none 0 0, .int .i64 0, .bool false], .bool false, .bool false]) (by simp [results, Try.results46, go_sem, c2hg, c2hg2, c2hg3]) rfl (NewFaBB.none_ rfl (by repeat (first | (with_reducible exact HBB.out) | (with_reducible refine ba ?_ _) | (with_reducible refine bsB ?_ (by omega)) | (with_reducible refine bd ?_ _) | (with_reducible refine Below.drew ?_))))
set_option maxHeartbeats 2000000 in
theorem implPf_bad (p : Pk) (qu li : Int) (A : Option Addr) (n cap : Nat) (B : Option Addr) (m capd : Nat) (nx : Int) (op : Bool) (F : List (List Pk)) (D : List Int) (w : World) (hr : FRow w ⟨A, n, cap, B, m, capd⟩ (F.map fl) D) (hn : n ≤ 1048576) (hm : m ≤ 1048576) (h : pfOk qu li F D nx op p = false) :
    Calls Try.prog 47 #[.agg #[.int .i64 qu, .int .i64 li, .slice A n cap, .slice B m capd, .int .i64 nx, .bool op], .agg #[.int .i64 (p.id), .int .i64 (p.so), .int .i64 (p.de), .int .i64 (p.po), .int .i64 (p.ma), .int .i64 (p.si)]] w (NewFaBB w 0 0 0 false [] [] false false) := by
  have HO := Lib.hid h
  have HR := Lib.hid (fun (W : World) (hb : Below w.heap.size w W) => hr.below hb)
  clear h hr
  rcases h1 : fok qu li F D nx op with _ | _
  · go_enter Try.func47, Try.ntmps47
    go_wp2_with fail
    refine (implIsFair_b _ _ _ _ _ _ _ _ _ _ F D _ (HR.out _ (ba (ba (ba (b0 w) _) _) _)) hn hm h1).mono ?_
    rintro e w1 ⟨rfl, hg⟩
    have zhg := hg.size; (try simp at zhg); have c0hg := fun o => bkeep hg (w.heap.size) o (by first | omega | (simp; done) | (simp; omega)); have f0hg := fun o => bfree hg (w.heap.size) o (by first | omega | (simp; done) | (simp; omega)); have c1hg := fun o => bkeep hg (w.heap.size + 1) o (by first | omega | (simp; done) | (simp; omega)); have f1hg := fun o => bfree hg (w.heap.size + 1) o (by first | omega | (simp; done) | (simp; omega)); have c2hg := fun o => bkeep hg (w.heap.size + 1 + 1) o (by first | omega | (simp; done) | (simp; omega)); have f2hg := fun o => bfree hg (w.heap.size + 1 + 1) o (by first | omega | (simp; done) | (simp; omega))
    go_wp2_with fail
    have bb : Below w.heap.size w w1 := (by repeat (first | (with_reducible exact b0 _) | (with_reducible refine ba ?_ _) | (with_reducible refine bd ?_ _) | (with_reducible refine Below.drew ?_) | (with_reducible refine bs ?_ (by first | exact Nat.le_refl _ | exact Nat.le_add_right _ _ | omega) _) | (with_reducible refine bt ?_ (by assumption))))
    have HBB := Lib.hid bb
    clear bb hg
    exact bodyPost_ret (v := .tuple #[.agg #[.int .i64 0, .int .i64 0, .slice none 0 0, .slice none 0 0, .int .i64 0, .bool false], .bool false, .bool false]) (by simp [results, Try.results47, go_sem, c2hg]) rfl (NewFaBB.none_ rfl (by repeat (first | (with_reducible exact HBB.out) | (with_reducible refine ba ?_ _) | (with_reducible refine bsB ?_ (by omega)) | (with_reducible refine bd ?_ _) | (with_reducible refine Below.drew ?_))))
  have HF := Lib.hid (show ∀ (k : Nat) (L : List Pk), F[k]? = some L → L.length ≤ 1048576 from fun k L hk => by have := (fok_row h1 hk).1; omega)
  rcases h2 : p.ok with _ | _
  · go_enter Try.func47, Try.ntmps47
    go_wp2_with fail
    refine (implIsFair_b _ _ _ _ _ _ _ _ _ _ F D _ (HR.out _ (ba (ba (ba (b0 w) _) _) _)) hn hm h1).mono ?_
    rintro e w1 ⟨rfl, hg⟩
    have zhg := hg.size; (try simp at zhg); have c0hg := fun o => bkeep hg (w.heap.size) o (by first | omega | (simp; done) | (simp; omega)); have f0hg := fun o => bfree hg (w.heap.size) o (by first | omega | (simp; done) | (simp; omega)); have c1hg := fun o => bkeep hg (w.heap.size + 1) o (by first | omega | (simp; done) | (simp; omega)); have f1hg := fun o => bfree hg (w.heap.size + 1) o (by first | omega | (simp; done) | (simp; omega)); have c2hg := fun o => bkeep hg (w.heap.size + 1 + 1) o (by first | omega | (simp; done) | (simp; omega)); have f2hg := fun o => bfree hg (w.heap.size + 1 + 1) o (by first | omega | (simp; done) | (simp; omega))
    go_wp2_with fail
    refine (isPacket_b h2 _).mono ?_
    rintro e w2 ⟨rfl, hg2⟩
    have zhg2 := hg2.size; (try simp at zhg2); have c0hg2 := fun o => bkeep hg2 (w.heap.size) o (by first | omega | (simp; done) | (simp; omega)); have f0hg2 := fun o => bfree hg2 (w.heap.size) o (by first | omega | (simp; done) | (simp; omega)); have c1hg2 := fun o => bkeep hg2 (w.heap.size + 1) o (by first | omega | (simp; done) | (simp; omega)); have f1hg2 := fun o => bfree hg2 (w.heap.size + 1) o (by first | omega | (simp; done) | (simp; omega)); have c2hg2 := fun o => bkeep hg2 (w.heap.size + 1 + 1) o (by first | omega | (simp; done) | (simp; omega)); have f2hg2 := fun o => bfree hg2 (w.heap.size + 1 + 1) o (by first | omega | (simp; done) | (simp; omega))
    go_wp2_with fail
    have bb : Below w.heap.size w w2 := (by repeat (first | (with_reducible exact b0 _) | (with_reducible refine ba ?_ _) | (with_reducible refine bd ?_ _) | (with_reducible refine Below.drew ?_) | (with_reducible refine bs ?_ (by first | exact Nat.le_refl _ | exact Nat.le_add_right _ _ | omega) _) | (with_reducible refine bt ?_ (by assumption))))
    have HBB := Lib.hid bb
    clear bb hg hg2
    exact bodyPost_ret (v := .tuple #[.agg #[.int .i64 0, .int .i64 0, .slice none 0 0, .slice none 0 0, .int .i64 0, .bool false], .bool false, .bool false]) (by simp [results, Try.results47, go_sem, c2hg, c2hg2]) rfl (NewFaBB.none_ rfl (by repeat (first | (with_reducible exact HBB.out) | (with_reducible refine ba ?_ _) | (with_reducible refine bsB ?_ (by omega)) | (with_reducible refine bd ?_ _) | (with_reducible refine Below.drew ?_))))
  have h3 : fhas F p.id = true := by
    have h := HO.out
    rw [pfOk, h1, h2] at h
    simpa using h
  go_enter Try.func47, Try.ntmps47
  go_wp2_with fail
  refine (implIsFair_b _ _ _ _ _ _ _ _ _ _ F D _ (HR.out _ (ba (ba (ba (b0 w) _) _) _)) hn hm h1).mono ?_
  rintro e w1 ⟨rfl, hg⟩
  have zhg := hg.size; (try simp at zhg); have c0hg := fun o => bkeep hg (w.heap.size) o (by first | omega | (simp; done) | (simp; omega)); have f0hg := fun o => bfree hg (w.heap.size) o (by first | omega | (simp; done) | (simp; omega)); have c1hg := fun o => bkeep hg (w.heap.size + 1) o (by first | omega | (simp; done) | (simp; omega)); have f1hg := fun o => bfree hg (w.heap.size + 1) o (by first | omega | (simp; done) | (simp; omega)); have c2hg := fun o => bkeep hg (w.heap.size + 1 + 1) o (by first | omega | (simp; done) | (simp; omega)); have f2hg := fun o => bfree hg (w.heap.size + 1 + 1) o (by first | omega | (simp; done) | (simp; omega))
  go_wp2_with fail
  refine (isPacket_b h2 _).mono ?_
  rintro e w2 ⟨rfl, hg2⟩
  have zhg2 := hg2.size; (try simp at zhg2); have c0hg2 := fun o => bkeep hg2 (w.heap.size) o (by first | omega | (simp; done) | (simp; omega)); have f0hg2 := fun o => bfree hg2 (w.heap.size) o (by first | omega | (simp; done) | (simp; omega)); have c1hg2 := fun o => bkeep hg2 (w.heap.size + 1) o (by first | omega | (simp; done) | (simp; omega)); have f1hg2 := fun o => bfree hg2 (w.heap.size + 1) o (by first | omega | (simp; done) | (simp; omega)); have c2hg2 := fun o => bkeep hg2 (w.heap.size + 1 + 1) o (by first | omega | (simp; done) | (simp; omega)); have f2hg2 := fun o => bfree hg2 (w.heap.size + 1 + 1) o (by first | omega | (simp; done) | (simp; omega))
  go_wp2_with fail
  have b2 : Below w.heap.size w w2 := (by repeat (first | (with_reducible exact b0 _) | (with_reducible refine ba ?_ _) | (with_reducible refine bd ?_ _) | (with_reducible refine Below.drew ?_) | (with_reducible refine bs ?_ (by first | exact Nat.le_refl _ | exact Nat.le_add_right _ _ | omega) _) | (with_reducible refine bt ?_ (by assumption))))
  have hq2 : w2.cell? ⟨w.heap.size, 2, none⟩ = some (.slice A n cap) := (((((Bk.new w 56 #[.int .i64 qu, .int .i64 li, .slice A n cap, .slice B m capd, .int .i64 nx, .bool op]).alloc _).alloc _).old hg).old hg2).cell 2
  refine (fairHas_b _ _ qu li _ _ _ _ _ _ nx op F D _ hq2 (HR.out _ b2) hn hm HF.out h3).mono ?_
  rintro e w3 ⟨rfl, hg3⟩
  clear hq2
  have zhg3 := hg3.size; (try simp at zhg3); have c0hg3 := fun o => bkeep hg3 (w.heap.size) o (by first | omega | (simp; done) | (simp; omega)); have f0hg3 := fun o => bfree hg3 (w.heap.size) o (by first | omega | (simp; done) | (simp; omega)); have c1hg3 := fun o => bkeep hg3 (w.heap.size + 1) o (by first | omega | (simp; done) | (simp; omega)); have f1hg3 := fun o => bfree hg3 (w.heap.size + 1) o (by first | omega | (simp; done) | (simp; omega)); have c2hg3 := fun o => bkeep hg3 (w.heap.size + 1 + 1) o (by first | omega | (simp; done) | (simp; omega)); have f2hg3 := fun o => bfree hg3 (w.heap.size + 1 + 1) o (by first | omega | (simp; done) | (simp; omega))
  go_wp2_with fail
  have bb : Below w.heap.size w w3 := bt b2 hg3
  have HBB := Lib.hid bb
  clear bb hg hg2 hg3 b2
  exact bodyPost_ret (v := .tuple #[.agg #[.int .i64 0, .int .i64 0, .slice none 0 0, .slice none 0 0, .int .i64 0, .bool false], .bool false, .bool false]) (by simp [results, Try.results47, go_sem, c2hg, c2hg2, c2hg3]) rfl (NewFaBB.none_ rfl (by repeat (first | (with_reducible exact HBB.out) | (with_reducible refine ba ?_ _) | (with_reducible refine bsB ?_ (by omega)) | (with_reducible refine bd ?_ _) | (with_reducible refine Below.drew ?_))))
set_option maxRecDepth 100000 in
set_option maxHeartbeats 4000000 in
theorem specPf_no (p : Pk) (i : Nat) (L : List Pk) (qu li : Int) (A : Option Addr) (n cap : Nat) (B : Option Addr) (m capd : Nat) (nx : Int) (op : Bool) (F : List (List Pk)) (D : List Int) (w : World) (hr : FRow w ⟨A, n, cap, B, m, capd⟩ (F.map fl) D) (hn : n ≤ 1048576) (hm : m ≤ 1048576) (h1 : fok qu li F D nx op = true) (h2 : p.ok = true) (h3 : fhas F p.id = false) (hfl : flw p n = (i : Int)) (hk : F[i]? = some L) (hll : (L.length : Int) = li) :
    Calls Try.prog 46 #[.agg #[.int .i64 qu, .int .i64 li, .slice A n cap, .slice B m capd, .int .i64 nx, .bool op], .agg #[.int .i64 (p.id), .int .i64 (p.so), .int .i64 (p.de), .int .i64 (p.po), .int .i64 (p.ma), .int .i64 (p.si)]] w (NewFaBB w qu li nx op (F.map fl) D false true) := by
  have HFN := Lib.hid (show F.length = n by simpa using hr.qn)
  have HDN := Lib.hid (show D.length = m from hr.dn)
  have HR := Lib.hid (fun (W : World) (hb : Below w.heap.size w W) => hr.below hb)
  clear hr
  obtain rfl : n = m := by have := (fok_num8 h1).2.2.2.1; have := HFN.out; have := HDN.out; omega
  have hn1 : 1 ≤ n := by have := (fok_num8 h1).2.2.1; have := HFN.out; omega
  have hn8 : n ≤ 8 := by have := (fok_num8 h1).2.2.1; have := HFN.out; omega
  have HF := Lib.hid (show ∀ (k : Nat) (L : List Pk), F[k]? = some L → L.length ≤ 1048576 from fun k L hk => by have := (fok_row h1 hk).1; omega)
  have hL : L.length ≤ 1048576 := HF.out i L hk
  have HG := Lib.hid (show ∀ (k : Nat) (l : List Int), (F.map fl)[k]? = some l → l.length ≤ 6291456 from fun k l hk => by
    rw [List.getElem?_map] at hk
    rcases hL : F[k]? with _ | L
    · rw [hL] at hk; cases hk
    · rw [hL] at hk
      simp at hk
      have := (fok_row h1 hL).1
      rw [← hk, fl_len]
      omega)
  have HFL := Lib.hid hfl
  have HLL := Lib.hid hll
  have HK := Lib.hid hk
  clear hfl hll hk
  go_enter Try.func46, Try.ntmps46
  go_wp2_with fail
  refine (faGood_b _ _ _ _ _ _ _ _ _ _ F D _ (HR.out _ (ba (ba (ba (b0 w) _) _) _)) hn hm h1).mono ?_
  rintro e w1 ⟨rfl, hb1⟩
  have z1 := hb1.size
  (try simp at z1)
  have HK_q_1 : Hid (Bk w1 (w.heap.size) 56 #[.int .i64 qu, .int .i64 li, .slice A n cap, .slice B n capd, .int .i64 nx, .bool op]) := Lib.hid ((((Bk.new_ (by simp) : Bk _ (w.heap.size) 56 #[.int .i64 qu, .int .i64 li, .slice A n cap, .slice B n capd, .int .i64 nx, .bool op]).alloc _).alloc _).old hb1)
  have zb_q : w.heap.size < w1.heap.size := HK_q_1.out.lt
  have cb_q_0 : w1.cell? ⟨w.heap.size, 0, none⟩ = some (.int .i64 qu) := HK_q_1.out.cell 0
  have cb_q_1 : w1.cell? ⟨w.heap.size, 1, none⟩ = some (.int .i64 li) := HK_q_1.out.cell 1
  have cb_q_2 : w1.cell? ⟨w.heap.size, 2, none⟩ = some (.slice A n cap) := HK_q_1.out.cell 2
  have cb_q_3 : w1.cell? ⟨w.heap.size, 3, none⟩ = some (.slice B n capd) := HK_q_1.out.cell 3
  have cb_q_4 : w1.cell? ⟨w.heap.size, 4, none⟩ = some (.int .i64 nx) := HK_q_1.out.cell 4
  have cb_q_5 : w1.cell? ⟨w.heap.size, 5, none⟩ = some (.bool op) := HK_q_1.out.cell 5
  have HK_p_1 : Hid (Bk w1 (w.heap.size + 1) 35 #[.int .i64 p.id, .int .i64 p.so, .int .i64 p.de, .int .i64 p.po, .int .i64 p.ma, .int .i64 p.si]) := Lib.hid (((Bk.new_ (by simp) : Bk _ (w.heap.size + 1) 35 #[.int .i64 p.id, .int .i64 p.so, .int .i64 p.de, .int .i64 p.po, .int .i64 p.ma, .int .i64 p.si]).alloc _).old hb1)
  have zb_p : w.heap.size + 1 < w1.heap.size := HK_p_1.out.lt
  have cb_p_0 : w1.cell? ⟨w.heap.size + 1, 0, none⟩ = some (.int .i64 p.id) := HK_p_1.out.cell 0
  have cb_p_1 : w1.cell? ⟨w.heap.size + 1, 1, none⟩ = some (.int .i64 p.so) := HK_p_1.out.cell 1
  have cb_p_2 : w1.cell? ⟨w.heap.size + 1, 2, none⟩ = some (.int .i64 p.de) := HK_p_1.out.cell 2
  have cb_p_3 : w1.cell? ⟨w.heap.size + 1, 3, none⟩ = some (.int .i64 p.po) := HK_p_1.out.cell 3
  have cb_p_4 : w1.cell? ⟨w.heap.size + 1, 4, none⟩ = some (.int .i64 p.ma) := HK_p_1.out.cell 4
  have cb_p_5 : w1.cell? ⟨w.heap.size + 1, 5, none⟩ = some (.int .i64 p.si) := HK_p_1.out.cell 5
  have HK_r_1 : Hid (Bk w1 (w.heap.size + 1 + 1) 56 #[.int .i64 0, .int .i64 0, .slice none 0 0, .slice none 0 0, .int .i64 0, .bool false]) := Lib.hid ((Bk.new_ (by simp) : Bk _ (w.heap.size + 1 + 1) 56 #[.int .i64 0, .int .i64 0, .slice none 0 0, .slice none 0 0, .int .i64 0, .bool false]).old hb1)
  have zb_r : w.heap.size + 1 + 1 < w1.heap.size := HK_r_1.out.lt
  have cb_r_0 : w1.cell? ⟨w.heap.size + 1 + 1, 0, none⟩ = some (.int .i64 0) := HK_r_1.out.cell 0
  have cb_r_1 : w1.cell? ⟨w.heap.size + 1 + 1, 1, none⟩ = some (.int .i64 0) := HK_r_1.out.cell 1
  have cb_r_2 : w1.cell? ⟨w.heap.size + 1 + 1, 2, none⟩ = some (.slice none 0 0) := HK_r_1.out.cell 2
  have cb_r_3 : w1.cell? ⟨w.heap.size + 1 + 1, 3, none⟩ = some (.slice none 0 0) := HK_r_1.out.cell 3
  have cb_r_4 : w1.cell? ⟨w.heap.size + 1 + 1, 4, none⟩ = some (.int .i64 0) := HK_r_1.out.cell 4
  have cb_r_5 : w1.cell? ⟨w.heap.size + 1 + 1, 5, none⟩ = some (.bool false) := HK_r_1.out.cell 5
  have HB_1 := Lib.hid (bt (ba (ba (ba (b0 w) _) _) _) hb1)
  clear hb1
  go_wp2_with fail
  refine (pkGood_b h2 _).mono ?_
  rintro e w2 ⟨rfl, hb2⟩
  have z2 := hb2.size
  (try simp at z2)
  have HK_q_2 : Hid (Bk w2 (w.heap.size) 56 #[.int .i64 qu, .int .i64 li, .slice A n cap, .slice B n capd, .int .i64 nx, .bool op]) := Lib.hid (HK_q_1.out.old hb2)
  clear HK_q_1
  clear cb_q_0 cb_q_1 cb_q_2 cb_q_3 cb_q_4 cb_q_5 zb_q
  have zb_q : w.heap.size < w2.heap.size := HK_q_2.out.lt
  have cb_q_0 : w2.cell? ⟨w.heap.size, 0, none⟩ = some (.int .i64 qu) := HK_q_2.out.cell 0
  have cb_q_1 : w2.cell? ⟨w.heap.size, 1, none⟩ = some (.int .i64 li) := HK_q_2.out.cell 1
  have cb_q_2 : w2.cell? ⟨w.heap.size, 2, none⟩ = some (.slice A n cap) := HK_q_2.out.cell 2
  have cb_q_3 : w2.cell? ⟨w.heap.size, 3, none⟩ = some (.slice B n capd) := HK_q_2.out.cell 3
  have cb_q_4 : w2.cell? ⟨w.heap.size, 4, none⟩ = some (.int .i64 nx) := HK_q_2.out.cell 4
  have cb_q_5 : w2.cell? ⟨w.heap.size, 5, none⟩ = some (.bool op) := HK_q_2.out.cell 5
  have HK_p_2 : Hid (Bk w2 (w.heap.size + 1) 35 #[.int .i64 p.id, .int .i64 p.so, .int .i64 p.de, .int .i64 p.po, .int .i64 p.ma, .int .i64 p.si]) := Lib.hid (HK_p_1.out.old hb2)
  clear HK_p_1
  clear cb_p_0 cb_p_1 cb_p_2 cb_p_3 cb_p_4 cb_p_5 zb_p
  have zb_p : w.heap.size + 1 < w2.heap.size := HK_p_2.out.lt
  have cb_p_0 : w2.cell? ⟨w.heap.size + 1, 0, none⟩ = some (.int .i64 p.id) := HK_p_2.out.cell 0
  have cb_p_1 : w2.cell? ⟨w.heap.size + 1, 1, none⟩ = some (.int .i64 p.so) := HK_p_2.out.cell 1
  have cb_p_2 : w2.cell? ⟨w.heap.size + 1, 2, none⟩ = some (.int .i64 p.de) := HK_p_2.out.cell 2
  have cb_p_3 : w2.cell? ⟨w.heap.size + 1, 3, none⟩ = some (.int .i64 p.po) := HK_p_2.out.cell 3
  have cb_p_4 : w2.cell? ⟨w.heap.size + 1, 4, none⟩ = some (.int .i64 p.ma) := HK_p_2.out.cell 4
  have cb_p_5 : w2.cell? ⟨w.heap.size + 1, 5, none⟩ = some (.int .i64 p.si) := HK_p_2.out.cell 5
  have HK_r_2 : Hid (Bk w2 (w.heap.size + 1 + 1) 56 #[.int .i64 0, .int .i64 0, .slice none 0 0, .slice none 0 0, .int .i64 0, .bool false]) := Lib.hid (HK_r_1.out.old hb2)
  clear HK_r_1
  clear cb_r_0 cb_r_1 cb_r_2 cb_r_3 cb_r_4 cb_r_5 zb_r
  have zb_r : w.heap.size + 1 + 1 < w2.heap.size := HK_r_2.out.lt
  have cb_r_0 : w2.cell? ⟨w.heap.size + 1 + 1, 0, none⟩ = some (.int .i64 0) := HK_r_2.out.cell 0
  have cb_r_1 : w2.cell? ⟨w.heap.size + 1 + 1, 1, none⟩ = some (.int .i64 0) := HK_r_2.out.cell 1
  have cb_r_2 : w2.cell? ⟨w.heap.size + 1 + 1, 2, none⟩ = some (.slice none 0 0) := HK_r_2.out.cell 2
  have cb_r_3 : w2.cell? ⟨w.heap.size + 1 + 1, 3, none⟩ = some (.slice none 0 0) := HK_r_2.out.cell 3
  have cb_r_4 : w2.cell? ⟨w.heap.size + 1 + 1, 4, none⟩ = some (.int .i64 0) := HK_r_2.out.cell 4
  have cb_r_5 : w2.cell? ⟨w.heap.size + 1 + 1, 5, none⟩ = some (.bool false) := HK_r_2.out.cell 5
  have HB_2 := Lib.hid (bt HB_1.out hb2)
  clear hb2
  go_wp2_with fail
  refine (faHas_b _ _ _ _ _ _ _ _ _ _ _ F D _ (HR.out _ HB_2.out) hn hm HF.out h3).mono ?_
  rintro e w3 ⟨rfl, hb3⟩
  have z3 := hb3.size
  (try simp at z3)
  have HK_q_3 : Hid (Bk w3 (w.heap.size) 56 #[.int .i64 qu, .int .i64 li, .slice A n cap, .slice B n capd, .int .i64 nx, .bool op]) := Lib.hid (HK_q_2.out.old hb3)
  clear HK_q_2
  clear cb_q_0 cb_q_1 cb_q_2 cb_q_3 cb_q_4 cb_q_5 zb_q
  have zb_q : w.heap.size < w3.heap.size := HK_q_3.out.lt
  have cb_q_0 : w3.cell? ⟨w.heap.size, 0, none⟩ = some (.int .i64 qu) := HK_q_3.out.cell 0
  have cb_q_1 : w3.cell? ⟨w.heap.size, 1, none⟩ = some (.int .i64 li) := HK_q_3.out.cell 1
  have cb_q_2 : w3.cell? ⟨w.heap.size, 2, none⟩ = some (.slice A n cap) := HK_q_3.out.cell 2
  have cb_q_3 : w3.cell? ⟨w.heap.size, 3, none⟩ = some (.slice B n capd) := HK_q_3.out.cell 3
  have cb_q_4 : w3.cell? ⟨w.heap.size, 4, none⟩ = some (.int .i64 nx) := HK_q_3.out.cell 4
  have cb_q_5 : w3.cell? ⟨w.heap.size, 5, none⟩ = some (.bool op) := HK_q_3.out.cell 5
  have HK_p_3 : Hid (Bk w3 (w.heap.size + 1) 35 #[.int .i64 p.id, .int .i64 p.so, .int .i64 p.de, .int .i64 p.po, .int .i64 p.ma, .int .i64 p.si]) := Lib.hid (HK_p_2.out.old hb3)
  clear HK_p_2
  clear cb_p_0 cb_p_1 cb_p_2 cb_p_3 cb_p_4 cb_p_5 zb_p
  have zb_p : w.heap.size + 1 < w3.heap.size := HK_p_3.out.lt
  have cb_p_0 : w3.cell? ⟨w.heap.size + 1, 0, none⟩ = some (.int .i64 p.id) := HK_p_3.out.cell 0
  have cb_p_1 : w3.cell? ⟨w.heap.size + 1, 1, none⟩ = some (.int .i64 p.so) := HK_p_3.out.cell 1
  have cb_p_2 : w3.cell? ⟨w.heap.size + 1, 2, none⟩ = some (.int .i64 p.de) := HK_p_3.out.cell 2
  have cb_p_3 : w3.cell? ⟨w.heap.size + 1, 3, none⟩ = some (.int .i64 p.po) := HK_p_3.out.cell 3
  have cb_p_4 : w3.cell? ⟨w.heap.size + 1, 4, none⟩ = some (.int .i64 p.ma) := HK_p_3.out.cell 4
  have cb_p_5 : w3.cell? ⟨w.heap.size + 1, 5, none⟩ = some (.int .i64 p.si) := HK_p_3.out.cell 5
  have HK_r_3 : Hid (Bk w3 (w.heap.size + 1 + 1) 56 #[.int .i64 0, .int .i64 0, .slice none 0 0, .slice none 0 0, .int .i64 0, .bool false]) := Lib.hid (HK_r_2.out.old hb3)
  clear HK_r_2
  clear cb_r_0 cb_r_1 cb_r_2 cb_r_3 cb_r_4 cb_r_5 zb_r
  have zb_r : w.heap.size + 1 + 1 < w3.heap.size := HK_r_3.out.lt
  have cb_r_0 : w3.cell? ⟨w.heap.size + 1 + 1, 0, none⟩ = some (.int .i64 0) := HK_r_3.out.cell 0
  have cb_r_1 : w3.cell? ⟨w.heap.size + 1 + 1, 1, none⟩ = some (.int .i64 0) := HK_r_3.out.cell 1
  have cb_r_2 : w3.cell? ⟨w.heap.size + 1 + 1, 2, none⟩ = some (.slice none 0 0) := HK_r_3.out.cell 2
  have cb_r_3 : w3.cell? ⟨w.heap.size + 1 + 1, 3, none⟩ = some (.slice none 0 0) := HK_r_3.out.cell 3
  have cb_r_4 : w3.cell? ⟨w.heap.size + 1 + 1, 4, none⟩ = some (.int .i64 0) := HK_r_3.out.cell 4
  have cb_r_5 : w3.cell? ⟨w.heap.size + 1 + 1, 5, none⟩ = some (.bool false) := HK_r_3.out.cell 5
  have HB_3 := Lib.hid (bt HB_2.out hb3)
  clear hb3
  go_wp2_with fail
  refine (faOwn_any _ _ ⟨A, n, cap, B, n, capd⟩ _ _ (F.map fl) D _ (HR.out _ HB_3.out) HG.out hn hm).mono ?_
  rintro e w4 ⟨⟨A_o, n_o, cap_o, B_o, m_o, capd_o⟩, rfl, ho_o, hb4⟩
  have HN_o := Lib.hid ho_o.len
  have HO_o_4 := Lib.hid ho_o
  clear ho_o
  have z4 := hb4.size
  (try simp at z4)
  have HK_q_4 : Hid (Bk w4 (w.heap.size) 56 #[.int .i64 qu, .int .i64 li, .slice A n cap, .slice B n capd, .int .i64 nx, .bool op]) := Lib.hid (HK_q_3.out.old hb4)
  clear HK_q_3
  clear cb_q_0 cb_q_1 cb_q_2 cb_q_3 cb_q_4 cb_q_5 zb_q
  have zb_q : w.heap.size < w4.heap.size := HK_q_4.out.lt
  have cb_q_0 : w4.cell? ⟨w.heap.size, 0, none⟩ = some (.int .i64 qu) := HK_q_4.out.cell 0
  have cb_q_1 : w4.cell? ⟨w.heap.size, 1, none⟩ = some (.int .i64 li) := HK_q_4.out.cell 1
  have cb_q_2 : w4.cell? ⟨w.heap.size, 2, none⟩ = some (.slice A n cap) := HK_q_4.out.cell 2
  have cb_q_3 : w4.cell? ⟨w.heap.size, 3, none⟩ = some (.slice B n capd) := HK_q_4.out.cell 3
  have cb_q_4 : w4.cell? ⟨w.heap.size, 4, none⟩ = some (.int .i64 nx) := HK_q_4.out.cell 4
  have cb_q_5 : w4.cell? ⟨w.heap.size, 5, none⟩ = some (.bool op) := HK_q_4.out.cell 5
  have HK_p_4 : Hid (Bk w4 (w.heap.size + 1) 35 #[.int .i64 p.id, .int .i64 p.so, .int .i64 p.de, .int .i64 p.po, .int .i64 p.ma, .int .i64 p.si]) := Lib.hid (HK_p_3.out.old hb4)
  clear HK_p_3
  clear cb_p_0 cb_p_1 cb_p_2 cb_p_3 cb_p_4 cb_p_5 zb_p
  have zb_p : w.heap.size + 1 < w4.heap.size := HK_p_4.out.lt
  have cb_p_0 : w4.cell? ⟨w.heap.size + 1, 0, none⟩ = some (.int .i64 p.id) := HK_p_4.out.cell 0
  have cb_p_1 : w4.cell? ⟨w.heap.size + 1, 1, none⟩ = some (.int .i64 p.so) := HK_p_4.out.cell 1
  have cb_p_2 : w4.cell? ⟨w.heap.size + 1, 2, none⟩ = some (.int .i64 p.de) := HK_p_4.out.cell 2
  have cb_p_3 : w4.cell? ⟨w.heap.size + 1, 3, none⟩ = some (.int .i64 p.po) := HK_p_4.out.cell 3
  have cb_p_4 : w4.cell? ⟨w.heap.size + 1, 4, none⟩ = some (.int .i64 p.ma) := HK_p_4.out.cell 4
  have cb_p_5 : w4.cell? ⟨w.heap.size + 1, 5, none⟩ = some (.int .i64 p.si) := HK_p_4.out.cell 5
  have HK_r_4 : Hid (Bk w4 (w.heap.size + 1 + 1) 56 #[.int .i64 0, .int .i64 0, .slice none 0 0, .slice none 0 0, .int .i64 0, .bool false]) := Lib.hid (HK_r_3.out.old hb4)
  clear HK_r_3
  clear cb_r_0 cb_r_1 cb_r_2 cb_r_3 cb_r_4 cb_r_5 zb_r
  have zb_r : w.heap.size + 1 + 1 < w4.heap.size := HK_r_4.out.lt
  have cb_r_0 : w4.cell? ⟨w.heap.size + 1 + 1, 0, none⟩ = some (.int .i64 0) := HK_r_4.out.cell 0
  have cb_r_1 : w4.cell? ⟨w.heap.size + 1 + 1, 1, none⟩ = some (.int .i64 0) := HK_r_4.out.cell 1
  have cb_r_2 : w4.cell? ⟨w.heap.size + 1 + 1, 2, none⟩ = some (.slice none 0 0) := HK_r_4.out.cell 2
  have cb_r_3 : w4.cell? ⟨w.heap.size + 1 + 1, 3, none⟩ = some (.slice none 0 0) := HK_r_4.out.cell 3
  have cb_r_4 : w4.cell? ⟨w.heap.size + 1 + 1, 4, none⟩ = some (.int .i64 0) := HK_r_4.out.cell 4
  have cb_r_5 : w4.cell? ⟨w.heap.size + 1 + 1, 5, none⟩ = some (.bool false) := HK_r_4.out.cell 5
  have HB_4 := Lib.hid (bt HB_3.out hb4)
  clear hb4
  obtain rfl : n = n_o := by have h1 := HN_o.out; have h2 := HFN.out; simp at h1; omega
  obtain rfl : n = m_o := by have h1 := HN_o.out; have h2 := HDN.out; simp at h1; omega
  have hs34 : w3.heap.size ≤ w4.heap.size := by omega
  go_wp2_with fail
  refine (specPut_no w4.heap.size p i L w3.heap.size w4.heap.size qu li A_o n cap_o B_o n capd_o nx op F D _ (HO_o_4.out.alloc _) (Bk.new_ rfl) (by simp; omega) h2 hn1 hn8 HFL.out HK.out hL HLL.out).mono ?_
  rintro e w5 ⟨rfl, hb5⟩
  have z5 := hb5.size
  (try simp at z5)
  have HK_q_5 : Hid (Bk w5 (w.heap.size) 56 #[.int .i64 qu, .int .i64 li, .slice A n cap, .slice B n capd, .int .i64 nx, .bool op]) := Lib.hid ((HK_q_4.out.alloc _).old hb5)
  clear HK_q_4
  clear cb_q_0 cb_q_1 cb_q_2 cb_q_3 cb_q_4 cb_q_5 zb_q
  have zb_q : w.heap.size < w5.heap.size := HK_q_5.out.lt
  have cb_q_0 : w5.cell? ⟨w.heap.size, 0, none⟩ = some (.int .i64 qu) := HK_q_5.out.cell 0
  have cb_q_1 : w5.cell? ⟨w.heap.size, 1, none⟩ = some (.int .i64 li) := HK_q_5.out.cell 1
  have cb_q_2 : w5.cell? ⟨w.heap.size, 2, none⟩ = some (.slice A n cap) := HK_q_5.out.cell 2
  have cb_q_3 : w5.cell? ⟨w.heap.size, 3, none⟩ = some (.slice B n capd) := HK_q_5.out.cell 3
  have cb_q_4 : w5.cell? ⟨w.heap.size, 4, none⟩ = some (.int .i64 nx) := HK_q_5.out.cell 4
  have cb_q_5 : w5.cell? ⟨w.heap.size, 5, none⟩ = some (.bool op) := HK_q_5.out.cell 5
  have HK_p_5 : Hid (Bk w5 (w.heap.size + 1) 35 #[.int .i64 p.id, .int .i64 p.so, .int .i64 p.de, .int .i64 p.po, .int .i64 p.ma, .int .i64 p.si]) := Lib.hid ((HK_p_4.out.alloc _).old hb5)
  clear HK_p_4
  clear cb_p_0 cb_p_1 cb_p_2 cb_p_3 cb_p_4 cb_p_5 zb_p
  have zb_p : w.heap.size + 1 < w5.heap.size := HK_p_5.out.lt
  have cb_p_0 : w5.cell? ⟨w.heap.size + 1, 0, none⟩ = some (.int .i64 p.id) := HK_p_5.out.cell 0
  have cb_p_1 : w5.cell? ⟨w.heap.size + 1, 1, none⟩ = some (.int .i64 p.so) := HK_p_5.out.cell 1
  have cb_p_2 : w5.cell? ⟨w.heap.size + 1, 2, none⟩ = some (.int .i64 p.de) := HK_p_5.out.cell 2
  have cb_p_3 : w5.cell? ⟨w.heap.size + 1, 3, none⟩ = some (.int .i64 p.po) := HK_p_5.out.cell 3
  have cb_p_4 : w5.cell? ⟨w.heap.size + 1, 4, none⟩ = some (.int .i64 p.ma) := HK_p_5.out.cell 4
  have cb_p_5 : w5.cell? ⟨w.heap.size + 1, 5, none⟩ = some (.int .i64 p.si) := HK_p_5.out.cell 5
  have HK_r_5 : Hid (Bk w5 (w.heap.size + 1 + 1) 56 #[.int .i64 0, .int .i64 0, .slice none 0 0, .slice none 0 0, .int .i64 0, .bool false]) := Lib.hid ((HK_r_4.out.alloc _).old hb5)
  clear HK_r_4
  clear cb_r_0 cb_r_1 cb_r_2 cb_r_3 cb_r_4 cb_r_5 zb_r
  have zb_r : w.heap.size + 1 + 1 < w5.heap.size := HK_r_5.out.lt
  have cb_r_0 : w5.cell? ⟨w.heap.size + 1 + 1, 0, none⟩ = some (.int .i64 0) := HK_r_5.out.cell 0
  have cb_r_1 : w5.cell? ⟨w.heap.size + 1 + 1, 1, none⟩ = some (.int .i64 0) := HK_r_5.out.cell 1
  have cb_r_2 : w5.cell? ⟨w.heap.size + 1 + 1, 2, none⟩ = some (.slice none 0 0) := HK_r_5.out.cell 2
  have cb_r_3 : w5.cell? ⟨w.heap.size + 1 + 1, 3, none⟩ = some (.slice none 0 0) := HK_r_5.out.cell 3
  have cb_r_4 : w5.cell? ⟨w.heap.size + 1 + 1, 4, none⟩ = some (.int .i64 0) := HK_r_5.out.cell 4
  have cb_r_5 : w5.cell? ⟨w.heap.size + 1 + 1, 5, none⟩ = some (.bool false) := HK_r_5.out.cell 5
  have HK_Q_5 : Hid (Bk w5 (w4.heap.size) 56 #[.int .i64 qu, .int .i64 li, .slice A_o n cap_o, .slice B_o n capd_o, .int .i64 nx, .bool op]) := Lib.hid ((Bk.new_ (by simp) : Bk _ (w4.heap.size) 56 #[.int .i64 qu, .int .i64 li, .slice A_o n cap_o, .slice B_o n capd_o, .int .i64 nx, .bool op]).old hb5)
  have zb_Q : w4.heap.size < w5.heap.size := HK_Q_5.out.lt
  have cb_Q_0 : w5.cell? ⟨w4.heap.size, 0, none⟩ = some (.int .i64 qu) := HK_Q_5.out.cell 0
  have cb_Q_1 : w5.cell? ⟨w4.heap.size, 1, none⟩ = some (.int .i64 li) := HK_Q_5.out.cell 1
  have cb_Q_2 : w5.cell? ⟨w4.heap.size, 2, none⟩ = some (.slice A_o n cap_o) := HK_Q_5.out.cell 2
  have cb_Q_3 : w5.cell? ⟨w4.heap.size, 3, none⟩ = some (.slice B_o n capd_o) := HK_Q_5.out.cell 3
  have cb_Q_4 : w5.cell? ⟨w4.heap.size, 4, none⟩ = some (.int .i64 nx) := HK_Q_5.out.cell 4
  have cb_Q_5 : w5.cell? ⟨w4.heap.size, 5, none⟩ = some (.bool op) := HK_Q_5.out.cell 5
  have HO_o_5 := Lib.hid ((HO_o_4.out.alloc _).old hb5)
  clear HO_o_4
  have HB_5 := Lib.hid (bt (ba HB_4.out _) hb5)
  clear hb5
  have rf := HK_r_5.out.free
  go_wp2_with fail
  refine bodyPost_ret (v := .tuple #[.agg #[.int .i64 qu, .int .i64 li, .slice A_o n cap_o, .slice B_o n capd_o, .int .i64 nx, .bool op], .bool false, .bool true]) (by simp [results, Try.results46, go_sem, cb_r_0, cb_r_1, cb_r_2, cb_r_3, cb_r_4, cb_r_5]) rfl ?_
  refine ⟨⟨A_o, n, cap_o, B_o, n, capd_o⟩, rfl, ?_, ?_⟩
  · refine FOwn.lo_le (lo := w3.heap.size) (FOwn.here (hi := w4.heap.size) ?_) (by omega)
    repeat (refine FOwn.farC ?_ (.inl (by omega)))
    exact HO_o_5.out
  · repeat (refine bsB ?_ (by omega))
    exact HB_5.out
set_option maxRecDepth 100000 in
set_option maxHeartbeats 4000000 in
theorem implPf_no (p : Pk) (i : Nat) (L : List Pk) (qu li : Int) (A : Option Addr) (n cap : Nat) (B : Option Addr) (m capd : Nat) (nx : Int) (op : Bool) (F : List (List Pk)) (D : List Int) (w : World) (hr : FRow w ⟨A, n, cap, B, m, capd⟩ (F.map fl) D) (hn : n ≤ 1048576) (hm : m ≤ 1048576) (h1 : fok qu li F D nx op = true) (h2 : p.ok = true) (h3 : fhas F p.id = false) (hfl : flw p n = (i : Int)) (hk : F[i]? = some L) (hll : (L.length : Int) = li) :
    Calls Try.prog 47 #[.agg #[.int .i64 qu, .int .i64 li, .slice A n cap, .slice B m capd, .int .i64 nx, .bool op], .agg #[.int .i64 (p.id), .int .i64 (p.so), .int .i64 (p.de), .int .i64 (p.po), .int .i64 (p.ma), .int .i64 (p.si)]] w (NewFaBB w qu li nx op (F.map fl) D false true) := by
  have HFN := Lib.hid (show F.length = n by simpa using hr.qn)
  have HDN := Lib.hid (show D.length = m from hr.dn)
  have HR := Lib.hid (fun (W : World) (hb : Below w.heap.size w W) => hr.below hb)
  clear hr
  obtain rfl : n = m := by have := (fok_num8 h1).2.2.2.1; have := HFN.out; have := HDN.out; omega
  have hn1 : 1 ≤ n := by have := (fok_num8 h1).2.2.1; have := HFN.out; omega
  have hn8 : n ≤ 8 := by have := (fok_num8 h1).2.2.1; have := HFN.out; omega
  have HF := Lib.hid (show ∀ (k : Nat) (L : List Pk), F[k]? = some L → L.length ≤ 1048576 from fun k L hk => by have := (fok_row h1 hk).1; omega)
  have hL : L.length ≤ 1048576 := HF.out i L hk
  have HG := Lib.hid (show ∀ (k : Nat) (l : List Int), (F.map fl)[k]? = some l → l.length ≤ 6291456 from fun k l hk => by
    rw [List.getElem?_map] at hk
    rcases hL : F[k]? with _ | L
    · rw [hL] at hk; cases hk
    · rw [hL] at hk
      simp at hk
      have := (fok_row h1 hL).1
      rw [← hk, fl_len]
      omega)
  have HFL := Lib.hid hfl
  have HLL := Lib.hid hll
  have HK := Lib.hid hk
  clear hfl hll hk
  go_enter Try.func47, Try.ntmps47
  go_wp2_with fail
  refine (implIsFair_b _ _ _ _ _ _ _ _ _ _ F D _ (HR.out _ (ba (ba (ba (b0 w) _) _) _)) hn hm h1).mono ?_
  rintro e w1 ⟨rfl, hb1⟩
  have z1 := hb1.size
  (try simp at z1)
  have HK_q_1 : Hid (Bk w1 (w.heap.size) 56 #[.int .i64 qu, .int .i64 li, .slice A n cap, .slice B n capd, .int .i64 nx, .bool op]) := Lib.hid ((((Bk.new_ (by simp) : Bk _ (w.heap.size) 56 #[.int .i64 qu, .int .i64 li, .slice A n cap, .slice B n capd, .int .i64 nx, .bool op]).alloc _).alloc _).old hb1)
  have zb_q : w.heap.size < w1.heap.size := HK_q_1.out.lt
  have cb_q_0 : w1.cell? ⟨w.heap.size, 0, none⟩ = some (.int .i64 qu) := HK_q_1.out.cell 0
  have cb_q_1 : w1.cell? ⟨w.heap.size, 1, none⟩ = some (.int .i64 li) := HK_q_1.out.cell 1
  have cb_q_2 : w1.cell? ⟨w.heap.size, 2, none⟩ = some (.slice A n cap) := HK_q_1.out.cell 2
  have cb_q_3 : w1.cell? ⟨w.heap.size, 3, none⟩ = some (.slice B n capd) := HK_q_1.out.cell 3
  have cb_q_4 : w1.cell? ⟨w.heap.size, 4, none⟩ = some (.int .i64 nx) := HK_q_1.out.cell 4
  have cb_q_5 : w1.cell? ⟨w.heap.size, 5, none⟩ = some (.bool op) := HK_q_1.out.cell 5
  have HK_p_1 : Hid (Bk w1 (w.heap.size + 1) 35 #[.int .i64 p.id, .int .i64 p.so, .int .i64 p.de, .int .i64 p.po, .int .i64 p.ma, .int .i64 p.si]) := Lib.hid (((Bk.new_ (by simp) : Bk _ (w.heap.size + 1) 35 #[.int .i64 p.id, .int .i64 p.so, .int .i64 p.de, .int .i64 p.po, .int .i64 p.ma, .int .i64 p.si]).alloc _).old hb1)
  have zb_p : w.heap.size + 1 < w1.heap.size := HK_p_1.out.lt
  have cb_p_0 : w1.cell? ⟨w.heap.size + 1, 0, none⟩ = some (.int .i64 p.id) := HK_p_1.out.cell 0
  have cb_p_1 : w1.cell? ⟨w.heap.size + 1, 1, none⟩ = some (.int .i64 p.so) := HK_p_1.out.cell 1
  have cb_p_2 : w1.cell? ⟨w.heap.size + 1, 2, none⟩ = some (.int .i64 p.de) := HK_p_1.out.cell 2
  have cb_p_3 : w1.cell? ⟨w.heap.size + 1, 3, none⟩ = some (.int .i64 p.po) := HK_p_1.out.cell 3
  have cb_p_4 : w1.cell? ⟨w.heap.size + 1, 4, none⟩ = some (.int .i64 p.ma) := HK_p_1.out.cell 4
  have cb_p_5 : w1.cell? ⟨w.heap.size + 1, 5, none⟩ = some (.int .i64 p.si) := HK_p_1.out.cell 5
  have HK_r_1 : Hid (Bk w1 (w.heap.size + 1 + 1) 56 #[.int .i64 0, .int .i64 0, .slice none 0 0, .slice none 0 0, .int .i64 0, .bool false]) := Lib.hid ((Bk.new_ (by simp) : Bk _ (w.heap.size + 1 + 1) 56 #[.int .i64 0, .int .i64 0, .slice none 0 0, .slice none 0 0, .int .i64 0, .bool false]).old hb1)
  have zb_r : w.heap.size + 1 + 1 < w1.heap.size := HK_r_1.out.lt
  have cb_r_0 : w1.cell? ⟨w.heap.size + 1 + 1, 0, none⟩ = some (.int .i64 0) := HK_r_1.out.cell 0
  have cb_r_1 : w1.cell? ⟨w.heap.size + 1 + 1, 1, none⟩ = some (.int .i64 0) := HK_r_1.out.cell 1
  have cb_r_2 : w1.cell? ⟨w.heap.size + 1 + 1, 2, none⟩ = some (.slice none 0 0) := HK_r_1.out.cell 2
  have cb_r_3 : w1.cell? ⟨w.heap.size + 1 + 1, 3, none⟩ = some (.slice none 0 0) := HK_r_1.out.cell 3
  have cb_r_4 : w1.cell? ⟨w.heap.size + 1 + 1, 4, none⟩ = some (.int .i64 0) := HK_r_1.out.cell 4
  have cb_r_5 : w1.cell? ⟨w.heap.size + 1 + 1, 5, none⟩ = some (.bool false) := HK_r_1.out.cell 5
  have HB_1 := Lib.hid (bt (ba (ba (ba (b0 w) _) _) _) hb1)
  clear hb1
  go_wp2_with fail
  refine (isPacket_b h2 _).mono ?_
  rintro e w2 ⟨rfl, hb2⟩
  have z2 := hb2.size
  (try simp at z2)
  have HK_q_2 : Hid (Bk w2 (w.heap.size) 56 #[.int .i64 qu, .int .i64 li, .slice A n cap, .slice B n capd, .int .i64 nx, .bool op]) := Lib.hid (HK_q_1.out.old hb2)
  clear HK_q_1
  clear cb_q_0 cb_q_1 cb_q_2 cb_q_3 cb_q_4 cb_q_5 zb_q
  have zb_q : w.heap.size < w2.heap.size := HK_q_2.out.lt
  have cb_q_0 : w2.cell? ⟨w.heap.size, 0, none⟩ = some (.int .i64 qu) := HK_q_2.out.cell 0
  have cb_q_1 : w2.cell? ⟨w.heap.size, 1, none⟩ = some (.int .i64 li) := HK_q_2.out.cell 1
  have cb_q_2 : w2.cell? ⟨w.heap.size, 2, none⟩ = some (.slice A n cap) := HK_q_2.out.cell 2
  have cb_q_3 : w2.cell? ⟨w.heap.size, 3, none⟩ = some (.slice B n capd) := HK_q_2.out.cell 3
  have cb_q_4 : w2.cell? ⟨w.heap.size, 4, none⟩ = some (.int .i64 nx) := HK_q_2.out.cell 4
  have cb_q_5 : w2.cell? ⟨w.heap.size, 5, none⟩ = some (.bool op) := HK_q_2.out.cell 5
  have HK_p_2 : Hid (Bk w2 (w.heap.size + 1) 35 #[.int .i64 p.id, .int .i64 p.so, .int .i64 p.de, .int .i64 p.po, .int .i64 p.ma, .int .i64 p.si]) := Lib.hid (HK_p_1.out.old hb2)
  clear HK_p_1
  clear cb_p_0 cb_p_1 cb_p_2 cb_p_3 cb_p_4 cb_p_5 zb_p
  have zb_p : w.heap.size + 1 < w2.heap.size := HK_p_2.out.lt
  have cb_p_0 : w2.cell? ⟨w.heap.size + 1, 0, none⟩ = some (.int .i64 p.id) := HK_p_2.out.cell 0
  have cb_p_1 : w2.cell? ⟨w.heap.size + 1, 1, none⟩ = some (.int .i64 p.so) := HK_p_2.out.cell 1
  have cb_p_2 : w2.cell? ⟨w.heap.size + 1, 2, none⟩ = some (.int .i64 p.de) := HK_p_2.out.cell 2
  have cb_p_3 : w2.cell? ⟨w.heap.size + 1, 3, none⟩ = some (.int .i64 p.po) := HK_p_2.out.cell 3
  have cb_p_4 : w2.cell? ⟨w.heap.size + 1, 4, none⟩ = some (.int .i64 p.ma) := HK_p_2.out.cell 4
  have cb_p_5 : w2.cell? ⟨w.heap.size + 1, 5, none⟩ = some (.int .i64 p.si) := HK_p_2.out.cell 5
  have HK_r_2 : Hid (Bk w2 (w.heap.size + 1 + 1) 56 #[.int .i64 0, .int .i64 0, .slice none 0 0, .slice none 0 0, .int .i64 0, .bool false]) := Lib.hid (HK_r_1.out.old hb2)
  clear HK_r_1
  clear cb_r_0 cb_r_1 cb_r_2 cb_r_3 cb_r_4 cb_r_5 zb_r
  have zb_r : w.heap.size + 1 + 1 < w2.heap.size := HK_r_2.out.lt
  have cb_r_0 : w2.cell? ⟨w.heap.size + 1 + 1, 0, none⟩ = some (.int .i64 0) := HK_r_2.out.cell 0
  have cb_r_1 : w2.cell? ⟨w.heap.size + 1 + 1, 1, none⟩ = some (.int .i64 0) := HK_r_2.out.cell 1
  have cb_r_2 : w2.cell? ⟨w.heap.size + 1 + 1, 2, none⟩ = some (.slice none 0 0) := HK_r_2.out.cell 2
  have cb_r_3 : w2.cell? ⟨w.heap.size + 1 + 1, 3, none⟩ = some (.slice none 0 0) := HK_r_2.out.cell 3
  have cb_r_4 : w2.cell? ⟨w.heap.size + 1 + 1, 4, none⟩ = some (.int .i64 0) := HK_r_2.out.cell 4
  have cb_r_5 : w2.cell? ⟨w.heap.size + 1 + 1, 5, none⟩ = some (.bool false) := HK_r_2.out.cell 5
  have HB_2 := Lib.hid (bt HB_1.out hb2)
  clear hb2
  go_wp2_with fail
  refine (fairHas_b _ _ qu li _ _ _ _ _ _ nx op F D _ cb_q_2 (HR.out _ HB_2.out) hn hm HF.out h3).mono ?_
  rintro e w3 ⟨rfl, hb3⟩
  have z3 := hb3.size
  (try simp at z3)
  have HK_q_3 : Hid (Bk w3 (w.heap.size) 56 #[.int .i64 qu, .int .i64 li, .slice A n cap, .slice B n capd, .int .i64 nx, .bool op]) := Lib.hid (HK_q_2.out.old hb3)
  clear HK_q_2
  clear cb_q_0 cb_q_1 cb_q_2 cb_q_3 cb_q_4 cb_q_5 zb_q
  have zb_q : w.heap.size < w3.heap.size := HK_q_3.out.lt
  have cb_q_0 : w3.cell? ⟨w.heap.size, 0, none⟩ = some (.int .i64 qu) := HK_q_3.out.cell 0
  have cb_q_1 : w3.cell? ⟨w.heap.size, 1, none⟩ = some (.int .i64 li) := HK_q_3.out.cell 1
  have cb_q_2 : w3.cell? ⟨w.heap.size, 2, none⟩ = some (.slice A n cap) := HK_q_3.out.cell 2
  have cb_q_3 : w3.cell? ⟨w.heap.size, 3, none⟩ = some (.slice B n capd) := HK_q_3.out.cell 3
  have cb_q_4 : w3.cell? ⟨w.heap.size, 4, none⟩ = some (.int .i64 nx) := HK_q_3.out.cell 4
  have cb_q_5 : w3.cell? ⟨w.heap.size, 5, none⟩ = some (.bool op) := HK_q_3.out.cell 5
  have HK_p_3 : Hid (Bk w3 (w.heap.size + 1) 35 #[.int .i64 p.id, .int .i64 p.so, .int .i64 p.de, .int .i64 p.po, .int .i64 p.ma, .int .i64 p.si]) := Lib.hid (HK_p_2.out.old hb3)
  clear HK_p_2
  clear cb_p_0 cb_p_1 cb_p_2 cb_p_3 cb_p_4 cb_p_5 zb_p
  have zb_p : w.heap.size + 1 < w3.heap.size := HK_p_3.out.lt
  have cb_p_0 : w3.cell? ⟨w.heap.size + 1, 0, none⟩ = some (.int .i64 p.id) := HK_p_3.out.cell 0
  have cb_p_1 : w3.cell? ⟨w.heap.size + 1, 1, none⟩ = some (.int .i64 p.so) := HK_p_3.out.cell 1
  have cb_p_2 : w3.cell? ⟨w.heap.size + 1, 2, none⟩ = some (.int .i64 p.de) := HK_p_3.out.cell 2
  have cb_p_3 : w3.cell? ⟨w.heap.size + 1, 3, none⟩ = some (.int .i64 p.po) := HK_p_3.out.cell 3
  have cb_p_4 : w3.cell? ⟨w.heap.size + 1, 4, none⟩ = some (.int .i64 p.ma) := HK_p_3.out.cell 4
  have cb_p_5 : w3.cell? ⟨w.heap.size + 1, 5, none⟩ = some (.int .i64 p.si) := HK_p_3.out.cell 5
  have HK_r_3 : Hid (Bk w3 (w.heap.size + 1 + 1) 56 #[.int .i64 0, .int .i64 0, .slice none 0 0, .slice none 0 0, .int .i64 0, .bool false]) := Lib.hid (HK_r_2.out.old hb3)
  clear HK_r_2
  clear cb_r_0 cb_r_1 cb_r_2 cb_r_3 cb_r_4 cb_r_5 zb_r
  have zb_r : w.heap.size + 1 + 1 < w3.heap.size := HK_r_3.out.lt
  have cb_r_0 : w3.cell? ⟨w.heap.size + 1 + 1, 0, none⟩ = some (.int .i64 0) := HK_r_3.out.cell 0
  have cb_r_1 : w3.cell? ⟨w.heap.size + 1 + 1, 1, none⟩ = some (.int .i64 0) := HK_r_3.out.cell 1
  have cb_r_2 : w3.cell? ⟨w.heap.size + 1 + 1, 2, none⟩ = some (.slice none 0 0) := HK_r_3.out.cell 2
  have cb_r_3 : w3.cell? ⟨w.heap.size + 1 + 1, 3, none⟩ = some (.slice none 0 0) := HK_r_3.out.cell 3
  have cb_r_4 : w3.cell? ⟨w.heap.size + 1 + 1, 4, none⟩ = some (.int .i64 0) := HK_r_3.out.cell 4
  have cb_r_5 : w3.cell? ⟨w.heap.size + 1 + 1, 5, none⟩ = some (.bool false) := HK_r_3.out.cell 5
  have HB_3 := Lib.hid (bt HB_2.out hb3)
  clear hb3
  go_wp2_with fail
  refine (copyFair_any _ _ ⟨A, n, cap, B, n, capd⟩ _ _ (F.map fl) D _ (HR.out _ HB_3.out) HG.out hn hm).mono ?_
  rintro e w4 ⟨⟨A_o, n_o, cap_o, B_o, m_o, capd_o⟩, rfl, ho_o, hb4⟩
  have HN_o := Lib.hid ho_o.len
  have HO_o_4 := Lib.hid ho_o
  clear ho_o
  have z4 := hb4.size
  (try simp at z4)
  have HK_q_4 : Hid (Bk w4 (w.heap.size) 56 #[.int .i64 qu, .int .i64 li, .slice A n cap, .slice B n capd, .int .i64 nx, .bool op]) := Lib.hid (HK_q_3.out.old hb4)
  clear HK_q_3
  clear cb_q_0 cb_q_1 cb_q_2 cb_q_3 cb_q_4 cb_q_5 zb_q
  have zb_q : w.heap.size < w4.heap.size := HK_q_4.out.lt
  have cb_q_0 : w4.cell? ⟨w.heap.size, 0, none⟩ = some (.int .i64 qu) := HK_q_4.out.cell 0
  have cb_q_1 : w4.cell? ⟨w.heap.size, 1, none⟩ = some (.int .i64 li) := HK_q_4.out.cell 1
  have cb_q_2 : w4.cell? ⟨w.heap.size, 2, none⟩ = some (.slice A n cap) := HK_q_4.out.cell 2
  have cb_q_3 : w4.cell? ⟨w.heap.size, 3, none⟩ = some (.slice B n capd) := HK_q_4.out.cell 3
  have cb_q_4 : w4.cell? ⟨w.heap.size, 4, none⟩ = some (.int .i64 nx) := HK_q_4.out.cell 4
  have cb_q_5 : w4.cell? ⟨w.heap.size, 5, none⟩ = some (.bool op) := HK_q_4.out.cell 5
  have HK_p_4 : Hid (Bk w4 (w.heap.size + 1) 35 #[.int .i64 p.id, .int .i64 p.so, .int .i64 p.de, .int .i64 p.po, .int .i64 p.ma, .int .i64 p.si]) := Lib.hid (HK_p_3.out.old hb4)
  clear HK_p_3
  clear cb_p_0 cb_p_1 cb_p_2 cb_p_3 cb_p_4 cb_p_5 zb_p
  have zb_p : w.heap.size + 1 < w4.heap.size := HK_p_4.out.lt
  have cb_p_0 : w4.cell? ⟨w.heap.size + 1, 0, none⟩ = some (.int .i64 p.id) := HK_p_4.out.cell 0
  have cb_p_1 : w4.cell? ⟨w.heap.size + 1, 1, none⟩ = some (.int .i64 p.so) := HK_p_4.out.cell 1
  have cb_p_2 : w4.cell? ⟨w.heap.size + 1, 2, none⟩ = some (.int .i64 p.de) := HK_p_4.out.cell 2
  have cb_p_3 : w4.cell? ⟨w.heap.size + 1, 3, none⟩ = some (.int .i64 p.po) := HK_p_4.out.cell 3
  have cb_p_4 : w4.cell? ⟨w.heap.size + 1, 4, none⟩ = some (.int .i64 p.ma) := HK_p_4.out.cell 4
  have cb_p_5 : w4.cell? ⟨w.heap.size + 1, 5, none⟩ = some (.int .i64 p.si) := HK_p_4.out.cell 5
  have HK_r_4 : Hid (Bk w4 (w.heap.size + 1 + 1) 56 #[.int .i64 0, .int .i64 0, .slice none 0 0, .slice none 0 0, .int .i64 0, .bool false]) := Lib.hid (HK_r_3.out.old hb4)
  clear HK_r_3
  clear cb_r_0 cb_r_1 cb_r_2 cb_r_3 cb_r_4 cb_r_5 zb_r
  have zb_r : w.heap.size + 1 + 1 < w4.heap.size := HK_r_4.out.lt
  have cb_r_0 : w4.cell? ⟨w.heap.size + 1 + 1, 0, none⟩ = some (.int .i64 0) := HK_r_4.out.cell 0
  have cb_r_1 : w4.cell? ⟨w.heap.size + 1 + 1, 1, none⟩ = some (.int .i64 0) := HK_r_4.out.cell 1
  have cb_r_2 : w4.cell? ⟨w.heap.size + 1 + 1, 2, none⟩ = some (.slice none 0 0) := HK_r_4.out.cell 2
  have cb_r_3 : w4.cell? ⟨w.heap.size + 1 + 1, 3, none⟩ = some (.slice none 0 0) := HK_r_4.out.cell 3
  have cb_r_4 : w4.cell? ⟨w.heap.size + 1 + 1, 4, none⟩ = some (.int .i64 0) := HK_r_4.out.cell 4
  have cb_r_5 : w4.cell? ⟨w.heap.size + 1 + 1, 5, none⟩ = some (.bool false) := HK_r_4.out.cell 5
  have HB_4 := Lib.hid (bt HB_3.out hb4)
  clear hb4
  obtain rfl : n = n_o := by have h1 := HN_o.out; have h2 := HFN.out; simp at h1; omega
  obtain rfl : n = m_o := by have h1 := HN_o.out; have h2 := HDN.out; simp at h1; omega
  have hs34 : w3.heap.size ≤ w4.heap.size := by omega
  go_wp2_with fail
  refine (implPut_no w4.heap.size p i L w3.heap.size w4.heap.size qu li A_o n cap_o B_o n capd_o nx op F D _ (HO_o_4.out.alloc _) (Bk.new_ rfl) (by simp; omega) h2 hn1 hn8 HFL.out HK.out hL HLL.out).mono ?_
  rintro e w5 ⟨rfl, hb5⟩
  have z5 := hb5.size
  (try simp at z5)
  have HK_q_5 : Hid (Bk w5 (w.heap.size) 56 #[.int .i64 qu, .int .i64 li, .slice A n cap, .slice B n capd, .int .i64 nx, .bool op]) := Lib.hid ((HK_q_4.out.alloc _).old hb5)
  clear HK_q_4
  clear cb_q_0 cb_q_1 cb_q_2 cb_q_3 cb_q_4 cb_q_5 zb_q
  have zb_q : w.heap.size < w5.heap.size := HK_q_5.out.lt
  have cb_q_0 : w5.cell? ⟨w.heap.size, 0, none⟩ = some (.int .i64 qu) := HK_q_5.out.cell 0
  have cb_q_1 : w5.cell? ⟨w.heap.size, 1, none⟩ = some (.int .i64 li) := HK_q_5.out.cell 1
  have cb_q_2 : w5.cell? ⟨w.heap.size, 2, none⟩ = some (.slice A n cap) := HK_q_5.out.cell 2
  have cb_q_3 : w5.cell? ⟨w.heap.size, 3, none⟩ = some (.slice B n capd) := HK_q_5.out.cell 3
  have cb_q_4 : w5.cell? ⟨w.heap.size, 4, none⟩ = some (.int .i64 nx) := HK_q_5.out.cell 4
  have cb_q_5 : w5.cell? ⟨w.heap.size, 5, none⟩ = some (.bool op) := HK_q_5.out.cell 5
  have HK_p_5 : Hid (Bk w5 (w.heap.size + 1) 35 #[.int .i64 p.id, .int .i64 p.so, .int .i64 p.de, .int .i64 p.po, .int .i64 p.ma, .int .i64 p.si]) := Lib.hid ((HK_p_4.out.alloc _).old hb5)
  clear HK_p_4
  clear cb_p_0 cb_p_1 cb_p_2 cb_p_3 cb_p_4 cb_p_5 zb_p
  have zb_p : w.heap.size + 1 < w5.heap.size := HK_p_5.out.lt
  have cb_p_0 : w5.cell? ⟨w.heap.size + 1, 0, none⟩ = some (.int .i64 p.id) := HK_p_5.out.cell 0
  have cb_p_1 : w5.cell? ⟨w.heap.size + 1, 1, none⟩ = some (.int .i64 p.so) := HK_p_5.out.cell 1
  have cb_p_2 : w5.cell? ⟨w.heap.size + 1, 2, none⟩ = some (.int .i64 p.de) := HK_p_5.out.cell 2
  have cb_p_3 : w5.cell? ⟨w.heap.size + 1, 3, none⟩ = some (.int .i64 p.po) := HK_p_5.out.cell 3
  have cb_p_4 : w5.cell? ⟨w.heap.size + 1, 4, none⟩ = some (.int .i64 p.ma) := HK_p_5.out.cell 4
  have cb_p_5 : w5.cell? ⟨w.heap.size + 1, 5, none⟩ = some (.int .i64 p.si) := HK_p_5.out.cell 5
  have HK_r_5 : Hid (Bk w5 (w.heap.size + 1 + 1) 56 #[.int .i64 0, .int .i64 0, .slice none 0 0, .slice none 0 0, .int .i64 0, .bool false]) := Lib.hid ((HK_r_4.out.alloc _).old hb5)
  clear HK_r_4
  clear cb_r_0 cb_r_1 cb_r_2 cb_r_3 cb_r_4 cb_r_5 zb_r
  have zb_r : w.heap.size + 1 + 1 < w5.heap.size := HK_r_5.out.lt
  have cb_r_0 : w5.cell? ⟨w.heap.size + 1 + 1, 0, none⟩ = some (.int .i64 0) := HK_r_5.out.cell 0
  have cb_r_1 : w5.cell? ⟨w.heap.size + 1 + 1, 1, none⟩ = some (.int .i64 0) := HK_r_5.out.cell 1
  have cb_r_2 : w5.cell? ⟨w.heap.size + 1 + 1, 2, none⟩ = some (.slice none 0 0) := HK_r_5.out.cell 2
  have cb_r_3 : w5.cell? ⟨w.heap.size + 1 + 1, 3, none⟩ = some (.slice none 0 0) := HK_r_5.out.cell 3
  have cb_r_4 : w5.cell? ⟨w.heap.size + 1 + 1, 4, none⟩ = some (.int .i64 0) := HK_r_5.out.cell 4
  have cb_r_5 : w5.cell? ⟨w.heap.size + 1 + 1, 5, none⟩ = some (.bool false) := HK_r_5.out.cell 5
  have HK_Q_5 : Hid (Bk w5 (w4.heap.size) 56 #[.int .i64 qu, .int .i64 li, .slice A_o n cap_o, .slice B_o n capd_o, .int .i64 nx, .bool op]) := Lib.hid ((Bk.new_ (by simp) : Bk _ (w4.heap.size) 56 #[.int .i64 qu, .int .i64 li, .slice A_o n cap_o, .slice B_o n capd_o, .int .i64 nx, .bool op]).old hb5)
  have zb_Q : w4.heap.size < w5.heap.size := HK_Q_5.out.lt
  have cb_Q_0 : w5.cell? ⟨w4.heap.size, 0, none⟩ = some (.int .i64 qu) := HK_Q_5.out.cell 0
  have cb_Q_1 : w5.cell? ⟨w4.heap.size, 1, none⟩ = some (.int .i64 li) := HK_Q_5.out.cell 1
  have cb_Q_2 : w5.cell? ⟨w4.heap.size, 2, none⟩ = some (.slice A_o n cap_o) := HK_Q_5.out.cell 2
  have cb_Q_3 : w5.cell? ⟨w4.heap.size, 3, none⟩ = some (.slice B_o n capd_o) := HK_Q_5.out.cell 3
  have cb_Q_4 : w5.cell? ⟨w4.heap.size, 4, none⟩ = some (.int .i64 nx) := HK_Q_5.out.cell 4
  have cb_Q_5 : w5.cell? ⟨w4.heap.size, 5, none⟩ = some (.bool op) := HK_Q_5.out.cell 5
  have HO_o_5 := Lib.hid ((HO_o_4.out.alloc _).old hb5)
  clear HO_o_4
  have HB_5 := Lib.hid (bt (ba HB_4.out _) hb5)
  clear hb5
  have rf := HK_r_5.out.free
  go_wp2_with fail
  refine bodyPost_ret (v := .tuple #[.agg #[.int .i64 qu, .int .i64 li, .slice A_o n cap_o, .slice B_o n capd_o, .int .i64 nx, .bool op], .bool false, .bool true]) (by simp [results, Try.results47, go_sem, cb_r_0, cb_r_1, cb_r_2, cb_r_3, cb_r_4, cb_r_5]) rfl ?_
  refine ⟨⟨A_o, n, cap_o, B_o, n, capd_o⟩, rfl, ?_, ?_⟩
  · refine FOwn.lo_le (lo := w3.heap.size) (FOwn.here (hi := w4.heap.size) ?_) (by omega)
    repeat (refine FOwn.farC ?_ (.inl (by omega)))
    exact HO_o_5.out
  · repeat (refine bsB ?_ (by omega))
    exact HB_5.out
set_option maxRecDepth 100000 in
set_option maxHeartbeats 4000000 in
theorem specPf_yes (p : Pk) (i : Nat) (L : List Pk) (qu li : Int) (A : Option Addr) (n cap : Nat) (B : Option Addr) (m capd : Nat) (nx : Int) (op : Bool) (F : List (List Pk)) (D : List Int) (w : World) (hr : FRow w ⟨A, n, cap, B, m, capd⟩ (F.map fl) D) (hn : n ≤ 1048576) (hm : m ≤ 1048576) (h1 : fok qu li F D nx op = true) (h2 : p.ok = true) (h3 : fhas F p.id = false) (hfl : flw p n = (i : Int)) (hk : F[i]? = some L) (hll : (L.length : Int) < li) :
    Calls Try.prog 46 #[.agg #[.int .i64 qu, .int .i64 li, .slice A n cap, .slice B m capd, .int .i64 nx, .bool op], .agg #[.int .i64 (p.id), .int .i64 (p.so), .int .i64 (p.de), .int .i64 (p.po), .int .i64 (p.ma), .int .i64 (p.si)]] w (NewFaBB w qu li nx op ((F.map fl).set i (fl (L ++ [p]))) D true true) := by
  have HFN := Lib.hid (show F.length = n by simpa using hr.qn)
  have HDN := Lib.hid (show D.length = m from hr.dn)
  have HR := Lib.hid (fun (W : World) (hb : Below w.heap.size w W) => hr.below hb)
  clear hr
  obtain rfl : n = m := by have := (fok_num8 h1).2.2.2.1; have := HFN.out; have := HDN.out; omega
  have hn1 : 1 ≤ n := by have := (fok_num8 h1).2.2.1; have := HFN.out; omega
  have hn8 : n ≤ 8 := by have := (fok_num8 h1).2.2.1; have := HFN.out; omega
  have HF := Lib.hid (show ∀ (k : Nat) (L : List Pk), F[k]? = some L → L.length ≤ 1048576 from fun k L hk => by have := (fok_row h1 hk).1; omega)
  have hL : L.length ≤ 1048576 := HF.out i L hk
  have HG := Lib.hid (show ∀ (k : Nat) (l : List Int), (F.map fl)[k]? = some l → l.length ≤ 6291456 from fun k l hk => by
    rw [List.getElem?_map] at hk
    rcases hL : F[k]? with _ | L
    · rw [hL] at hk; cases hk
    · rw [hL] at hk
      simp at hk
      have := (fok_row h1 hL).1
      rw [← hk, fl_len]
      omega)
  have HFL := Lib.hid hfl
  have HLL := Lib.hid hll
  have HK := Lib.hid hk
  clear hfl hll hk
  go_enter Try.func46, Try.ntmps46
  go_wp2_with fail
  refine (faGood_b _ _ _ _ _ _ _ _ _ _ F D _ (HR.out _ (ba (ba (ba (b0 w) _) _) _)) hn hm h1).mono ?_
  rintro e w1 ⟨rfl, hb1⟩
  have z1 := hb1.size
  (try simp at z1)
  have HK_q_1 : Hid (Bk w1 (w.heap.size) 56 #[.int .i64 qu, .int .i64 li, .slice A n cap, .slice B n capd, .int .i64 nx, .bool op]) := Lib.hid ((((Bk.new_ (by simp) : Bk _ (w.heap.size) 56 #[.int .i64 qu, .int .i64 li, .slice A n cap, .slice B n capd, .int .i64 nx, .bool op]).alloc _).alloc _).old hb1)
  have zb_q : w.heap.size < w1.heap.size := HK_q_1.out.lt
  have cb_q_0 : w1.cell? ⟨w.heap.size, 0, none⟩ = some (.int .i64 qu) := HK_q_1.out.cell 0
  have cb_q_1 : w1.cell? ⟨w.heap.size, 1, none⟩ = some (.int .i64 li) := HK_q_1.out.cell 1
  have cb_q_2 : w1.cell? ⟨w.heap.size, 2, none⟩ = some (.slice A n cap) := HK_q_1.out.cell 2
  have cb_q_3 : w1.cell? ⟨w.heap.size, 3, none⟩ = some (.slice B n capd) := HK_q_1.out.cell 3
  have cb_q_4 : w1.cell? ⟨w.heap.size, 4, none⟩ = some (.int .i64 nx) := HK_q_1.out.cell 4
  have cb_q_5 : w1.cell? ⟨w.heap.size, 5, none⟩ = some (.bool op) := HK_q_1.out.cell 5
  have HK_p_1 : Hid (Bk w1 (w.heap.size + 1) 35 #[.int .i64 p.id, .int .i64 p.so, .int .i64 p.de, .int .i64 p.po, .int .i64 p.ma, .int .i64 p.si]) := Lib.hid (((Bk.new_ (by simp) : Bk _ (w.heap.size + 1) 35 #[.int .i64 p.id, .int .i64 p.so, .int .i64 p.de, .int .i64 p.po, .int .i64 p.ma, .int .i64 p.si]).alloc _).old hb1)
  have zb_p : w.heap.size + 1 < w1.heap.size := HK_p_1.out.lt
  have cb_p_0 : w1.cell? ⟨w.heap.size + 1, 0, none⟩ = some (.int .i64 p.id) := HK_p_1.out.cell 0
  have cb_p_1 : w1.cell? ⟨w.heap.size + 1, 1, none⟩ = some (.int .i64 p.so) := HK_p_1.out.cell 1
  have cb_p_2 : w1.cell? ⟨w.heap.size + 1, 2, none⟩ = some (.int .i64 p.de) := HK_p_1.out.cell 2
  have cb_p_3 : w1.cell? ⟨w.heap.size + 1, 3, none⟩ = some (.int .i64 p.po) := HK_p_1.out.cell 3
  have cb_p_4 : w1.cell? ⟨w.heap.size + 1, 4, none⟩ = some (.int .i64 p.ma) := HK_p_1.out.cell 4
  have cb_p_5 : w1.cell? ⟨w.heap.size + 1, 5, none⟩ = some (.int .i64 p.si) := HK_p_1.out.cell 5
  have HK_r_1 : Hid (Bk w1 (w.heap.size + 1 + 1) 56 #[.int .i64 0, .int .i64 0, .slice none 0 0, .slice none 0 0, .int .i64 0, .bool false]) := Lib.hid ((Bk.new_ (by simp) : Bk _ (w.heap.size + 1 + 1) 56 #[.int .i64 0, .int .i64 0, .slice none 0 0, .slice none 0 0, .int .i64 0, .bool false]).old hb1)
  have zb_r : w.heap.size + 1 + 1 < w1.heap.size := HK_r_1.out.lt
  have cb_r_0 : w1.cell? ⟨w.heap.size + 1 + 1, 0, none⟩ = some (.int .i64 0) := HK_r_1.out.cell 0
  have cb_r_1 : w1.cell? ⟨w.heap.size + 1 + 1, 1, none⟩ = some (.int .i64 0) := HK_r_1.out.cell 1
  have cb_r_2 : w1.cell? ⟨w.heap.size + 1 + 1, 2, none⟩ = some (.slice none 0 0) := HK_r_1.out.cell 2
  have cb_r_3 : w1.cell? ⟨w.heap.size + 1 + 1, 3, none⟩ = some (.slice none 0 0) := HK_r_1.out.cell 3
  have cb_r_4 : w1.cell? ⟨w.heap.size + 1 + 1, 4, none⟩ = some (.int .i64 0) := HK_r_1.out.cell 4
  have cb_r_5 : w1.cell? ⟨w.heap.size + 1 + 1, 5, none⟩ = some (.bool false) := HK_r_1.out.cell 5
  have HB_1 := Lib.hid (bt (ba (ba (ba (b0 w) _) _) _) hb1)
  clear hb1
  go_wp2_with fail
  refine (pkGood_b h2 _).mono ?_
  rintro e w2 ⟨rfl, hb2⟩
  have z2 := hb2.size
  (try simp at z2)
  have HK_q_2 : Hid (Bk w2 (w.heap.size) 56 #[.int .i64 qu, .int .i64 li, .slice A n cap, .slice B n capd, .int .i64 nx, .bool op]) := Lib.hid (HK_q_1.out.old hb2)
  clear HK_q_1
  clear cb_q_0 cb_q_1 cb_q_2 cb_q_3 cb_q_4 cb_q_5 zb_q
  have zb_q : w.heap.size < w2.heap.size := HK_q_2.out.lt
  have cb_q_0 : w2.cell? ⟨w.heap.size, 0, none⟩ = some (.int .i64 qu) := HK_q_2.out.cell 0
  have cb_q_1 : w2.cell? ⟨w.heap.size, 1, none⟩ = some (.int .i64 li) := HK_q_2.out.cell 1
  have cb_q_2 : w2.cell? ⟨w.heap.size, 2, none⟩ = some (.slice A n cap) := HK_q_2.out.cell 2
  have cb_q_3 : w2.cell? ⟨w.heap.size, 3, none⟩ = some (.slice B n capd) := HK_q_2.out.cell 3
  have cb_q_4 : w2.cell? ⟨w.heap.size, 4, none⟩ = some (.int .i64 nx) := HK_q_2.out.cell 4
  have cb_q_5 : w2.cell? ⟨w.heap.size, 5, none⟩ = some (.bool op) := HK_q_2.out.cell 5
  have HK_p_2 : Hid (Bk w2 (w.heap.size + 1) 35 #[.int .i64 p.id, .int .i64 p.so, .int .i64 p.de, .int .i64 p.po, .int .i64 p.ma, .int .i64 p.si]) := Lib.hid (HK_p_1.out.old hb2)
  clear HK_p_1
  clear cb_p_0 cb_p_1 cb_p_2 cb_p_3 cb_p_4 cb_p_5 zb_p
  have zb_p : w.heap.size + 1 < w2.heap.size := HK_p_2.out.lt
  have cb_p_0 : w2.cell? ⟨w.heap.size + 1, 0, none⟩ = some (.int .i64 p.id) := HK_p_2.out.cell 0
  have cb_p_1 : w2.cell? ⟨w.heap.size + 1, 1, none⟩ = some (.int .i64 p.so) := HK_p_2.out.cell 1
  have cb_p_2 : w2.cell? ⟨w.heap.size + 1, 2, none⟩ = some (.int .i64 p.de) := HK_p_2.out.cell 2
  have cb_p_3 : w2.cell? ⟨w.heap.size + 1, 3, none⟩ = some (.int .i64 p.po) := HK_p_2.out.cell 3
  have cb_p_4 : w2.cell? ⟨w.heap.size + 1, 4, none⟩ = some (.int .i64 p.ma) := HK_p_2.out.cell 4
  have cb_p_5 : w2.cell? ⟨w.heap.size + 1, 5, none⟩ = some (.int .i64 p.si) := HK_p_2.out.cell 5
  have HK_r_2 : Hid (Bk w2 (w.heap.size + 1 + 1) 56 #[.int .i64 0, .int .i64 0, .slice none 0 0, .slice none 0 0, .int .i64 0, .bool false]) := Lib.hid (HK_r_1.out.old hb2)
  clear HK_r_1
  clear cb_r_0 cb_r_1 cb_r_2 cb_r_3 cb_r_4 cb_r_5 zb_r
  have zb_r : w.heap.size + 1 + 1 < w2.heap.size := HK_r_2.out.lt
  have cb_r_0 : w2.cell? ⟨w.heap.size + 1 + 1, 0, none⟩ = some (.int .i64 0) := HK_r_2.out.cell 0
  have cb_r_1 : w2.cell? ⟨w.heap.size + 1 + 1, 1, none⟩ = some (.int .i64 0) := HK_r_2.out.cell 1
  have cb_r_2 : w2.cell? ⟨w.heap.size + 1 + 1, 2, none⟩ = some (.slice none 0 0) := HK_r_2.out.cell 2
  have cb_r_3 : w2.cell? ⟨w.heap.size + 1 + 1, 3, none⟩ = some (.slice none 0 0) := HK_r_2.out.cell 3
  have cb_r_4 : w2.cell? ⟨w.heap.size + 1 + 1, 4, none⟩ = some (.int .i64 0) := HK_r_2.out.cell 4
  have cb_r_5 : w2.cell? ⟨w.heap.size + 1 + 1, 5, none⟩ = some (.bool false) := HK_r_2.out.cell 5
  have HB_2 := Lib.hid (bt HB_1.out hb2)
  clear hb2
  go_wp2_with fail
  refine (faHas_b _ _ _ _ _ _ _ _ _ _ _ F D _ (HR.out _ HB_2.out) hn hm HF.out h3).mono ?_
  rintro e w3 ⟨rfl, hb3⟩
  have z3 := hb3.size
  (try simp at z3)
  have HK_q_3 : Hid (Bk w3 (w.heap.size) 56 #[.int .i64 qu, .int .i64 li, .slice A n cap, .slice B n capd, .int .i64 nx, .bool op]) := Lib.hid (HK_q_2.out.old hb3)
  clear HK_q_2
  clear cb_q_0 cb_q_1 cb_q_2 cb_q_3 cb_q_4 cb_q_5 zb_q
  have zb_q : w.heap.size < w3.heap.size := HK_q_3.out.lt
  have cb_q_0 : w3.cell? ⟨w.heap.size, 0, none⟩ = some (.int .i64 qu) := HK_q_3.out.cell 0
  have cb_q_1 : w3.cell? ⟨w.heap.size, 1, none⟩ = some (.int .i64 li) := HK_q_3.out.cell 1
  have cb_q_2 : w3.cell? ⟨w.heap.size, 2, none⟩ = some (.slice A n cap) := HK_q_3.out.cell 2
  have cb_q_3 : w3.cell? ⟨w.heap.size, 3, none⟩ = some (.slice B n capd) := HK_q_3.out.cell 3
  have cb_q_4 : w3.cell? ⟨w.heap.size, 4, none⟩ = some (.int .i64 nx) := HK_q_3.out.cell 4
  have cb_q_5 : w3.cell? ⟨w.heap.size, 5, none⟩ = some (.bool op) := HK_q_3.out.cell 5
  have HK_p_3 : Hid (Bk w3 (w.heap.size + 1) 35 #[.int .i64 p.id, .int .i64 p.so, .int .i64 p.de, .int .i64 p.po, .int .i64 p.ma, .int .i64 p.si]) := Lib.hid (HK_p_2.out.old hb3)
  clear HK_p_2
  clear cb_p_0 cb_p_1 cb_p_2 cb_p_3 cb_p_4 cb_p_5 zb_p
  have zb_p : w.heap.size + 1 < w3.heap.size := HK_p_3.out.lt
  have cb_p_0 : w3.cell? ⟨w.heap.size + 1, 0, none⟩ = some (.int .i64 p.id) := HK_p_3.out.cell 0
  have cb_p_1 : w3.cell? ⟨w.heap.size + 1, 1, none⟩ = some (.int .i64 p.so) := HK_p_3.out.cell 1
  have cb_p_2 : w3.cell? ⟨w.heap.size + 1, 2, none⟩ = some (.int .i64 p.de) := HK_p_3.out.cell 2
  have cb_p_3 : w3.cell? ⟨w.heap.size + 1, 3, none⟩ = some (.int .i64 p.po) := HK_p_3.out.cell 3
  have cb_p_4 : w3.cell? ⟨w.heap.size + 1, 4, none⟩ = some (.int .i64 p.ma) := HK_p_3.out.cell 4
  have cb_p_5 : w3.cell? ⟨w.heap.size + 1, 5, none⟩ = some (.int .i64 p.si) := HK_p_3.out.cell 5
  have HK_r_3 : Hid (Bk w3 (w.heap.size + 1 + 1) 56 #[.int .i64 0, .int .i64 0, .slice none 0 0, .slice none 0 0, .int .i64 0, .bool false]) := Lib.hid (HK_r_2.out.old hb3)
  clear HK_r_2
  clear cb_r_0 cb_r_1 cb_r_2 cb_r_3 cb_r_4 cb_r_5 zb_r
  have zb_r : w.heap.size + 1 + 1 < w3.heap.size := HK_r_3.out.lt
  have cb_r_0 : w3.cell? ⟨w.heap.size + 1 + 1, 0, none⟩ = some (.int .i64 0) := HK_r_3.out.cell 0
  have cb_r_1 : w3.cell? ⟨w.heap.size + 1 + 1, 1, none⟩ = some (.int .i64 0) := HK_r_3.out.cell 1
  have cb_r_2 : w3.cell? ⟨w.heap.size + 1 + 1, 2, none⟩ = some (.slice none 0 0) := HK_r_3.out.cell 2
  have cb_r_3 : w3.cell? ⟨w.heap.size + 1 + 1, 3, none⟩ = some (.slice none 0 0) := HK_r_3.out.cell 3
  have cb_r_4 : w3.cell? ⟨w.heap.size + 1 + 1, 4, none⟩ = some (.int .i64 0) := HK_r_3.out.cell 4
  have cb_r_5 : w3.cell? ⟨w.heap.size + 1 + 1, 5, none⟩ = some (.bool false) := HK_r_3.out.cell 5
  have HB_3 := Lib.hid (bt HB_2.out hb3)
  clear hb3
  go_wp2_with fail
  refine (faOwn_any _ _ ⟨A, n, cap, B, n, capd⟩ _ _ (F.map fl) D _ (HR.out _ HB_3.out) HG.out hn hm).mono ?_
  rintro e w4 ⟨⟨A_o, n_o, cap_o, B_o, m_o, capd_o⟩, rfl, ho_o, hb4⟩
  have HN_o := Lib.hid ho_o.len
  have HO_o_4 := Lib.hid ho_o
  clear ho_o
  have z4 := hb4.size
  (try simp at z4)
  have HK_q_4 : Hid (Bk w4 (w.heap.size) 56 #[.int .i64 qu, .int .i64 li, .slice A n cap, .slice B n capd, .int .i64 nx, .bool op]) := Lib.hid (HK_q_3.out.old hb4)
  clear HK_q_3
  clear cb_q_0 cb_q_1 cb_q_2 cb_q_3 cb_q_4 cb_q_5 zb_q
  have zb_q : w.heap.size < w4.heap.size := HK_q_4.out.lt
  have cb_q_0 : w4.cell? ⟨w.heap.size, 0, none⟩ = some (.int .i64 qu) := HK_q_4.out.cell 0
  have cb_q_1 : w4.cell? ⟨w.heap.size, 1, none⟩ = some (.int .i64 li) := HK_q_4.out.cell 1
  have cb_q_2 : w4.cell? ⟨w.heap.size, 2, none⟩ = some (.slice A n cap) := HK_q_4.out.cell 2
  have cb_q_3 : w4.cell? ⟨w.heap.size, 3, none⟩ = some (.slice B n capd) := HK_q_4.out.cell 3
  have cb_q_4 : w4.cell? ⟨w.heap.size, 4, none⟩ = some (.int .i64 nx) := HK_q_4.out.cell 4
  have cb_q_5 : w4.cell? ⟨w.heap.size, 5, none⟩ = some (.bool op) := HK_q_4.out.cell 5
  have HK_p_4 : Hid (Bk w4 (w.heap.size + 1) 35 #[.int .i64 p.id, .int .i64 p.so, .int .i64 p.de, .int .i64 p.po, .int .i64 p.ma, .int .i64 p.si]) := Lib.hid (HK_p_3.out.old hb4)
  clear HK_p_3
  clear cb_p_0 cb_p_1 cb_p_2 cb_p_3 cb_p_4 cb_p_5 zb_p
  have zb_p : w.heap.size + 1 < w4.heap.size := HK_p_4.out.lt
  have cb_p_0 : w4.cell? ⟨w.heap.size + 1, 0, none⟩ = some (.int .i64 p.id) := HK_p_4.out.cell 0
  have cb_p_1 : w4.cell? ⟨w.heap.size + 1, 1, none⟩ = some (.int .i64 p.so) := HK_p_4.out.cell 1
  have cb_p_2 : w4.cell? ⟨w.heap.size + 1, 2, none⟩ = some (.int .i64 p.de) := HK_p_4.out.cell 2
  have cb_p_3 : w4.cell? ⟨w.heap.size + 1, 3, none⟩ = some (.int .i64 p.po) := HK_p_4.out.cell 3
  have cb_p_4 : w4.cell? ⟨w.heap.size + 1, 4, none⟩ = some (.int .i64 p.ma) := HK_p_4.out.cell 4
  have cb_p_5 : w4.cell? ⟨w.heap.size + 1, 5, none⟩ = some (.int .i64 p.si) := HK_p_4.out.cell 5
  have HK_r_4 : Hid (Bk w4 (w.heap.size + 1 + 1) 56 #[.int .i64 0, .int .i64 0, .slice none 0 0, .slice none 0 0, .int .i64 0, .bool false]) := Lib.hid (HK_r_3.out.old hb4)
  clear HK_r_3
  clear cb_r_0 cb_r_1 cb_r_2 cb_r_3 cb_r_4 cb_r_5 zb_r
  have zb_r : w.heap.size + 1 + 1 < w4.heap.size := HK_r_4.out.lt
  have cb_r_0 : w4.cell? ⟨w.heap.size + 1 + 1, 0, none⟩ = some (.int .i64 0) := HK_r_4.out.cell 0
  have cb_r_1 : w4.cell? ⟨w.heap.size + 1 + 1, 1, none⟩ = some (.int .i64 0) := HK_r_4.out.cell 1
  have cb_r_2 : w4.cell? ⟨w.heap.size + 1 + 1, 2, none⟩ = some (.slice none 0 0) := HK_r_4.out.cell 2
  have cb_r_3 : w4.cell? ⟨w.heap.size + 1 + 1, 3, none⟩ = some (.slice none 0 0) := HK_r_4.out.cell 3
  have cb_r_4 : w4.cell? ⟨w.heap.size + 1 + 1, 4, none⟩ = some (.int .i64 0) := HK_r_4.out.cell 4
  have cb_r_5 : w4.cell? ⟨w.heap.size + 1 + 1, 5, none⟩ = some (.bool false) := HK_r_4.out.cell 5
  have HB_4 := Lib.hid (bt HB_3.out hb4)
  clear hb4
  obtain rfl : n = n_o := by have h1 := HN_o.out; have h2 := HFN.out; simp at h1; omega
  obtain rfl : n = m_o := by have h1 := HN_o.out; have h2 := HDN.out; simp at h1; omega
  have hs34 : w3.heap.size ≤ w4.heap.size := by omega
  go_wp2_with fail
  refine (specPut_yes w4.heap.size p i L w3.heap.size w4.heap.size qu li A_o n cap_o B_o n capd_o nx op F D _ (HO_o_4.out.alloc _) (Bk.new_ rfl) (.inr (Nat.le_refl _)) hs34 (by simp) h2 hn1 hn8 HFL.out HK.out hL HLL.out).mono ?_
  rintro e w5 ⟨rfl, ho5, hb5, hQ5⟩
  have HO5 := Lib.hid ho5
  have HR5 := Lib.hid ((HK_r_4.out.alloc _).below hb5 (by omega))
  have HB5 := Lib.hid ((ba HB_4.out _).trans (hb5.mono (by omega)))
  have z5 := hb5.size
  (try simp at z5)
  have HQ5 := Lib.hid hQ5
  clear ho5 hb5 hQ5
  have Q : Bk w5 (w4.heap.size) 56 #[.int .i64 qu, .int .i64 li, .slice A_o n cap_o, .slice B_o n capd_o, .int .i64 nx, .bool op] := HQ5.out
  have zQ : w4.heap.size < w5.heap.size := Q.lt
  have Q_0 : w5.cell? ⟨w4.heap.size, 0, none⟩ = some (.int .i64 qu) := Q.cell 0
  have Q_1 : w5.cell? ⟨w4.heap.size, 1, none⟩ = some (.int .i64 li) := Q.cell 1
  have Q_2 : w5.cell? ⟨w4.heap.size, 2, none⟩ = some (.slice A_o n cap_o) := Q.cell 2
  have Q_3 : w5.cell? ⟨w4.heap.size, 3, none⟩ = some (.slice B_o n capd_o) := Q.cell 3
  have Q_4 : w5.cell? ⟨w4.heap.size, 4, none⟩ = some (.int .i64 nx) := Q.cell 4
  have Q_5 : w5.cell? ⟨w4.heap.size, 5, none⟩ = some (.bool op) := Q.cell 5
  have Qf := Q.free
  have HQ := Lib.hid Q
  clear Q
  clear cb_r_0 cb_r_1 cb_r_2 cb_r_3 cb_r_4 cb_r_5 zb_r
  have r : Bk w5 (w.heap.size + 1 + 1) 56 #[.int .i64 0, .int .i64 0, .slice none 0 0, .slice none 0 0, .int .i64 0, .bool false] := HR5.out
  have zr : w.heap.size + 1 + 1 < w5.heap.size := r.lt
  have r_0 : w5.cell? ⟨w.heap.size + 1 + 1, 0, none⟩ = some (.int .i64 0) := r.cell 0
  have r_1 : w5.cell? ⟨w.heap.size + 1 + 1, 1, none⟩ = some (.int .i64 0) := r.cell 1
  have r_2 : w5.cell? ⟨w.heap.size + 1 + 1, 2, none⟩ = some (.slice none 0 0) := r.cell 2
  have r_3 : w5.cell? ⟨w.heap.size + 1 + 1, 3, none⟩ = some (.slice none 0 0) := r.cell 3
  have r_4 : w5.cell? ⟨w.heap.size + 1 + 1, 4, none⟩ = some (.int .i64 0) := r.cell 4
  have r_5 : w5.cell? ⟨w.heap.size + 1 + 1, 5, none⟩ = some (.bool false) := r.cell 5
  have rf := r.free
  have Hr := Lib.hid r
  clear r
  go_wp2_with fail
  refine bodyPost_ret (v := .tuple #[.agg #[.int .i64 qu, .int .i64 li, .slice A_o n cap_o, .slice B_o n capd_o, .int .i64 nx, .bool op], .bool true, .bool true]) (by simp [results, Try.results46, go_sem, r_0, r_1, r_2, r_3, r_4, r_5]) rfl ?_
  refine ⟨⟨A_o, n, cap_o, B_o, n, capd_o⟩, rfl, ?_, ?_⟩
  · refine FOwn.lo_le (lo := w3.heap.size) (FOwn.here (hi := w5.heap.size) ?_) (by omega)
    repeat (refine FOwn.farC ?_ (.inl (by omega)))
    exact HO5.out
  · repeat (refine bsB ?_ (by omega))
    exact HB5.out
set_option maxRecDepth 100000 in
set_option maxHeartbeats 4000000 in
theorem implPf_yes (p : Pk) (i : Nat) (L : List Pk) (qu li : Int) (A : Option Addr) (n cap : Nat) (B : Option Addr) (m capd : Nat) (nx : Int) (op : Bool) (F : List (List Pk)) (D : List Int) (w : World) (hr : FRow w ⟨A, n, cap, B, m, capd⟩ (F.map fl) D) (hn : n ≤ 1048576) (hm : m ≤ 1048576) (h1 : fok qu li F D nx op = true) (h2 : p.ok = true) (h3 : fhas F p.id = false) (hfl : flw p n = (i : Int)) (hk : F[i]? = some L) (hll : (L.length : Int) < li) :
    Calls Try.prog 47 #[.agg #[.int .i64 qu, .int .i64 li, .slice A n cap, .slice B m capd, .int .i64 nx, .bool op], .agg #[.int .i64 (p.id), .int .i64 (p.so), .int .i64 (p.de), .int .i64 (p.po), .int .i64 (p.ma), .int .i64 (p.si)]] w (NewFaBB w qu li nx op ((F.map fl).set i (fl (L ++ [p]))) D true true) := by
  have HFN := Lib.hid (show F.length = n by simpa using hr.qn)
  have HDN := Lib.hid (show D.length = m from hr.dn)
  have HR := Lib.hid (fun (W : World) (hb : Below w.heap.size w W) => hr.below hb)
  clear hr
  obtain rfl : n = m := by have := (fok_num8 h1).2.2.2.1; have := HFN.out; have := HDN.out; omega
  have hn1 : 1 ≤ n := by have := (fok_num8 h1).2.2.1; have := HFN.out; omega
  have hn8 : n ≤ 8 := by have := (fok_num8 h1).2.2.1; have := HFN.out; omega
  have HF := Lib.hid (show ∀ (k : Nat) (L : List Pk), F[k]? = some L → L.length ≤ 1048576 from fun k L hk => by have := (fok_row h1 hk).1; omega)
  have hL : L.length ≤ 1048576 := HF.out i L hk
  have HG := Lib.hid (show ∀ (k : Nat) (l : List Int), (F.map fl)[k]? = some l → l.length ≤ 6291456 from fun k l hk => by
    rw [List.getElem?_map] at hk
    rcases hL : F[k]? with _ | L
    · rw [hL] at hk; cases hk
    · rw [hL] at hk
      simp at hk
      have := (fok_row h1 hL).1
      rw [← hk, fl_len]
      omega)
  have HFL := Lib.hid hfl
  have HLL := Lib.hid hll
  have HK := Lib.hid hk
  clear hfl hll hk
  go_enter Try.func47, Try.ntmps47
  go_wp2_with fail
  refine (implIsFair_b _ _ _ _ _ _ _ _ _ _ F D _ (HR.out _ (ba (ba (ba (b0 w) _) _) _)) hn hm h1).mono ?_
  rintro e w1 ⟨rfl, hb1⟩
  have z1 := hb1.size
  (try simp at z1)
  have HK_q_1 : Hid (Bk w1 (w.heap.size) 56 #[.int .i64 qu, .int .i64 li, .slice A n cap, .slice B n capd, .int .i64 nx, .bool op]) := Lib.hid ((((Bk.new_ (by simp) : Bk _ (w.heap.size) 56 #[.int .i64 qu, .int .i64 li, .slice A n cap, .slice B n capd, .int .i64 nx, .bool op]).alloc _).alloc _).old hb1)
  have zb_q : w.heap.size < w1.heap.size := HK_q_1.out.lt
  have cb_q_0 : w1.cell? ⟨w.heap.size, 0, none⟩ = some (.int .i64 qu) := HK_q_1.out.cell 0
  have cb_q_1 : w1.cell? ⟨w.heap.size, 1, none⟩ = some (.int .i64 li) := HK_q_1.out.cell 1
  have cb_q_2 : w1.cell? ⟨w.heap.size, 2, none⟩ = some (.slice A n cap) := HK_q_1.out.cell 2
  have cb_q_3 : w1.cell? ⟨w.heap.size, 3, none⟩ = some (.slice B n capd) := HK_q_1.out.cell 3
  have cb_q_4 : w1.cell? ⟨w.heap.size, 4, none⟩ = some (.int .i64 nx) := HK_q_1.out.cell 4
  have cb_q_5 : w1.cell? ⟨w.heap.size, 5, none⟩ = some (.bool op) := HK_q_1.out.cell 5
  have HK_p_1 : Hid (Bk w1 (w.heap.size + 1) 35 #[.int .i64 p.id, .int .i64 p.so, .int .i64 p.de, .int .i64 p.po, .int .i64 p.ma, .int .i64 p.si]) := Lib.hid (((Bk.new_ (by simp) : Bk _ (w.heap.size + 1) 35 #[.int .i64 p.id, .int .i64 p.so, .int .i64 p.de, .int .i64 p.po, .int .i64 p.ma, .int .i64 p.si]).alloc _).old hb1)
  have zb_p : w.heap.size + 1 < w1.heap.size := HK_p_1.out.lt
  have cb_p_0 : w1.cell? ⟨w.heap.size + 1, 0, none⟩ = some (.int .i64 p.id) := HK_p_1.out.cell 0
  have cb_p_1 : w1.cell? ⟨w.heap.size + 1, 1, none⟩ = some (.int .i64 p.so) := HK_p_1.out.cell 1
  have cb_p_2 : w1.cell? ⟨w.heap.size + 1, 2, none⟩ = some (.int .i64 p.de) := HK_p_1.out.cell 2
  have cb_p_3 : w1.cell? ⟨w.heap.size + 1, 3, none⟩ = some (.int .i64 p.po) := HK_p_1.out.cell 3
  have cb_p_4 : w1.cell? ⟨w.heap.size + 1, 4, none⟩ = some (.int .i64 p.ma) := HK_p_1.out.cell 4
  have cb_p_5 : w1.cell? ⟨w.heap.size + 1, 5, none⟩ = some (.int .i64 p.si) := HK_p_1.out.cell 5
  have HK_r_1 : Hid (Bk w1 (w.heap.size + 1 + 1) 56 #[.int .i64 0, .int .i64 0, .slice none 0 0, .slice none 0 0, .int .i64 0, .bool false]) := Lib.hid ((Bk.new_ (by simp) : Bk _ (w.heap.size + 1 + 1) 56 #[.int .i64 0, .int .i64 0, .slice none 0 0, .slice none 0 0, .int .i64 0, .bool false]).old hb1)
  have zb_r : w.heap.size + 1 + 1 < w1.heap.size := HK_r_1.out.lt
  have cb_r_0 : w1.cell? ⟨w.heap.size + 1 + 1, 0, none⟩ = some (.int .i64 0) := HK_r_1.out.cell 0
  have cb_r_1 : w1.cell? ⟨w.heap.size + 1 + 1, 1, none⟩ = some (.int .i64 0) := HK_r_1.out.cell 1
  have cb_r_2 : w1.cell? ⟨w.heap.size + 1 + 1, 2, none⟩ = some (.slice none 0 0) := HK_r_1.out.cell 2
  have cb_r_3 : w1.cell? ⟨w.heap.size + 1 + 1, 3, none⟩ = some (.slice none 0 0) := HK_r_1.out.cell 3
  have cb_r_4 : w1.cell? ⟨w.heap.size + 1 + 1, 4, none⟩ = some (.int .i64 0) := HK_r_1.out.cell 4
  have cb_r_5 : w1.cell? ⟨w.heap.size + 1 + 1, 5, none⟩ = some (.bool false) := HK_r_1.out.cell 5
  have HB_1 := Lib.hid (bt (ba (ba (ba (b0 w) _) _) _) hb1)
  clear hb1
  go_wp2_with fail
  refine (isPacket_b h2 _).mono ?_
  rintro e w2 ⟨rfl, hb2⟩
  have z2 := hb2.size
  (try simp at z2)
  have HK_q_2 : Hid (Bk w2 (w.heap.size) 56 #[.int .i64 qu, .int .i64 li, .slice A n cap, .slice B n capd, .int .i64 nx, .bool op]) := Lib.hid (HK_q_1.out.old hb2)
  clear HK_q_1
  clear cb_q_0 cb_q_1 cb_q_2 cb_q_3 cb_q_4 cb_q_5 zb_q
  have zb_q : w.heap.size < w2.heap.size := HK_q_2.out.lt
  have cb_q_0 : w2.cell? ⟨w.heap.size, 0, none⟩ = some (.int .i64 qu) := HK_q_2.out.cell 0
  have cb_q_1 : w2.cell? ⟨w.heap.size, 1, none⟩ = some (.int .i64 li) := HK_q_2.out.cell 1
  have cb_q_2 : w2.cell? ⟨w.heap.size, 2, none⟩ = some (.slice A n cap) := HK_q_2.out.cell 2
  have cb_q_3 : w2.cell? ⟨w.heap.size, 3, none⟩ = some (.slice B n capd) := HK_q_2.out.cell 3
  have cb_q_4 : w2.cell? ⟨w.heap.size, 4, none⟩ = some (.int .i64 nx) := HK_q_2.out.cell 4
  have cb_q_5 : w2.cell? ⟨w.heap.size, 5, none⟩ = some (.bool op) := HK_q_2.out.cell 5
  have HK_p_2 : Hid (Bk w2 (w.heap.size + 1) 35 #[.int .i64 p.id, .int .i64 p.so, .int .i64 p.de, .int .i64 p.po, .int .i64 p.ma, .int .i64 p.si]) := Lib.hid (HK_p_1.out.old hb2)
  clear HK_p_1
  clear cb_p_0 cb_p_1 cb_p_2 cb_p_3 cb_p_4 cb_p_5 zb_p
  have zb_p : w.heap.size + 1 < w2.heap.size := HK_p_2.out.lt
  have cb_p_0 : w2.cell? ⟨w.heap.size + 1, 0, none⟩ = some (.int .i64 p.id) := HK_p_2.out.cell 0
  have cb_p_1 : w2.cell? ⟨w.heap.size + 1, 1, none⟩ = some (.int .i64 p.so) := HK_p_2.out.cell 1
  have cb_p_2 : w2.cell? ⟨w.heap.size + 1, 2, none⟩ = some (.int .i64 p.de) := HK_p_2.out.cell 2
  have cb_p_3 : w2.cell? ⟨w.heap.size + 1, 3, none⟩ = some (.int .i64 p.po) := HK_p_2.out.cell 3
  have cb_p_4 : w2.cell? ⟨w.heap.size + 1, 4, none⟩ = some (.int .i64 p.ma) := HK_p_2.out.cell 4
  have cb_p_5 : w2.cell? ⟨w.heap.size + 1, 5, none⟩ = some (.int .i64 p.si) := HK_p_2.out.cell 5
  have HK_r_2 : Hid (Bk w2 (w.heap.size + 1 + 1) 56 #[.int .i64 0, .int .i64 0, .slice none 0 0, .slice none 0 0, .int .i64 0, .bool false]) := Lib.hid (HK_r_1.out.old hb2)
  clear HK_r_1
  clear cb_r_0 cb_r_1 cb_r_2 cb_r_3 cb_r_4 cb_r_5 zb_r
  have zb_r : w.heap.size + 1 + 1 < w2.heap.size := HK_r_2.out.lt
  have cb_r_0 : w2.cell? ⟨w.heap.size + 1 + 1, 0, none⟩ = some (.int .i64 0) := HK_r_2.out.cell 0
  have cb_r_1 : w2.cell? ⟨w.heap.size + 1 + 1, 1, none⟩ = some (.int .i64 0) := HK_r_2.out.cell 1
  have cb_r_2 : w2.cell? ⟨w.heap.size + 1 + 1, 2, none⟩ = some (.slice none 0 0) := HK_r_2.out.cell 2
  have cb_r_3 : w2.cell? ⟨w.heap.size + 1 + 1, 3, none⟩ = some (.slice none 0 0) := HK_r_2.out.cell 3
  have cb_r_4 : w2.cell? ⟨w.heap.size + 1 + 1, 4, none⟩ = some (.int .i64 0) := HK_r_2.out.cell 4
  have cb_r_5 : w2.cell? ⟨w.heap.size + 1 + 1, 5, none⟩ = some (.bool false) := HK_r_2.out.cell 5
  have HB_2 := Lib.hid (bt HB_1.out hb2)
  clear hb2
  go_wp2_with fail
  refine (fairHas_b _ _ qu li _ _ _ _ _ _ nx op F D _ cb_q_2 (HR.out _ HB_2.out) hn hm HF.out h3).mono ?_
  rintro e w3 ⟨rfl, hb3⟩
  have z3 := hb3.size
  (try simp at z3)
  have HK_q_3 : Hid (Bk w3 (w.heap.size) 56 #[.int .i64 qu, .int .i64 li, .slice A n cap, .slice B n capd, .int .i64 nx, .bool op]) := Lib.hid (HK_q_2.out.old hb3)
  clear HK_q_2
  clear cb_q_0 cb_q_1 cb_q_2 cb_q_3 cb_q_4 cb_q_5 zb_q
  have zb_q : w.heap.size < w3.heap.size := HK_q_3.out.lt
  have cb_q_0 : w3.cell? ⟨w.heap.size, 0, none⟩ = some (.int .i64 qu) := HK_q_3.out.cell 0
  have cb_q_1 : w3.cell? ⟨w.heap.size, 1, none⟩ = some (.int .i64 li) := HK_q_3.out.cell 1
  have cb_q_2 : w3.cell? ⟨w.heap.size, 2, none⟩ = some (.slice A n cap) := HK_q_3.out.cell 2
  have cb_q_3 : w3.cell? ⟨w.heap.size, 3, none⟩ = some (.slice B n capd) := HK_q_3.out.cell 3
  have cb_q_4 : w3.cell? ⟨w.heap.size, 4, none⟩ = some (.int .i64 nx) := HK_q_3.out.cell 4
  have cb_q_5 : w3.cell? ⟨w.heap.size, 5, none⟩ = some (.bool op) := HK_q_3.out.cell 5
  have HK_p_3 : Hid (Bk w3 (w.heap.size + 1) 35 #[.int .i64 p.id, .int .i64 p.so, .int .i64 p.de, .int .i64 p.po, .int .i64 p.ma, .int .i64 p.si]) := Lib.hid (HK_p_2.out.old hb3)
  clear HK_p_2
  clear cb_p_0 cb_p_1 cb_p_2 cb_p_3 cb_p_4 cb_p_5 zb_p
  have zb_p : w.heap.size + 1 < w3.heap.size := HK_p_3.out.lt
  have cb_p_0 : w3.cell? ⟨w.heap.size + 1, 0, none⟩ = some (.int .i64 p.id) := HK_p_3.out.cell 0
  have cb_p_1 : w3.cell? ⟨w.heap.size + 1, 1, none⟩ = some (.int .i64 p.so) := HK_p_3.out.cell 1
  have cb_p_2 : w3.cell? ⟨w.heap.size + 1, 2, none⟩ = some (.int .i64 p.de) := HK_p_3.out.cell 2
  have cb_p_3 : w3.cell? ⟨w.heap.size + 1, 3, none⟩ = some (.int .i64 p.po) := HK_p_3.out.cell 3
  have cb_p_4 : w3.cell? ⟨w.heap.size + 1, 4, none⟩ = some (.int .i64 p.ma) := HK_p_3.out.cell 4
  have cb_p_5 : w3.cell? ⟨w.heap.size + 1, 5, none⟩ = some (.int .i64 p.si) := HK_p_3.out.cell 5
  have HK_r_3 : Hid (Bk w3 (w.heap.size + 1 + 1) 56 #[.int .i64 0, .int .i64 0, .slice none 0 0, .slice none 0 0, .int .i64 0, .bool false]) := Lib.hid (HK_r_2.out.old hb3)
  clear HK_r_2
  clear cb_r_0 cb_r_1 cb_r_2 cb_r_3 cb_r_4 cb_r_5 zb_r
  have zb_r : w.heap.size + 1 + 1 < w3.heap.size := HK_r_3.out.lt
  have cb_r_0 : w3.cell? ⟨w.heap.size + 1 + 1, 0, none⟩ = some (.int .i64 0) := HK_r_3.out.cell 0
  have cb_r_1 : w3.cell? ⟨w.heap.size + 1 + 1, 1, none⟩ = some (.int .i64 0) := HK_r_3.out.cell 1
  have cb_r_2 : w3.cell? ⟨w.heap.size + 1 + 1, 2, none⟩ = some (.slice none 0 0) := HK_r_3.out.cell 2
  have cb_r_3 : w3.cell? ⟨w.heap.size + 1 + 1, 3, none⟩ = some (.slice none 0 0) := HK_r_3.out.cell 3
  have cb_r_4 : w3.cell? ⟨w.heap.size + 1 + 1, 4, none⟩ = some (.int .i64 0) := HK_r_3.out.cell 4
  have cb_r_5 : w3.cell? ⟨w.heap.size + 1 + 1, 5, none⟩ = some (.bool false) := HK_r_3.out.cell 5
  have HB_3 := Lib.hid (bt HB_2.out hb3)
  clear hb3
  go_wp2_with fail
  refine (copyFair_any _ _ ⟨A, n, cap, B, n, capd⟩ _ _ (F.map fl) D _ (HR.out _ HB_3.out) HG.out hn hm).mono ?_
  rintro e w4 ⟨⟨A_o, n_o, cap_o, B_o, m_o, capd_o⟩, rfl, ho_o, hb4⟩
  have HN_o := Lib.hid ho_o.len
  have HO_o_4 := Lib.hid ho_o
  clear ho_o
  have z4 := hb4.size
  (try simp at z4)
  have HK_q_4 : Hid (Bk w4 (w.heap.size) 56 #[.int .i64 qu, .int .i64 li, .slice A n cap, .slice B n capd, .int .i64 nx, .bool op]) := Lib.hid (HK_q_3.out.old hb4)
  clear HK_q_3
  clear cb_q_0 cb_q_1 cb_q_2 cb_q_3 cb_q_4 cb_q_5 zb_q
  have zb_q : w.heap.size < w4.heap.size := HK_q_4.out.lt
  have cb_q_0 : w4.cell? ⟨w.heap.size, 0, none⟩ = some (.int .i64 qu) := HK_q_4.out.cell 0
  have cb_q_1 : w4.cell? ⟨w.heap.size, 1, none⟩ = some (.int .i64 li) := HK_q_4.out.cell 1
  have cb_q_2 : w4.cell? ⟨w.heap.size, 2, none⟩ = some (.slice A n cap) := HK_q_4.out.cell 2
  have cb_q_3 : w4.cell? ⟨w.heap.size, 3, none⟩ = some (.slice B n capd) := HK_q_4.out.cell 3
  have cb_q_4 : w4.cell? ⟨w.heap.size, 4, none⟩ = some (.int .i64 nx) := HK_q_4.out.cell 4
  have cb_q_5 : w4.cell? ⟨w.heap.size, 5, none⟩ = some (.bool op) := HK_q_4.out.cell 5
  have HK_p_4 : Hid (Bk w4 (w.heap.size + 1) 35 #[.int .i64 p.id, .int .i64 p.so, .int .i64 p.de, .int .i64 p.po, .int .i64 p.ma, .int .i64 p.si]) := Lib.hid (HK_p_3.out.old hb4)
  clear HK_p_3
  clear cb_p_0 cb_p_1 cb_p_2 cb_p_3 cb_p_4 cb_p_5 zb_p
  have zb_p : w.heap.size + 1 < w4.heap.size := HK_p_4.out.lt
  have cb_p_0 : w4.cell? ⟨w.heap.size + 1, 0, none⟩ = some (.int .i64 p.id) := HK_p_4.out.cell 0
  have cb_p_1 : w4.cell? ⟨w.heap.size + 1, 1, none⟩ = some (.int .i64 p.so) := HK_p_4.out.cell 1
  have cb_p_2 : w4.cell? ⟨w.heap.size + 1, 2, none⟩ = some (.int .i64 p.de) := HK_p_4.out.cell 2
  have cb_p_3 : w4.cell? ⟨w.heap.size + 1, 3, none⟩ = some (.int .i64 p.po) := HK_p_4.out.cell 3
  have cb_p_4 : w4.cell? ⟨w.heap.size + 1, 4, none⟩ = some (.int .i64 p.ma) := HK_p_4.out.cell 4
  have cb_p_5 : w4.cell? ⟨w.heap.size + 1, 5, none⟩ = some (.int .i64 p.si) := HK_p_4.out.cell 5
  have HK_r_4 : Hid (Bk w4 (w.heap.size + 1 + 1) 56 #[.int .i64 0, .int .i64 0, .slice none 0 0, .slice none 0 0, .int .i64 0, .bool false]) := Lib.hid (HK_r_3.out.old hb4)
  clear HK_r_3
  clear cb_r_0 cb_r_1 cb_r_2 cb_r_3 cb_r_4 cb_r_5 zb_r
  have zb_r : w.heap.size + 1 + 1 < w4.heap.size := HK_r_4.out.lt
  have cb_r_0 : w4.cell? ⟨w.heap.size + 1 + 1, 0, none⟩ = some (.int .i64 0) := HK_r_4.out.cell 0
  have cb_r_1 : w4.cell? ⟨w.heap.size + 1 + 1, 1, none⟩ = some (.int .i64 0) := HK_r_4.out.cell 1
  have cb_r_2 : w4.cell? ⟨w.heap.size + 1 + 1, 2, none⟩ = some (.slice none 0 0) := HK_r_4.out.cell 2
  have cb_r_3 : w4.cell? ⟨w.heap.size + 1 + 1, 3, none⟩ = some (.slice none 0 0) := HK_r_4.out.cell 3
  have cb_r_4 : w4.cell? ⟨w.heap.size + 1 + 1, 4, none⟩ = some (.int .i64 0) := HK_r_4.out.cell 4
  have cb_r_5 : w4.cell? ⟨w.heap.size + 1 + 1, 5, none⟩ = some (.bool false) := HK_r_4.out.cell 5
  have HB_4 := Lib.hid (bt HB_3.out hb4)
  clear hb4
  obtain rfl : n = n_o := by have h1 := HN_o.out; have h2 := HFN.out; simp at h1; omega
  obtain rfl : n = m_o := by have h1 := HN_o.out; have h2 := HDN.out; simp at h1; omega
  have hs34 : w3.heap.size ≤ w4.heap.size := by omega
  go_wp2_with fail
  refine (implPut_yes w4.heap.size p i L w3.heap.size w4.heap.size qu li A_o n cap_o B_o n capd_o nx op F D _ (HO_o_4.out.alloc _) (Bk.new_ rfl) (.inr (Nat.le_refl _)) hs34 (by simp) h2 hn1 hn8 HFL.out HK.out hL HLL.out).mono ?_
  rintro e w5 ⟨rfl, ho5, hb5, hQ5⟩
  have HO5 := Lib.hid ho5
  have HR5 := Lib.hid ((HK_r_4.out.alloc _).below hb5 (by omega))
  have HB5 := Lib.hid ((ba HB_4.out _).trans (hb5.mono (by omega)))
  have z5 := hb5.size
  (try simp at z5)
  have HQ5 := Lib.hid hQ5
  clear ho5 hb5 hQ5
  have Q : Bk w5 (w4.heap.size) 56 #[.int .i64 qu, .int .i64 li, .slice A_o n cap_o, .slice B_o n capd_o, .int .i64 nx, .bool op] := HQ5.out
  have zQ : w4.heap.size < w5.heap.size := Q.lt
  have Q_0 : w5.cell? ⟨w4.heap.size, 0, none⟩ = some (.int .i64 qu) := Q.cell 0
  have Q_1 : w5.cell? ⟨w4.heap.size, 1, none⟩ = some (.int .i64 li) := Q.cell 1
  have Q_2 : w5.cell? ⟨w4.heap.size, 2, none⟩ = some (.slice A_o n cap_o) := Q.cell 2
  have Q_3 : w5.cell? ⟨w4.heap.size, 3, none⟩ = some (.slice B_o n capd_o) := Q.cell 3
  have Q_4 : w5.cell? ⟨w4.heap.size, 4, none⟩ = some (.int .i64 nx) := Q.cell 4
  have Q_5 : w5.cell? ⟨w4.heap.size, 5, none⟩ = some (.bool op) := Q.cell 5
  have Qf := Q.free
  have HQ := Lib.hid Q
  clear Q
  clear cb_r_0 cb_r_1 cb_r_2 cb_r_3 cb_r_4 cb_r_5 zb_r
  have r : Bk w5 (w.heap.size + 1 + 1) 56 #[.int .i64 0, .int .i64 0, .slice none 0 0, .slice none 0 0, .int .i64 0, .bool false] := HR5.out
  have zr : w.heap.size + 1 + 1 < w5.heap.size := r.lt
  have r_0 : w5.cell? ⟨w.heap.size + 1 + 1, 0, none⟩ = some (.int .i64 0) := r.cell 0
  have r_1 : w5.cell? ⟨w.heap.size + 1 + 1, 1, none⟩ = some (.int .i64 0) := r.cell 1
  have r_2 : w5.cell? ⟨w.heap.size + 1 + 1, 2, none⟩ = some (.slice none 0 0) := r.cell 2
  have r_3 : w5.cell? ⟨w.heap.size + 1 + 1, 3, none⟩ = some (.slice none 0 0) := r.cell 3
  have r_4 : w5.cell? ⟨w.heap.size + 1 + 1, 4, none⟩ = some (.int .i64 0) := r.cell 4
  have r_5 : w5.cell? ⟨w.heap.size + 1 + 1, 5, none⟩ = some (.bool false) := r.cell 5
  have rf := r.free
  have Hr := Lib.hid r
  clear r
  go_wp2_with fail
  refine bodyPost_ret (v := .tuple #[.agg #[.int .i64 qu, .int .i64 li, .slice A_o n cap_o, .slice B_o n capd_o, .int .i64 nx, .bool op], .bool true, .bool true]) (by simp [results, Try.results47, go_sem, r_0, r_1, r_2, r_3, r_4, r_5]) rfl ?_
  refine ⟨⟨A_o, n, cap_o, B_o, n, capd_o⟩, rfl, ?_, ?_⟩
  · refine FOwn.lo_le (lo := w3.heap.size) (FOwn.here (hi := w5.heap.size) ?_) (by omega)
    repeat (refine FOwn.farC ?_ (.inl (by omega)))
    exact HO5.out
  · repeat (refine bsB ?_ (by omega))
    exact HB5.out
def pfG (li : Int) (F : List (List Pk)) (p : Pk) : List (List Int) := if pfIn li F p then (F.map fl).set (pfAt F p) (fl (rowF F (pfAt F p) ++ [p])) else F.map fl
def PfP (w : World) (qu li : Int) (F : List (List Pk)) (D : List Int) (nx : Int) (op : Bool) (p : Pk) : Ending → World → Prop :=
  NewFaBB w (ifz (pfOk qu li F D nx op p) qu) (ifz (pfOk qu li F D nx op p) li) (ifz (pfOk qu li F D nx op p) nx) (pfOk qu li F D nx op p && op) (ifG (pfOk qu li F D nx op p) (pfG li F p)) (ifG (pfOk qu li F D nx op p) D) (pfOk qu li F D nx op p && pfIn li F p) (pfOk qu li F D nx op p)
theorem specPutFair_any (p : Pk) (qu li : Int) (A : Option Addr) (n cap : Nat) (B : Option Addr) (m capd : Nat) (nx : Int) (op : Bool) (F : List (List Pk)) (D : List Int) (w : World) (hr : FRow w ⟨A, n, cap, B, m, capd⟩ (F.map fl) D) (hn : n ≤ 1048576) (hm : m ≤ 1048576) :
    Calls Try.prog 46 #[.agg #[.int .i64 qu, .int .i64 li, .slice A n cap, .slice B m capd, .int .i64 nx, .bool op], .agg #[.int .i64 (p.id), .int .i64 (p.so), .int .i64 (p.de), .int .i64 (p.po), .int .i64 (p.ma), .int .i64 (p.si)]] w (PfP w qu li F D nx op p) := by
  unfold PfP
  rcases h : pfOk qu li F D nx op p with _ | _
  · exact specPf_bad p qu li A n cap B m capd nx op F D w hr hn hm h
  · have hfn : F.length = n := by simpa using hr.qn
    have h' := h
    simp only [pfOk, Bool.and_eq_true, Bool.not_eq_true'] at h'
    obtain ⟨⟨h1, h2⟩, h3⟩ := h'
    have hb := flw_b (p := p) (f := (n : Int)) (by have := (fok_num8 h1).2.2.1; omega)
    have hat : flw p n = ((pfAt F p : Nat) : Int) := by rw [pfAt, hfn]; omega
    have hlt : pfAt F p < F.length := by omega
    have hk : F[pfAt F p]? = some F[pfAt F p] := List.getElem?_eq_getElem hlt
    have hrow := rowF_of hk
    have hle : ((rowF F (pfAt F p)).length : Int) ≤ li := by
      have := (flowR_iff.1 ((fok_iff.1 h1).2.1 _ hlt)).1
      exact this
    rcases hc : pfIn li F p with _ | _
    · have := of_decide_eq_false hc
      have hh := specPf_no p (pfAt F p) _ qu li A n cap B m capd nx op F D w hr hn hm h1 h2 h3 hat hk (by rw [← hrow]; omega)
      simpa [ifz, ifG, pfG, hc] using hh
    · have := of_decide_eq_true hc
      have hh := specPf_yes p (pfAt F p) _ qu li A n cap B m capd nx op F D w hr hn hm h1 h2 h3 hat hk (by rw [← hrow]; omega)
      simpa [ifz, ifG, pfG, hc, hrow] using hh
theorem implPutFair_any (p : Pk) (qu li : Int) (A : Option Addr) (n cap : Nat) (B : Option Addr) (m capd : Nat) (nx : Int) (op : Bool) (F : List (List Pk)) (D : List Int) (w : World) (hr : FRow w ⟨A, n, cap, B, m, capd⟩ (F.map fl) D) (hn : n ≤ 1048576) (hm : m ≤ 1048576) :
    Calls Try.prog 47 #[.agg #[.int .i64 qu, .int .i64 li, .slice A n cap, .slice B m capd, .int .i64 nx, .bool op], .agg #[.int .i64 (p.id), .int .i64 (p.so), .int .i64 (p.de), .int .i64 (p.po), .int .i64 (p.ma), .int .i64 (p.si)]] w (PfP w qu li F D nx op p) := by
  unfold PfP
  rcases h : pfOk qu li F D nx op p with _ | _
  · exact implPf_bad p qu li A n cap B m capd nx op F D w hr hn hm h
  · have hfn : F.length = n := by simpa using hr.qn
    have h' := h
    simp only [pfOk, Bool.and_eq_true, Bool.not_eq_true'] at h'
    obtain ⟨⟨h1, h2⟩, h3⟩ := h'
    have hb := flw_b (p := p) (f := (n : Int)) (by have := (fok_num8 h1).2.2.1; omega)
    have hat : flw p n = ((pfAt F p : Nat) : Int) := by rw [pfAt, hfn]; omega
    have hlt : pfAt F p < F.length := by omega
    have hk : F[pfAt F p]? = some F[pfAt F p] := List.getElem?_eq_getElem hlt
    have hrow := rowF_of hk
    have hle : ((rowF F (pfAt F p)).length : Int) ≤ li := by
      have := (flowR_iff.1 ((fok_iff.1 h1).2.1 _ hlt)).1
      exact this
    rcases hc : pfIn li F p with _ | _
    · have := of_decide_eq_false hc
      have hh := implPf_no p (pfAt F p) _ qu li A n cap B m capd nx op F D w hr hn hm h1 h2 h3 hat hk (by rw [← hrow]; omega)
      simpa [ifz, ifG, pfG, hc] using hh
    · have := of_decide_eq_true hc
      have hh := implPf_yes p (pfAt F p) _ qu li A n cap B m capd nx op F D w hr hn hm h1 h2 h3 hat hk (by rw [← hrow]; omega)
      simpa [ifz, ifG, pfG, hc, hrow] using hh
theorem gsum_set_le : ∀ (G : List (List Int)) (i : Nat) (l : List Int), gsum (G.set i l) ≤ gsum G + l.length
  | [], _, _ => by simp [gsum]
  | a :: G, 0, l => by simp [gsum]; omega
  | a :: G, i + 1, l => by
    have := gsum_set_le G i l
    simp [gsum] at this ⊢
    omega
theorem pfG_gsum (li : Int) (F : List (List Pk)) (p : Pk) : gsum (pfG li F p) ≤ 2 * gsum (F.map fl) + 6 := by
  unfold pfG
  split
  · refine Nat.le_trans (gsum_set_le _ _ _) ?_
    rw [fl_len, List.length_append]
    rcases h : F[pfAt F p]? with _ | L
    · simp [rowF, h]
      omega
    · rw [rowF_of h]
      have h1 : (F.map fl)[pfAt F p]? = some (fl L) := by simp [h]
      have h2 := gsum_mem h1
      rw [fl_len] at h2
      simp
      omega
  · omega
theorem pfG_len (li : Int) (F : List (List Pk)) (p : Pk) : (pfG li F p).length = F.length := by
  unfold pfG
  split <;> simp
theorem ifG_gsum (ok : Bool) (G : List (List Int)) : gsum (ifG ok G) ≤ gsum G := by
  unfold ifG
  split
  · exact Nat.le_refl _
  · simp [gsum]
/-! ### Regions that hold a scheduler's box -/
theorem ownF_ex {w : World} {lo hi : Nat} {M : Fm} {G : List (List Int)} {D : List Int} (h : FOwn w lo hi M G D) (hs : lo ≤ hi) : ∃ lo' hi', lo ≤ lo' ∧ (hi' ≤ hi ∧ lo' ≤ hi') ∧ FOwn w lo' hi' M G D := ⟨lo, hi, Nat.le_refl _, ⟨Nat.le_refl _, hs⟩, h⟩
/-- What a region leaves whose result went into a box of its own: the box, old memory, the scheduler that was owned. -/
structure FinF (w1 W W' : World) (B T : Nat) (cs : Array Value) : Prop where
  le : w1.heap.size ≤ B
  bk : Bk W' B T cs
  below : Below w1.heap.size w1 W'
  size : W.heap.size ≤ W'.heap.size
  own : ∀ {lo hi : Nat} {M : Fm} {G : List (List Int)} {D : List Int}, FOwn W lo hi M G D → (B < lo ∨ hi ≤ B) → FOwn W' lo hi M G D
theorem FinF.new {w1 W : World} {T : Nat} {cs : Array Value} (hb : Below w1.heap.size w1 W) : FinF w1 W (W.alloc (.cells cs T)) W.heap.size T cs :=
  ⟨hb.size, Bk.new _ _ _, ba hb _, by simp, fun h _ => h.alloc _⟩
theorem FinF.old6 {w1 W : World} {B T : Nat} {u0 u1 u2 u3 u4 u5 z0 z1 z2 z3 z4 z5 : Value} (hB : w1.heap.size ≤ B) (hz : Bk W B T #[z0, z1, z2, z3, z4, z5]) (hb : Below w1.heap.size w1 W) :
    FinF w1 W ((((((W.setCell ⟨B, 0, none⟩ u0).setCell ⟨B, 1, none⟩ u1).setCell ⟨B, 2, none⟩ u2).setCell ⟨B, 3, none⟩ u3).setCell ⟨B, 4, none⟩ u4).setCell ⟨B, 5, none⟩ u5) B T #[u0, u1, u2, u3, u4, u5] := by
  refine ⟨hB, ?_, (bsB (o := 5) (u := u5) (bsB (o := 4) (u := u4) (bsB (o := 3) (u := u3) (bsB (o := 2) (u := u2) (bsB (o := 1) (u := u1) (bsB (o := 0) (u := u0) hb hB) hB) hB) hB) hB) hB), ?_, fun h hp => ((((((h.farC (o := 0) (u := u0) hp).farC (o := 1) (u := u1) hp).farC (o := 2) (u := u2) hp).farC (o := 3) (u := u3) hp).farC (o := 4) (u := u4) hp).farC (o := 5) (u := u5) hp)⟩
  · have h := ((((((hz.set 0 u0).set 1 u1).set 2 u2).set 3 u3).set 4 u4).set 5 u5)
    simpa using h
  · simp only [setCell_size]
    exact Nat.le_refl _
section
variable {w1 W W' : World} {B T : Nat} {cs : Array Value} {lo hi : Nat} {M : Fm} {G : List (List Int)} {D : List Int}
theorem FinF.close1 (h : FinF w1 W W' B T cs) (ho : FOwn W lo hi M G D) (h1 : w1.heap.size ≤ lo) (h2 : hi ≤ W.heap.size) (h3 : (B < lo ∨ hi ≤ B) ∧ lo ≤ hi) :
    (w1.heap.size ≤ B ∧ Bk W' B T cs) ∧ FOwn W' lo hi M G D ∧ (w1.heap.size ≤ lo ∧ hi ≤ W'.heap.size ∧ ((B < lo ∨ hi ≤ B) ∧ lo ≤ hi)) ∧ Below w1.heap.size w1 W' :=
  ⟨⟨h.le, h.bk⟩, h.own ho h3.1, ⟨h1, Nat.le_trans h2 h.size, h3⟩, h.below⟩
end
end Go.Proofs.Ytgdldmeeaejjpaa
