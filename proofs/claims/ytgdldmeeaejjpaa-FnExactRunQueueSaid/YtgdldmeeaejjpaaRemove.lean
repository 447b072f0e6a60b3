/- The contracts of RemoveFlow. -/
import Derived.Test.YtgdldmeeaejjpaaApart
import Derived.Test.YtgdldmeeaejjpaaAppendD
import Derived.Test.YtgdldmeeaejjpaaPdSpec
import Derived.Test.YtgdldmeeaejjpaaPdImpl
import Derived.Deep.RegionHeld3
namespace Go.Proofs.Ytgdldmeeaejjpaa
open Go.ChangeShapes Go.WideShapes Go.ChangeAt Go.RowKit
set_option linter.unusedVariables false
/-- append of one packet: the row stays in its range or lies in a new block. -/
theorem append_pkD {w : World} {ops : Array Oper} {rest : List Oper} {o : Oper} {a : Act} {Q : Exit → Act → World → Prop} (hgd : o.guard = none) (sO x : Operand)
    (ho : o.op = .call { callee := .builtin .append, args := #[sO, x], argTypes := #[28, 28] }) {lo hh : Nat} {A : Option Addr} {n cap : Nat} {L : List Pk} (hs : a.eval sO = .slice A n cap) (hown : IOwn w lo hh 35 6 A n cap (fl L))
    (g : Nat) (p : Pk) (hx : a.eval x = .slice (some ⟨g, 0, none⟩) 1 1) (hb : Bk w g 35 #[.int .i64 p.id, .int .i64 p.so, .int .i64 p.de, .int .i64 p.po, .int .i64 p.ma, .int .i64 p.si]) (hn : n ≤ 1099511627776) (hlo : lo ≤ w.heap.size)
    (h : ∀ A' cap' w' lo' hi', (lo' = lo ∧ hi' = hh ∨ lo' = w.heap.size ∧ hi' = w'.heap.size) → IOwn w' lo' hi' 35 6 A' (n + 1) cap' (fl (L ++ [p])) → Chg lo hh w w' → wpList Try.prog ops Q rest (a.put o.dst (.slice A' (n + 1) cap')) w') : wpList Try.prog ops Q (o :: rest) a w := by
  obtain ⟨i0, hi, hz0, hz1, hz2⟩ := info_parts tPacket
  refine append_rowD hgd sO x 28 ho 35 i0 _ 6 48 Try.underlying28 hi hz0 hz1 hz2 rfl (by decide) hs hown g [p.id, p.so, p.de, p.po, p.ma, p.si] hx rfl ?_ hn (by omega) hlo (by rw [← fl_snoc]; exact h)
  intro j hj
  obtain rfl | rfl | rfl | rfl | rfl | rfl : j = 0 ∨ j = 1 ∨ j = 2 ∨ j = 3 ∨ j = 4 ∨ j = 5 := by omega
  · exact hb.cell 0
  · exact hb.cell 1
  · exact hb.cell 2
  · exact hb.cell 3
  · exact hb.cell 4
  · exact hb.cell 5
theorem append_intD {w : World} {ops : Array Oper} {rest : List Oper} {o : Oper} {a : Act} {Q : Exit → Act → World → Prop} (hgd : o.guard = none) (sO x : Operand)
    (ho : o.op = .call { callee := .builtin .append, args := #[sO, x], argTypes := #[31, 31] }) {lo hh : Nat} {A : Option Addr} {n cap : Nat} {l : List Int} (hs : a.eval sO = .slice A n cap) (hown : IOwn w lo hh 3 1 A n cap l)
    (g : Nat) (v : Int) (hx : a.eval x = .slice (some ⟨g, 0, none⟩) 1 1) (hc : w.cell? ⟨g, 0, none⟩ = some (.int .i64 v)) (hn : n ≤ 1099511627776) (hlo : lo ≤ w.heap.size)
    (h : ∀ A' cap' w' lo' hi', (lo' = lo ∧ hi' = hh ∨ lo' = w.heap.size ∧ hi' = w'.heap.size) → IOwn w' lo' hi' 3 1 A' (n + 1) cap' (l ++ [v]) → Chg lo hh w w' → wpList Try.prog ops Q rest (a.put o.dst (.slice A' (n + 1) cap')) w') : wpList Try.prog ops Q (o :: rest) a w := by
  obtain ⟨i0, hi, hz0, hz1, hz2⟩ := info_parts tinfo
  refine append_rowD hgd sO x 31 ho 3 i0 (.int .i64 0) 1 8 Try.underlying31 hi hz0 hz1 hz2 rfl (by decide) hs hown g [v] hx rfl ?_ hn (by omega) hlo h
  intro j hj
  obtain rfl : j = 0 := by omega
  exact hc
theorem implSameFlow_b {b : Bool} {x p : Pk} (h : smf x p = b) (w : World) :
    Calls Try.prog 79 #[.agg #[.int .i64 (x.id), .int .i64 (x.so), .int .i64 (x.de), .int .i64 (x.po), .int .i64 (x.ma), .int .i64 (x.si)], .agg #[.int .i64 (p.id), .int .i64 (p.so), .int .i64 (p.de), .int .i64 (p.po), .int .i64 (p.ma), .int .i64 (p.si)]] w fun e w' => e = .returned (.bool b) ∧ Below w.heap.size w w' := by
  subst h
  go_enter Try.func79, Try.ntmps79
  go_wp2_with fail
  all_goals
    go_ret
    exact ⟨ret_b (by rw [Bool.eq_iff_iff]; simp [smf]; try omega), (by repeat (first | (with_reducible exact b0 _) | (with_reducible refine ba ?_ _) | (with_reducible refine bd ?_ _) | (with_reducible refine Below.drew ?_) | (with_reducible refine bs ?_ (by first | exact Nat.le_refl _ | exact Nat.le_add_right _ _ | omega) _) | (with_reducible refine bt ?_ (by assumption))))⟩
theorem specSameFlow_b {b : Bool} {x p : Pk} (hx : x.ok = true) (hp : p.ok = true) (h : smf x p = b) (w : World) :
    Calls Try.prog 77 #[.agg #[.int .i64 (x.id), .int .i64 (x.so), .int .i64 (x.de), .int .i64 (x.po), .int .i64 (x.ma), .int .i64 (x.si)], .agg #[.int .i64 (p.id), .int .i64 (p.so), .int .i64 (p.de), .int .i64 (p.po), .int .i64 (p.ma), .int .i64 (p.si)]] w fun e w' => e = .returned (.tuple #[.bool b, .bool true]) ∧ Below w.heap.size w w' := by
  subst h
  have hp2 : smf x p = (decide (x.so = p.so) && (decide (x.de = p.de) && decide (x.po = p.po))) := by rw [Bool.eq_iff_iff]; simp [smf]
  have HP2 := Lib.hid hp2
  clear hp2
  by_cases h1 : x.so = p.so
  · by_cases h2 : x.de = p.de
    · have h1' : (x.so == p.so) = true := by simpa using h1
      have h2' : (x.de == p.de) = true := by simpa using h2
      have hR := Lib.hid (show smf x p = (x.po == p.po) by rw [HP2.out, decide_eq_true h1, decide_eq_true h2, Bool.true_and, Bool.true_and]; rfl)
      clear h1 h2
      go_enter Try.func77, Try.ntmps77
      go_wp2_with (first | (go_at_call 62; (with_reducible refine (pkGood_b hx _).mono ?_); rintro e w1 ⟨rfl, hg⟩; have zhg := hg.size; (try simp at zhg); have c0hg := fun o => bkeep hg (w.heap.size) o (by first | omega | (simp; done) | (simp; omega)); have f0hg := fun o => bfree hg (w.heap.size) o (by first | omega | (simp; done) | (simp; omega)); have c1hg := fun o => bkeep hg (w.heap.size + 1) o (by first | omega | (simp; done) | (simp; omega)); have f1hg := fun o => bfree hg (w.heap.size + 1) o (by first | omega | (simp; done) | (simp; omega))) | (go_at_call 62; (with_reducible refine (pkGood_b hp _).mono ?_); rintro e w2 ⟨rfl, hg2⟩; have zhg2 := hg2.size; (try simp at zhg2); have c0hg2 := fun o => bkeep hg2 (w.heap.size) o (by first | omega | (simp; done) | (simp; omega)); have f0hg2 := fun o => bfree hg2 (w.heap.size) o (by first | omega | (simp; done) | (simp; omega)); have c1hg2 := fun o => bkeep hg2 (w.heap.size + 1) o (by first | omega | (simp; done) | (simp; omega)); have f1hg2 := fun o => bfree hg2 (w.heap.size + 1) o (by first | omega | (simp; done) | (simp; omega))))
      go_ret2
      exact ⟨by rw [hR.out]; rfl, (by repeat (first | (with_reducible exact b0 _) | (with_reducible refine ba ?_ _) | (with_reducible refine bd ?_ _) | (with_reducible refine Below.drew ?_) | (with_reducible refine bs ?_ (by first | exact Nat.le_refl _ | exact Nat.le_add_right _ _ | omega) _) | (with_reducible refine bt ?_ (by assumption))))⟩
    · have h1' : (x.so == p.so) = true := by simpa using h1
      have h2' : (x.de == p.de) = false := by simpa using h2
      have hR := Lib.hid (show smf x p = false by rw [HP2.out, decide_eq_false h2, Bool.false_and, Bool.and_false])
      clear h1 h2
      go_enter Try.func77, Try.ntmps77
      go_wp2_with (first | (go_at_call 62; (with_reducible refine (pkGood_b hx _).mono ?_); rintro e w1 ⟨rfl, hg⟩; have zhg := hg.size; (try simp at zhg); have c0hg := fun o => bkeep hg (w.heap.size) o (by first | omega | (simp; done) | (simp; omega)); have f0hg := fun o => bfree hg (w.heap.size) o (by first | omega | (simp; done) | (simp; omega)); have c1hg := fun o => bkeep hg (w.heap.size + 1) o (by first | omega | (simp; done) | (simp; omega)); have f1hg := fun o => bfree hg (w.heap.size + 1) o (by first | omega | (simp; done) | (simp; omega))) | (go_at_call 62; (with_reducible refine (pkGood_b hp _).mono ?_); rintro e w2 ⟨rfl, hg2⟩; have zhg2 := hg2.size; (try simp at zhg2); have c0hg2 := fun o => bkeep hg2 (w.heap.size) o (by first | omega | (simp; done) | (simp; omega)); have f0hg2 := fun o => bfree hg2 (w.heap.size) o (by first | omega | (simp; done) | (simp; omega)); have c1hg2 := fun o => bkeep hg2 (w.heap.size + 1) o (by first | omega | (simp; done) | (simp; omega)); have f1hg2 := fun o => bfree hg2 (w.heap.size + 1) o (by first | omega | (simp; done) | (simp; omega))))
      go_ret2
      exact ⟨by rw [hR.out]; rfl, (by repeat (first | (with_reducible exact b0 _) | (with_reducible refine ba ?_ _) | (with_reducible refine bd ?_ _) | (with_reducible refine Below.drew ?_) | (with_reducible refine bs ?_ (by first | exact Nat.le_refl _ | exact Nat.le_add_right _ _ | omega) _) | (with_reducible refine bt ?_ (by assumption))))⟩
  · have h1' : (x.so == p.so) = false := by simpa using h1
    have hR := Lib.hid (show smf x p = false by rw [HP2.out, decide_eq_false h1, Bool.false_and])
    clear h1
    go_enter Try.func77, Try.ntmps77
    go_wp2_with (first | (go_at_call 62; (with_reducible refine (pkGood_b hx _).mono ?_); rintro e w1 ⟨rfl, hg⟩; have zhg := hg.size; (try simp at zhg); have c0hg := fun o => bkeep hg (w.heap.size) o (by first | omega | (simp; done) | (simp; omega)); have f0hg := fun o => bfree hg (w.heap.size) o (by first | omega | (simp; done) | (simp; omega)); have c1hg := fun o => bkeep hg (w.heap.size + 1) o (by first | omega | (simp; done) | (simp; omega)); have f1hg := fun o => bfree hg (w.heap.size + 1) o (by first | omega | (simp; done) | (simp; omega))) | (go_at_call 62; (with_reducible refine (pkGood_b hp _).mono ?_); rintro e w2 ⟨rfl, hg2⟩; have zhg2 := hg2.size; (try simp at zhg2); have c0hg2 := fun o => bkeep hg2 (w.heap.size) o (by first | omega | (simp; done) | (simp; omega)); have f0hg2 := fun o => bfree hg2 (w.heap.size) o (by first | omega | (simp; done) | (simp; omega)); have c1hg2 := fun o => bkeep hg2 (w.heap.size + 1) o (by first | omega | (simp; done) | (simp; omega)); have f1hg2 := fun o => bfree hg2 (w.heap.size + 1) o (by first | omega | (simp; done) | (simp; omega))))
    go_ret2
    exact ⟨by rw [hR.out]; rfl, (by repeat (first | (with_reducible exact b0 _) | (with_reducible refine ba ?_ _) | (with_reducible refine bd ?_ _) | (with_reducible refine Below.drew ?_) | (with_reducible refine bs ?_ (by first | exact Nat.le_refl _ | exact Nat.le_add_right _ _ | omega) _) | (with_reducible refine bt ?_ (by assumption))))⟩
def RfP (w : World) (li by_ : Int) (L : List Pk) (se dr : Int) (p : Pk) : Ending → World → Prop :=
  NewQI w (ifz (rfOk li by_ L se dr p) li) (ifz (rfOk li by_ L se dr p) by_) (ifL (rfOk li by_ L se dr p) (rfK L p)).length (ifL (rfOk li by_ L se dr p) (rfK L p)) (ifz (rfOk li by_ L se dr p) se) (ifz (rfOk li by_ L se dr p) (dr + ((rfG L p).length : Int))) (ifl (rfOk li by_ L se dr p) ((rfG L p).map Pk.id)) (rfOk li by_ L se dr p)
theorem RfP_no {w : World} {li by_ : Int} {L : List Pk} {se dr : Int} {p : Pk} (h : rfOk li by_ L se dr p = false) : RfP w li by_ L se dr p = NewQI w 0 0 0 [] 0 0 [] false := by simp [RfP, h, ifz, ifL, ifl]
theorem RfP_yes {w : World} {li by_ : Int} {L : List Pk} {se dr : Int} {p : Pk} (h : rfOk li by_ L se dr p = true) : RfP w li by_ L se dr p = NewQI w li by_ (rfK L p).length (rfK L p) se (dr + ((rfG L p).length : Int)) ((rfG L p).map Pk.id) true := by simp [RfP, h, ifz, ifL, ifl]
theorem rf_len (ok : Bool) (L : List Pk) (p : Pk) : (ifL ok (rfK L p)).length ≤ L.length + 1 := by
  unfold ifL
  have := rfK_len L p
  split
  · omega
  · simp
theorem rfI_len (ok : Bool) (L : List Pk) (p : Pk) : (ifl ok ((rfG L p).map Pk.id)).length ≤ L.length + 1 := by
  unfold ifl
  have := rfG_len L p
  split
  · simp
    omega
  · simp
set_option maxHeartbeats 1000000 in
theorem specRf_bad (li by_ : Int) (A : Option Addr) (n cap : Nat) (se dr : Int) (L : List Pk) (p : Pk) (w : World) (hl : L.length = n) (hr : IRow w A (fl L)) (hn : n ≤ 1048576) (hcap : n ≤ cap) (hA : A = none → cap = 0) (h : qok li by_ L se dr = false) :
    Calls Try.prog 34 #[.agg #[.int .i64 li, .int .i64 by_, .slice A n cap, .int .i64 se, .int .i64 dr], .agg #[.int .i64 (p.id), .int .i64 (p.so), .int .i64 (p.de), .int .i64 (p.po), .int .i64 (p.ma), .int .i64 (p.si)]] w (RfP w li by_ L se dr p) := by
  rw [RfP_no (show rfOk li by_ L se dr p = false by simp [rfOk, h])]
  have HL := Lib.hid hl
  have HQ := Lib.hid h
  have HR_a := Lib.hid hr
  clear hl hr h hA
  go_enter Try.func34, Try.ntmps34
  go_wp2_with fail
  refine (quGood_b _ _ _ _ _ _ _ L _ HL.out (HR_a.out.below (ba (ba (ba (b0 w) _) _) _)) (by omega) hcap HQ.out).mono ?_
  rintro e w1 ⟨rfl, hb1⟩
  have z1 := hb1.size
  (try simp at z1)
  have HK_q_1 : Hid (Bk w1 (w.heap.size) 30 #[.int .i64 li, .int .i64 by_, .slice A n cap, .int .i64 se, .int .i64 dr]) := Lib.hid ((((Bk.new_ (by simp) : Bk _ (w.heap.size) 30 #[.int .i64 li, .int .i64 by_, .slice A n cap, .int .i64 se, .int .i64 dr]).alloc _).alloc _).old hb1)
  have zb_q : w.heap.size < w1.heap.size := HK_q_1.out.lt
  have cb_q_0 : w1.cell? ⟨w.heap.size, 0, none⟩ = some (.int .i64 li) := HK_q_1.out.cell 0
  have cb_q_1 : w1.cell? ⟨w.heap.size, 1, none⟩ = some (.int .i64 by_) := HK_q_1.out.cell 1
  have cb_q_2 : w1.cell? ⟨w.heap.size, 2, none⟩ = some (.slice A n cap) := HK_q_1.out.cell 2
  have cb_q_3 : w1.cell? ⟨w.heap.size, 3, none⟩ = some (.int .i64 se) := HK_q_1.out.cell 3
  have cb_q_4 : w1.cell? ⟨w.heap.size, 4, none⟩ = some (.int .i64 dr) := HK_q_1.out.cell 4
  have HK_p_1 : Hid (Bk w1 (w.heap.size + 1) 35 #[.int .i64 p.id, .int .i64 p.so, .int .i64 p.de, .int .i64 p.po, .int .i64 p.ma, .int .i64 p.si]) := Lib.hid (((Bk.new_ (by simp) : Bk _ (w.heap.size + 1) 35 #[.int .i64 p.id, .int .i64 p.so, .int .i64 p.de, .int .i64 p.po, .int .i64 p.ma, .int .i64 p.si]).alloc _).old hb1)
  have zb_p : w.heap.size + 1 < w1.heap.size := HK_p_1.out.lt
  have cb_p_0 : w1.cell? ⟨w.heap.size + 1, 0, none⟩ = some (.int .i64 p.id) := HK_p_1.out.cell 0
  have cb_p_1 : w1.cell? ⟨w.heap.size + 1, 1, none⟩ = some (.int .i64 p.so) := HK_p_1.out.cell 1
  have cb_p_2 : w1.cell? ⟨w.heap.size + 1, 2, none⟩ = some (.int .i64 p.de) := HK_p_1.out.cell 2
  have cb_p_3 : w1.cell? ⟨w.heap.size + 1, 3, none⟩ = some (.int .i64 p.po) := HK_p_1.out.cell 3
  have cb_p_4 : w1.cell? ⟨w.heap.size + 1, 4, none⟩ = some (.int .i64 p.ma) := HK_p_1.out.cell 4
  have cb_p_5 : w1.cell? ⟨w.heap.size + 1, 5, none⟩ = some (.int .i64 p.si) := HK_p_1.out.cell 5
  have HK_r_1 : Hid (Bk w1 (w.heap.size + 1 + 1) 30 #[.int .i64 0, .int .i64 0, .slice none 0 0, .int .i64 0, .int .i64 0]) := Lib.hid ((Bk.new_ (by simp) : Bk _ (w.heap.size + 1 + 1) 30 #[.int .i64 0, .int .i64 0, .slice none 0 0, .int .i64 0, .int .i64 0]).old hb1)
  have zb_r : w.heap.size + 1 + 1 < w1.heap.size := HK_r_1.out.lt
  have cb_r_0 : w1.cell? ⟨w.heap.size + 1 + 1, 0, none⟩ = some (.int .i64 0) := HK_r_1.out.cell 0
  have cb_r_1 : w1.cell? ⟨w.heap.size + 1 + 1, 1, none⟩ = some (.int .i64 0) := HK_r_1.out.cell 1
  have cb_r_2 : w1.cell? ⟨w.heap.size + 1 + 1, 2, none⟩ = some (.slice none 0 0) := HK_r_1.out.cell 2
  have cb_r_3 : w1.cell? ⟨w.heap.size + 1 + 1, 3, none⟩ = some (.int .i64 0) := HK_r_1.out.cell 3
  have cb_r_4 : w1.cell? ⟨w.heap.size + 1 + 1, 4, none⟩ = some (.int .i64 0) := HK_r_1.out.cell 4
  have HB_1 := Lib.hid (bt (ba (ba (ba (b0 w) _) _) _) hb1)
  clear hb1
  have rf := HK_r_1.out.free
  go_wp2_with fail
  exact bodyPost_ret (v := .tuple #[.agg #[.int .i64 0, .int .i64 0, .slice none 0 0, .int .i64 0, .int .i64 0], .slice none 0 0, .bool false]) (by simp [results, Try.results34, go_sem, cb_r_0, cb_r_1, cb_r_2, cb_r_3, cb_r_4]) rfl (NewQI.none_ rfl (by repeat (first | (with_reducible exact HB_1.out) | (with_reducible refine ba ?_ _) | (with_reducible refine bsB ?_ (by omega)) | (with_reducible refine bd ?_ _) | (with_reducible refine Below.drew ?_))))
set_option maxHeartbeats 1000000 in
theorem specRf_badp (li by_ : Int) (A : Option Addr) (n cap : Nat) (se dr : Int) (L : List Pk) (p : Pk) (w : World) (hl : L.length = n) (hr : IRow w A (fl L)) (hn : n ≤ 1048576) (hcap : n ≤ cap) (hA : A = none → cap = 0) (h : qok li by_ L se dr = true) (hp : p.ok = false) :
    Calls Try.prog 34 #[.agg #[.int .i64 li, .int .i64 by_, .slice A n cap, .int .i64 se, .int .i64 dr], .agg #[.int .i64 (p.id), .int .i64 (p.so), .int .i64 (p.de), .int .i64 (p.po), .int .i64 (p.ma), .int .i64 (p.si)]] w (RfP w li by_ L se dr p) := by
  rw [RfP_no (show rfOk li by_ L se dr p = false by simp [rfOk, hp])]
  have HL := Lib.hid hl
  have HQ := Lib.hid h
  have HR_a := Lib.hid hr
  clear hl hr h hA
  go_enter Try.func34, Try.ntmps34
  go_wp2_with fail
  refine (quGood_b _ _ _ _ _ _ _ L _ HL.out (HR_a.out.below (ba (ba (ba (b0 w) _) _) _)) (by omega) hcap HQ.out).mono ?_
  rintro e w1 ⟨rfl, hb1⟩
  have z1 := hb1.size
  (try simp at z1)
  have HK_q_1 : Hid (Bk w1 (w.heap.size) 30 #[.int .i64 li, .int .i64 by_, .slice A n cap, .int .i64 se, .int .i64 dr]) := Lib.hid ((((Bk.new_ (by simp) : Bk _ (w.heap.size) 30 #[.int .i64 li, .int .i64 by_, .slice A n cap, .int .i64 se, .int .i64 dr]).alloc _).alloc _).old hb1)
  have zb_q : w.heap.size < w1.heap.size := HK_q_1.out.lt
  have cb_q_0 : w1.cell? ⟨w.heap.size, 0, none⟩ = some (.int .i64 li) := HK_q_1.out.cell 0
  have cb_q_1 : w1.cell? ⟨w.heap.size, 1, none⟩ = some (.int .i64 by_) := HK_q_1.out.cell 1
  have cb_q_2 : w1.cell? ⟨w.heap.size, 2, none⟩ = some (.slice A n cap) := HK_q_1.out.cell 2
  have cb_q_3 : w1.cell? ⟨w.heap.size, 3, none⟩ = some (.int .i64 se) := HK_q_1.out.cell 3
  have cb_q_4 : w1.cell? ⟨w.heap.size, 4, none⟩ = some (.int .i64 dr) := HK_q_1.out.cell 4
  have HK_p_1 : Hid (Bk w1 (w.heap.size + 1) 35 #[.int .i64 p.id, .int .i64 p.so, .int .i64 p.de, .int .i64 p.po, .int .i64 p.ma, .int .i64 p.si]) := Lib.hid (((Bk.new_ (by simp) : Bk _ (w.heap.size + 1) 35 #[.int .i64 p.id, .int .i64 p.so, .int .i64 p.de, .int .i64 p.po, .int .i64 p.ma, .int .i64 p.si]).alloc _).old hb1)
  have zb_p : w.heap.size + 1 < w1.heap.size := HK_p_1.out.lt
  have cb_p_0 : w1.cell? ⟨w.heap.size + 1, 0, none⟩ = some (.int .i64 p.id) := HK_p_1.out.cell 0
  have cb_p_1 : w1.cell? ⟨w.heap.size + 1, 1, none⟩ = some (.int .i64 p.so) := HK_p_1.out.cell 1
  have cb_p_2 : w1.cell? ⟨w.heap.size + 1, 2, none⟩ = some (.int .i64 p.de) := HK_p_1.out.cell 2
  have cb_p_3 : w1.cell? ⟨w.heap.size + 1, 3, none⟩ = some (.int .i64 p.po) := HK_p_1.out.cell 3
  have cb_p_4 : w1.cell? ⟨w.heap.size + 1, 4, none⟩ = some (.int .i64 p.ma) := HK_p_1.out.cell 4
  have cb_p_5 : w1.cell? ⟨w.heap.size + 1, 5, none⟩ = some (.int .i64 p.si) := HK_p_1.out.cell 5
  have HK_r_1 : Hid (Bk w1 (w.heap.size + 1 + 1) 30 #[.int .i64 0, .int .i64 0, .slice none 0 0, .int .i64 0, .int .i64 0]) := Lib.hid ((Bk.new_ (by simp) : Bk _ (w.heap.size + 1 + 1) 30 #[.int .i64 0, .int .i64 0, .slice none 0 0, .int .i64 0, .int .i64 0]).old hb1)
  have zb_r : w.heap.size + 1 + 1 < w1.heap.size := HK_r_1.out.lt
  have cb_r_0 : w1.cell? ⟨w.heap.size + 1 + 1, 0, none⟩ = some (.int .i64 0) := HK_r_1.out.cell 0
  have cb_r_1 : w1.cell? ⟨w.heap.size + 1 + 1, 1, none⟩ = some (.int .i64 0) := HK_r_1.out.cell 1
  have cb_r_2 : w1.cell? ⟨w.heap.size + 1 + 1, 2, none⟩ = some (.slice none 0 0) := HK_r_1.out.cell 2
  have cb_r_3 : w1.cell? ⟨w.heap.size + 1 + 1, 3, none⟩ = some (.int .i64 0) := HK_r_1.out.cell 3
  have cb_r_4 : w1.cell? ⟨w.heap.size + 1 + 1, 4, none⟩ = some (.int .i64 0) := HK_r_1.out.cell 4
  have HB_1 := Lib.hid (bt (ba (ba (ba (b0 w) _) _) _) hb1)
  clear hb1
  go_wp2_with fail
  refine (pkGood_b hp _).mono ?_
  rintro e w2 ⟨rfl, hb2⟩
  have z2 := hb2.size
  (try simp at z2)
  have HK_q_2 : Hid (Bk w2 (w.heap.size) 30 #[.int .i64 li, .int .i64 by_, .slice A n cap, .int .i64 se, .int .i64 dr]) := Lib.hid (HK_q_1.out.old hb2)
  clear HK_q_1
  clear cb_q_0 cb_q_1 cb_q_2 cb_q_3 cb_q_4 zb_q
  have zb_q : w.heap.size < w2.heap.size := HK_q_2.out.lt
  have cb_q_0 : w2.cell? ⟨w.heap.size, 0, none⟩ = some (.int .i64 li) := HK_q_2.out.cell 0
  have cb_q_1 : w2.cell? ⟨w.heap.size, 1, none⟩ = some (.int .i64 by_) := HK_q_2.out.cell 1
  have cb_q_2 : w2.cell? ⟨w.heap.size, 2, none⟩ = some (.slice A n cap) := HK_q_2.out.cell 2
  have cb_q_3 : w2.cell? ⟨w.heap.size, 3, none⟩ = some (.int .i64 se) := HK_q_2.out.cell 3
  have cb_q_4 : w2.cell? ⟨w.heap.size, 4, none⟩ = some (.int .i64 dr) := HK_q_2.out.cell 4
  have HK_p_2 : Hid (Bk w2 (w.heap.size + 1) 35 #[.int .i64 p.id, .int .i64 p.so, .int .i64 p.de, .int .i64 p.po, .int .i64 p.ma, .int .i64 p.si]) := Lib.hid (HK_p_1.out.old hb2)
  clear HK_p_1
  clear cb_p_0 cb_p_1 cb_p_2 cb_p_3 cb_p_4 cb_p_5 zb_p
  have zb_p : w.heap.size + 1 < w2.heap.size := HK_p_2.out.lt
  have cb_p_0 : w2.cell? ⟨w.heap.size + 1, 0, none⟩ = some (.int .i64 p.id) := HK_p_2.out.cell 0
  have cb_p_1 : w2.cell? ⟨w.heap.size + 1, 1, none⟩ = some (.int .i64 p.so) := HK_p_2.out.cell 1
  have cb_p_2 : w2.cell? ⟨w.heap.size + 1, 2, none⟩ = some (.int .i64 p.de) := HK_p_2.out.cell 2
  have cb_p_3 : w2.cell? ⟨w.heap.size + 1, 3, none⟩ = some (.int .i64 p.po) := HK_p_2.out.cell 3
  have cb_p_4 : w2.cell? ⟨w.heap.size + 1, 4, none⟩ = some (.int .i64 p.ma) := HK_p_2.out.cell 4
  have cb_p_5 : w2.cell? ⟨w.heap.size + 1, 5, none⟩ = some (.int .i64 p.si) := HK_p_2.out.cell 5
  have HK_r_2 : Hid (Bk w2 (w.heap.size + 1 + 1) 30 #[.int .i64 0, .int .i64 0, .slice none 0 0, .int .i64 0, .int .i64 0]) := Lib.hid (HK_r_1.out.old hb2)
  clear HK_r_1
  clear cb_r_0 cb_r_1 cb_r_2 cb_r_3 cb_r_4 zb_r
  have zb_r : w.heap.size + 1 + 1 < w2.heap.size := HK_r_2.out.lt
  have cb_r_0 : w2.cell? ⟨w.heap.size + 1 + 1, 0, none⟩ = some (.int .i64 0) := HK_r_2.out.cell 0
  have cb_r_1 : w2.cell? ⟨w.heap.size + 1 + 1, 1, none⟩ = some (.int .i64 0) := HK_r_2.out.cell 1
  have cb_r_2 : w2.cell? ⟨w.heap.size + 1 + 1, 2, none⟩ = some (.slice none 0 0) := HK_r_2.out.cell 2
  have cb_r_3 : w2.cell? ⟨w.heap.size + 1 + 1, 3, none⟩ = some (.int .i64 0) := HK_r_2.out.cell 3
  have cb_r_4 : w2.cell? ⟨w.heap.size + 1 + 1, 4, none⟩ = some (.int .i64 0) := HK_r_2.out.cell 4
  have HB_2 := Lib.hid (bt HB_1.out hb2)
  clear hb2
  have rf := HK_r_2.out.free
  go_wp2_with fail
  exact bodyPost_ret (v := .tuple #[.agg #[.int .i64 0, .int .i64 0, .slice none 0 0, .int .i64 0, .int .i64 0], .slice none 0 0, .bool false]) (by simp [results, Try.results34, go_sem, cb_r_0, cb_r_1, cb_r_2, cb_r_3, cb_r_4]) rfl (NewQI.none_ rfl (by repeat (first | (with_reducible exact HB_2.out) | (with_reducible refine ba ?_ _) | (with_reducible refine bsB ?_ (by omega)) | (with_reducible refine bd ?_ _) | (with_reducible refine Below.drew ?_))))
set_option maxHeartbeats 1000000 in
theorem implRf_bad (li by_ : Int) (A : Option Addr) (n cap : Nat) (se dr : Int) (L : List Pk) (p : Pk) (w : World) (hl : L.length = n) (hr : IRow w A (fl L)) (hn : n ≤ 1048576) (hcap : n ≤ cap) (hA : A = none → cap = 0) (h : qok li by_ L se dr = false) :
    Calls Try.prog 35 #[.agg #[.int .i64 li, .int .i64 by_, .slice A n cap, .int .i64 se, .int .i64 dr], .agg #[.int .i64 (p.id), .int .i64 (p.so), .int .i64 (p.de), .int .i64 (p.po), .int .i64 (p.ma), .int .i64 (p.si)]] w (RfP w li by_ L se dr p) := by
  rw [RfP_no (show rfOk li by_ L se dr p = false by simp [rfOk, h])]
  have HL := Lib.hid hl
  have HQ := Lib.hid h
  have HR_a := Lib.hid hr
  clear hl hr h hA
  go_enter Try.func35, Try.ntmps35
  go_wp2_with fail
  refine (isQueue_b _ _ _ _ _ _ _ L _ HL.out (HR_a.out.below (ba (ba (ba (b0 w) _) _) _)) (by omega) hcap HQ.out).mono ?_
  rintro e w1 ⟨rfl, hb1⟩
  have z1 := hb1.size
  (try simp at z1)
  have HK_q_1 : Hid (Bk w1 (w.heap.size) 30 #[.int .i64 li, .int .i64 by_, .slice A n cap, .int .i64 se, .int .i64 dr]) := Lib.hid ((((Bk.new_ (by simp) : Bk _ (w.heap.size) 30 #[.int .i64 li, .int .i64 by_, .slice A n cap, .int .i64 se, .int .i64 dr]).alloc _).alloc _).old hb1)
  have zb_q : w.heap.size < w1.heap.size := HK_q_1.out.lt
  have cb_q_0 : w1.cell? ⟨w.heap.size, 0, none⟩ = some (.int .i64 li) := HK_q_1.out.cell 0
  have cb_q_1 : w1.cell? ⟨w.heap.size, 1, none⟩ = some (.int .i64 by_) := HK_q_1.out.cell 1
  have cb_q_2 : w1.cell? ⟨w.heap.size, 2, none⟩ = some (.slice A n cap) := HK_q_1.out.cell 2
  have cb_q_3 : w1.cell? ⟨w.heap.size, 3, none⟩ = some (.int .i64 se) := HK_q_1.out.cell 3
  have cb_q_4 : w1.cell? ⟨w.heap.size, 4, none⟩ = some (.int .i64 dr) := HK_q_1.out.cell 4
  have HK_p_1 : Hid (Bk w1 (w.heap.size + 1) 35 #[.int .i64 p.id, .int .i64 p.so, .int .i64 p.de, .int .i64 p.po, .int .i64 p.ma, .int .i64 p.si]) := Lib.hid (((Bk.new_ (by simp) : Bk _ (w.heap.size + 1) 35 #[.int .i64 p.id, .int .i64 p.so, .int .i64 p.de, .int .i64 p.po, .int .i64 p.ma, .int .i64 p.si]).alloc _).old hb1)
  have zb_p : w.heap.size + 1 < w1.heap.size := HK_p_1.out.lt
  have cb_p_0 : w1.cell? ⟨w.heap.size + 1, 0, none⟩ = some (.int .i64 p.id) := HK_p_1.out.cell 0
  have cb_p_1 : w1.cell? ⟨w.heap.size + 1, 1, none⟩ = some (.int .i64 p.so) := HK_p_1.out.cell 1
  have cb_p_2 : w1.cell? ⟨w.heap.size + 1, 2, none⟩ = some (.int .i64 p.de) := HK_p_1.out.cell 2
  have cb_p_3 : w1.cell? ⟨w.heap.size + 1, 3, none⟩ = some (.int .i64 p.po) := HK_p_1.out.cell 3
  have cb_p_4 : w1.cell? ⟨w.heap.size + 1, 4, none⟩ = some (.int .i64 p.ma) := HK_p_1.out.cell 4
  have cb_p_5 : w1.cell? ⟨w.heap.size + 1, 5, none⟩ = some (.int .i64 p.si) := HK_p_1.out.cell 5
  have HK_r_1 : Hid (Bk w1 (w.heap.size + 1 + 1) 30 #[.int .i64 0, .int .i64 0, .slice none 0 0, .int .i64 0, .int .i64 0]) := Lib.hid ((Bk.new_ (by simp) : Bk _ (w.heap.size + 1 + 1) 30 #[.int .i64 0, .int .i64 0, .slice none 0 0, .int .i64 0, .int .i64 0]).old hb1)
  have zb_r : w.heap.size + 1 + 1 < w1.heap.size := HK_r_1.out.lt
  have cb_r_0 : w1.cell? ⟨w.heap.size + 1 + 1, 0, none⟩ = some (.int .i64 0) := HK_r_1.out.cell 0
  have cb_r_1 : w1.cell? ⟨w.heap.size + 1 + 1, 1, none⟩ = some (.int .i64 0) := HK_r_1.out.cell 1
  have cb_r_2 : w1.cell? ⟨w.heap.size + 1 + 1, 2, none⟩ = some (.slice none 0 0) := HK_r_1.out.cell 2
  have cb_r_3 : w1.cell? ⟨w.heap.size + 1 + 1, 3, none⟩ = some (.int .i64 0) := HK_r_1.out.cell 3
  have cb_r_4 : w1.cell? ⟨w.heap.size + 1 + 1, 4, none⟩ = some (.int .i64 0) := HK_r_1.out.cell 4
  have HB_1 := Lib.hid (bt (ba (ba (ba (b0 w) _) _) _) hb1)
  clear hb1
  have rf := HK_r_1.out.free
  go_wp2_with fail
  exact bodyPost_ret (v := .tuple #[.agg #[.int .i64 0, .int .i64 0, .slice none 0 0, .int .i64 0, .int .i64 0], .slice none 0 0, .bool false]) (by simp [results, Try.results35, go_sem, cb_r_0, cb_r_1, cb_r_2, cb_r_3, cb_r_4]) rfl (NewQI.none_ rfl (by repeat (first | (with_reducible exact HB_1.out) | (with_reducible refine ba ?_ _) | (with_reducible refine bsB ?_ (by omega)) | (with_reducible refine bd ?_ _) | (with_reducible refine Below.drew ?_))))
set_option maxHeartbeats 1000000 in
theorem implRf_badp (li by_ : Int) (A : Option Addr) (n cap : Nat) (se dr : Int) (L : List Pk) (p : Pk) (w : World) (hl : L.length = n) (hr : IRow w A (fl L)) (hn : n ≤ 1048576) (hcap : n ≤ cap) (hA : A = none → cap = 0) (h : qok li by_ L se dr = true) (hp : p.ok = false) :
    Calls Try.prog 35 #[.agg #[.int .i64 li, .int .i64 by_, .slice A n cap, .int .i64 se, .int .i64 dr], .agg #[.int .i64 (p.id), .int .i64 (p.so), .int .i64 (p.de), .int .i64 (p.po), .int .i64 (p.ma), .int .i64 (p.si)]] w (RfP w li by_ L se dr p) := by
  rw [RfP_no (show rfOk li by_ L se dr p = false by simp [rfOk, hp])]
  have HL := Lib.hid hl
  have HQ := Lib.hid h
  have HR_a := Lib.hid hr
  clear hl hr h hA
  go_enter Try.func35, Try.ntmps35
  go_wp2_with fail
  refine (isQueue_b _ _ _ _ _ _ _ L _ HL.out (HR_a.out.below (ba (ba (ba (b0 w) _) _) _)) (by omega) hcap HQ.out).mono ?_
  rintro e w1 ⟨rfl, hb1⟩
  have z1 := hb1.size
  (try simp at z1)
  have HK_q_1 : Hid (Bk w1 (w.heap.size) 30 #[.int .i64 li, .int .i64 by_, .slice A n cap, .int .i64 se, .int .i64 dr]) := Lib.hid ((((Bk.new_ (by simp) : Bk _ (w.heap.size) 30 #[.int .i64 li, .int .i64 by_, .slice A n cap, .int .i64 se, .int .i64 dr]).alloc _).alloc _).old hb1)
  have zb_q : w.heap.size < w1.heap.size := HK_q_1.out.lt
  have cb_q_0 : w1.cell? ⟨w.heap.size, 0, none⟩ = some (.int .i64 li) := HK_q_1.out.cell 0
  have cb_q_1 : w1.cell? ⟨w.heap.size, 1, none⟩ = some (.int .i64 by_) := HK_q_1.out.cell 1
  have cb_q_2 : w1.cell? ⟨w.heap.size, 2, none⟩ = some (.slice A n cap) := HK_q_1.out.cell 2
  have cb_q_3 : w1.cell? ⟨w.heap.size, 3, none⟩ = some (.int .i64 se) := HK_q_1.out.cell 3
  have cb_q_4 : w1.cell? ⟨w.heap.size, 4, none⟩ = some (.int .i64 dr) := HK_q_1.out.cell 4
  have HK_p_1 : Hid (Bk w1 (w.heap.size + 1) 35 #[.int .i64 p.id, .int .i64 p.so, .int .i64 p.de, .int .i64 p.po, .int .i64 p.ma, .int .i64 p.si]) := Lib.hid (((Bk.new_ (by simp) : Bk _ (w.heap.size + 1) 35 #[.int .i64 p.id, .int .i64 p.so, .int .i64 p.de, .int .i64 p.po, .int .i64 p.ma, .int .i64 p.si]).alloc _).old hb1)
  have zb_p : w.heap.size + 1 < w1.heap.size := HK_p_1.out.lt
  have cb_p_0 : w1.cell? ⟨w.heap.size + 1, 0, none⟩ = some (.int .i64 p.id) := HK_p_1.out.cell 0
  have cb_p_1 : w1.cell? ⟨w.heap.size + 1, 1, none⟩ = some (.int .i64 p.so) := HK_p_1.out.cell 1
  have cb_p_2 : w1.cell? ⟨w.heap.size + 1, 2, none⟩ = some (.int .i64 p.de) := HK_p_1.out.cell 2
  have cb_p_3 : w1.cell? ⟨w.heap.size + 1, 3, none⟩ = some (.int .i64 p.po) := HK_p_1.out.cell 3
  have cb_p_4 : w1.cell? ⟨w.heap.size + 1, 4, none⟩ = some (.int .i64 p.ma) := HK_p_1.out.cell 4
  have cb_p_5 : w1.cell? ⟨w.heap.size + 1, 5, none⟩ = some (.int .i64 p.si) := HK_p_1.out.cell 5
  have HK_r_1 : Hid (Bk w1 (w.heap.size + 1 + 1) 30 #[.int .i64 0, .int .i64 0, .slice none 0 0, .int .i64 0, .int .i64 0]) := Lib.hid ((Bk.new_ (by simp) : Bk _ (w.heap.size + 1 + 1) 30 #[.int .i64 0, .int .i64 0, .slice none 0 0, .int .i64 0, .int .i64 0]).old hb1)
  have zb_r : w.heap.size + 1 + 1 < w1.heap.size := HK_r_1.out.lt
  have cb_r_0 : w1.cell? ⟨w.heap.size + 1 + 1, 0, none⟩ = some (.int .i64 0) := HK_r_1.out.cell 0
  have cb_r_1 : w1.cell? ⟨w.heap.size + 1 + 1, 1, none⟩ = some (.int .i64 0) := HK_r_1.out.cell 1
  have cb_r_2 : w1.cell? ⟨w.heap.size + 1 + 1, 2, none⟩ = some (.slice none 0 0) := HK_r_1.out.cell 2
  have cb_r_3 : w1.cell? ⟨w.heap.size + 1 + 1, 3, none⟩ = some (.int .i64 0) := HK_r_1.out.cell 3
  have cb_r_4 : w1.cell? ⟨w.heap.size + 1 + 1, 4, none⟩ = some (.int .i64 0) := HK_r_1.out.cell 4
  have HB_1 := Lib.hid (bt (ba (ba (ba (b0 w) _) _) _) hb1)
  clear hb1
  go_wp2_with fail
  refine (isPacket_b hp _).mono ?_
  rintro e w2 ⟨rfl, hb2⟩
  have z2 := hb2.size
  (try simp at z2)
  have HK_q_2 : Hid (Bk w2 (w.heap.size) 30 #[.int .i64 li, .int .i64 by_, .slice A n cap, .int .i64 se, .int .i64 dr]) := Lib.hid (HK_q_1.out.old hb2)
  clear HK_q_1
  clear cb_q_0 cb_q_1 cb_q_2 cb_q_3 cb_q_4 zb_q
  have zb_q : w.heap.size < w2.heap.size := HK_q_2.out.lt
  have cb_q_0 : w2.cell? ⟨w.heap.size, 0, none⟩ = some (.int .i64 li) := HK_q_2.out.cell 0
  have cb_q_1 : w2.cell? ⟨w.heap.size, 1, none⟩ = some (.int .i64 by_) := HK_q_2.out.cell 1
  have cb_q_2 : w2.cell? ⟨w.heap.size, 2, none⟩ = some (.slice A n cap) := HK_q_2.out.cell 2
  have cb_q_3 : w2.cell? ⟨w.heap.size, 3, none⟩ = some (.int .i64 se) := HK_q_2.out.cell 3
  have cb_q_4 : w2.cell? ⟨w.heap.size, 4, none⟩ = some (.int .i64 dr) := HK_q_2.out.cell 4
  have HK_p_2 : Hid (Bk w2 (w.heap.size + 1) 35 #[.int .i64 p.id, .int .i64 p.so, .int .i64 p.de, .int .i64 p.po, .int .i64 p.ma, .int .i64 p.si]) := Lib.hid (HK_p_1.out.old hb2)
  clear HK_p_1
  clear cb_p_0 cb_p_1 cb_p_2 cb_p_3 cb_p_4 cb_p_5 zb_p
  have zb_p : w.heap.size + 1 < w2.heap.size := HK_p_2.out.lt
  have cb_p_0 : w2.cell? ⟨w.heap.size + 1, 0, none⟩ = some (.int .i64 p.id) := HK_p_2.out.cell 0
  have cb_p_1 : w2.cell? ⟨w.heap.size + 1, 1, none⟩ = some (.int .i64 p.so) := HK_p_2.out.cell 1
  have cb_p_2 : w2.cell? ⟨w.heap.size + 1, 2, none⟩ = some (.int .i64 p.de) := HK_p_2.out.cell 2
  have cb_p_3 : w2.cell? ⟨w.heap.size + 1, 3, none⟩ = some (.int .i64 p.po) := HK_p_2.out.cell 3
  have cb_p_4 : w2.cell? ⟨w.heap.size + 1, 4, none⟩ = some (.int .i64 p.ma) := HK_p_2.out.cell 4
  have cb_p_5 : w2.cell? ⟨w.heap.size + 1, 5, none⟩ = some (.int .i64 p.si) := HK_p_2.out.cell 5
  have HK_r_2 : Hid (Bk w2 (w.heap.size + 1 + 1) 30 #[.int .i64 0, .int .i64 0, .slice none 0 0, .int .i64 0, .int .i64 0]) := Lib.hid (HK_r_1.out.old hb2)
  clear HK_r_1
  clear cb_r_0 cb_r_1 cb_r_2 cb_r_3 cb_r_4 zb_r
  have zb_r : w.heap.size + 1 + 1 < w2.heap.size := HK_r_2.out.lt
  have cb_r_0 : w2.cell? ⟨w.heap.size + 1 + 1, 0, none⟩ = some (.int .i64 0) := HK_r_2.out.cell 0
  have cb_r_1 : w2.cell? ⟨w.heap.size + 1 + 1, 1, none⟩ = some (.int .i64 0) := HK_r_2.out.cell 1
  have cb_r_2 : w2.cell? ⟨w.heap.size + 1 + 1, 2, none⟩ = some (.slice none 0 0) := HK_r_2.out.cell 2
  have cb_r_3 : w2.cell? ⟨w.heap.size + 1 + 1, 3, none⟩ = some (.int .i64 0) := HK_r_2.out.cell 3
  have cb_r_4 : w2.cell? ⟨w.heap.size + 1 + 1, 4, none⟩ = some (.int .i64 0) := HK_r_2.out.cell 4
  have HB_2 := Lib.hid (bt HB_1.out hb2)
  clear hb2
  have rf := HK_r_2.out.free
  go_wp2_with fail
  exact bodyPost_ret (v := .tuple #[.agg #[.int .i64 0, .int .i64 0, .slice none 0 0, .int .i64 0, .int .i64 0], .slice none 0 0, .bool false]) (by simp [results, Try.results35, go_sem, cb_r_0, cb_r_1, cb_r_2, cb_r_3, cb_r_4]) rfl (NewQI.none_ rfl (by repeat (first | (with_reducible exact HB_2.out) | (with_reducible refine ba ?_ _) | (with_reducible refine bsB ?_ (by omega)) | (with_reducible refine bd ?_ _) | (with_reducible refine Below.drew ?_))))
set_option maxRecDepth 100000 in
set_option maxHeartbeats 4000000 in
theorem specRf_fit (li by_ : Int) (A : Option Addr) (n cap : Nat) (se dr : Int) (L : List Pk) (p : Pk) (w : World) (hl : L.length = n) (hr : IRow w A (fl L)) (hn : n ≤ 1048576) (hcap : n ≤ cap) (hA : A = none → cap = 0) (h : qok li by_ L se dr = true) (hp : p.ok = true) :
    Calls Try.prog 34 #[.agg #[.int .i64 li, .int .i64 by_, .slice A n cap, .int .i64 se, .int .i64 dr], .agg #[.int .i64 (p.id), .int .i64 (p.so), .int .i64 (p.de), .int .i64 (p.po), .int .i64 (p.ma), .int .i64 (p.si)]] w (RfP w li by_ L se dr p) := by
  have HL := Lib.hid hl
  have HQ := Lib.hid h
  have HR_a := Lib.hid hr
  have g0 := qok_iff.1 h
  have s1 : 0 ≤ se ∧ se ≤ 1000000 := g0.2.2.2.1
  have d1 : 0 ≤ dr ∧ dr ≤ 1000000 := g0.2.2.2.2.1
  have hn60 : n ≤ 60 := by omega
  have HOKS := Lib.hid (apart_iff.1 g0.2.2.2.2.2.1).1
  have HQF := Lib.hid (fun (d : Int) => rf_qok (dr' := d) p h)
  clear hl hr h hA g0
  go_enter Try.func34, Try.ntmps34
  go_wp2_with fail
  refine (quGood_b _ _ _ _ _ _ _ L _ HL.out (HR_a.out.below (ba (ba (ba (b0 w) _) _) _)) (by omega) hcap HQ.out).mono ?_
  rintro e w1 ⟨rfl, hb1⟩
  have z1 := hb1.size
  (try simp at z1)
  have HK_q_1 : Hid (Bk w1 (w.heap.size) 30 #[.int .i64 li, .int .i64 by_, .slice A n cap, .int .i64 se, .int .i64 dr]) := Lib.hid ((((Bk.new_ (by simp) : Bk _ (w.heap.size) 30 #[.int .i64 li, .int .i64 by_, .slice A n cap, .int .i64 se, .int .i64 dr]).alloc _).alloc _).old hb1)
  have zb_q : w.heap.size < w1.heap.size := HK_q_1.out.lt
  have cb_q_0 : w1.cell? ⟨w.heap.size, 0, none⟩ = some (.int .i64 li) := HK_q_1.out.cell 0
  have cb_q_1 : w1.cell? ⟨w.heap.size, 1, none⟩ = some (.int .i64 by_) := HK_q_1.out.cell 1
  have cb_q_2 : w1.cell? ⟨w.heap.size, 2, none⟩ = some (.slice A n cap) := HK_q_1.out.cell 2
  have cb_q_3 : w1.cell? ⟨w.heap.size, 3, none⟩ = some (.int .i64 se) := HK_q_1.out.cell 3
  have cb_q_4 : w1.cell? ⟨w.heap.size, 4, none⟩ = some (.int .i64 dr) := HK_q_1.out.cell 4
  have HK_p_1 : Hid (Bk w1 (w.heap.size + 1) 35 #[.int .i64 p.id, .int .i64 p.so, .int .i64 p.de, .int .i64 p.po, .int .i64 p.ma, .int .i64 p.si]) := Lib.hid (((Bk.new_ (by simp) : Bk _ (w.heap.size + 1) 35 #[.int .i64 p.id, .int .i64 p.so, .int .i64 p.de, .int .i64 p.po, .int .i64 p.ma, .int .i64 p.si]).alloc _).old hb1)
  have zb_p : w.heap.size + 1 < w1.heap.size := HK_p_1.out.lt
  have cb_p_0 : w1.cell? ⟨w.heap.size + 1, 0, none⟩ = some (.int .i64 p.id) := HK_p_1.out.cell 0
  have cb_p_1 : w1.cell? ⟨w.heap.size + 1, 1, none⟩ = some (.int .i64 p.so) := HK_p_1.out.cell 1
  have cb_p_2 : w1.cell? ⟨w.heap.size + 1, 2, none⟩ = some (.int .i64 p.de) := HK_p_1.out.cell 2
  have cb_p_3 : w1.cell? ⟨w.heap.size + 1, 3, none⟩ = some (.int .i64 p.po) := HK_p_1.out.cell 3
  have cb_p_4 : w1.cell? ⟨w.heap.size + 1, 4, none⟩ = some (.int .i64 p.ma) := HK_p_1.out.cell 4
  have cb_p_5 : w1.cell? ⟨w.heap.size + 1, 5, none⟩ = some (.int .i64 p.si) := HK_p_1.out.cell 5
  have HK_r_1 : Hid (Bk w1 (w.heap.size + 1 + 1) 30 #[.int .i64 0, .int .i64 0, .slice none 0 0, .int .i64 0, .int .i64 0]) := Lib.hid ((Bk.new_ (by simp) : Bk _ (w.heap.size + 1 + 1) 30 #[.int .i64 0, .int .i64 0, .slice none 0 0, .int .i64 0, .int .i64 0]).old hb1)
  have zb_r : w.heap.size + 1 + 1 < w1.heap.size := HK_r_1.out.lt
  have cb_r_0 : w1.cell? ⟨w.heap.size + 1 + 1, 0, none⟩ = some (.int .i64 0) := HK_r_1.out.cell 0
  have cb_r_1 : w1.cell? ⟨w.heap.size + 1 + 1, 1, none⟩ = some (.int .i64 0) := HK_r_1.out.cell 1
  have cb_r_2 : w1.cell? ⟨w.heap.size + 1 + 1, 2, none⟩ = some (.slice none 0 0) := HK_r_1.out.cell 2
  have cb_r_3 : w1.cell? ⟨w.heap.size + 1 + 1, 3, none⟩ = some (.int .i64 0) := HK_r_1.out.cell 3
  have cb_r_4 : w1.cell? ⟨w.heap.size + 1 + 1, 4, none⟩ = some (.int .i64 0) := HK_r_1.out.cell 4
  have HB_1 := Lib.hid (bt (ba (ba (ba (b0 w) _) _) _) hb1)
  clear hb1
  go_wp2_with fail
  refine (pkGood_b hp _).mono ?_
  rintro e w2 ⟨rfl, hb2⟩
  have z2 := hb2.size
  (try simp at z2)
  have HK_q_2 : Hid (Bk w2 (w.heap.size) 30 #[.int .i64 li, .int .i64 by_, .slice A n cap, .int .i64 se, .int .i64 dr]) := Lib.hid (HK_q_1.out.old hb2)
  clear HK_q_1
  clear cb_q_0 cb_q_1 cb_q_2 cb_q_3 cb_q_4 zb_q
  have zb_q : w.heap.size < w2.heap.size := HK_q_2.out.lt
  have cb_q_0 : w2.cell? ⟨w.heap.size, 0, none⟩ = some (.int .i64 li) := HK_q_2.out.cell 0
  have cb_q_1 : w2.cell? ⟨w.heap.size, 1, none⟩ = some (.int .i64 by_) := HK_q_2.out.cell 1
  have cb_q_2 : w2.cell? ⟨w.heap.size, 2, none⟩ = some (.slice A n cap) := HK_q_2.out.cell 2
  have cb_q_3 : w2.cell? ⟨w.heap.size, 3, none⟩ = some (.int .i64 se) := HK_q_2.out.cell 3
  have cb_q_4 : w2.cell? ⟨w.heap.size, 4, none⟩ = some (.int .i64 dr) := HK_q_2.out.cell 4
  have HK_p_2 : Hid (Bk w2 (w.heap.size + 1) 35 #[.int .i64 p.id, .int .i64 p.so, .int .i64 p.de, .int .i64 p.po, .int .i64 p.ma, .int .i64 p.si]) := Lib.hid (HK_p_1.out.old hb2)
  clear HK_p_1
  clear cb_p_0 cb_p_1 cb_p_2 cb_p_3 cb_p_4 cb_p_5 zb_p
  have zb_p : w.heap.size + 1 < w2.heap.size := HK_p_2.out.lt
  have cb_p_0 : w2.cell? ⟨w.heap.size + 1, 0, none⟩ = some (.int .i64 p.id) := HK_p_2.out.cell 0
  have cb_p_1 : w2.cell? ⟨w.heap.size + 1, 1, none⟩ = some (.int .i64 p.so) := HK_p_2.out.cell 1
  have cb_p_2 : w2.cell? ⟨w.heap.size + 1, 2, none⟩ = some (.int .i64 p.de) := HK_p_2.out.cell 2
  have cb_p_3 : w2.cell? ⟨w.heap.size + 1, 3, none⟩ = some (.int .i64 p.po) := HK_p_2.out.cell 3
  have cb_p_4 : w2.cell? ⟨w.heap.size + 1, 4, none⟩ = some (.int .i64 p.ma) := HK_p_2.out.cell 4
  have cb_p_5 : w2.cell? ⟨w.heap.size + 1, 5, none⟩ = some (.int .i64 p.si) := HK_p_2.out.cell 5
  have HK_r_2 : Hid (Bk w2 (w.heap.size + 1 + 1) 30 #[.int .i64 0, .int .i64 0, .slice none 0 0, .int .i64 0, .int .i64 0]) := Lib.hid (HK_r_1.out.old hb2)
  clear HK_r_1
  clear cb_r_0 cb_r_1 cb_r_2 cb_r_3 cb_r_4 zb_r
  have zb_r : w.heap.size + 1 + 1 < w2.heap.size := HK_r_2.out.lt
  have cb_r_0 : w2.cell? ⟨w.heap.size + 1 + 1, 0, none⟩ = some (.int .i64 0) := HK_r_2.out.cell 0
  have cb_r_1 : w2.cell? ⟨w.heap.size + 1 + 1, 1, none⟩ = some (.int .i64 0) := HK_r_2.out.cell 1
  have cb_r_2 : w2.cell? ⟨w.heap.size + 1 + 1, 2, none⟩ = some (.slice none 0 0) := HK_r_2.out.cell 2
  have cb_r_3 : w2.cell? ⟨w.heap.size + 1 + 1, 3, none⟩ = some (.int .i64 0) := HK_r_2.out.cell 3
  have cb_r_4 : w2.cell? ⟨w.heap.size + 1 + 1, 4, none⟩ = some (.int .i64 0) := HK_r_2.out.cell 4
  have HB_2 := Lib.hid (bt HB_1.out hb2)
  clear hb2
  go_wp2_with fail
  go_loopw [7, 8, 27] (fun u v i wr => ∃ (k : Nat) (A1 : Option Addr) (n1 c1 : Nat) (A2 : Option Addr) (n2 c2 : Nat) (a1 b1 a2 b2 : Nat), k ≤ n ∧ i = .int .i64 k ∧ u = .slice A1 n1 c1 ∧ v = .slice A2 n2 c2 ∧ IOwn wr a1 b1 35 6 A1 n1 c1 (fl (rfK (L.take k) p)) ∧ IOwn wr a2 b2 35 6 A2 n2 c2 (fl (rfG (L.take k) p)) ∧ (w2.heap.size ≤ a1 ∧ a1 ≤ b1 ∧ b1 ≤ wr.heap.size ∧ w2.heap.size ≤ a2 ∧ a2 ≤ b2 ∧ b2 ≤ wr.heap.size ∧ (b1 ≤ a2 ∨ b2 ≤ a1)) ∧ Below w2.heap.size w2 wr) (fun _ _ i _ => n - (intOf i).toNat)
  case atStart => exact ⟨0, none, 0, 0, none, 0, 0, w2.heap.size, w2.heap.size, w2.heap.size, w2.heap.size, Nat.zero_le _, rfl, rfl, rfl, IOwn.none_ _ _ _ _ _, IOwn.none_ _ _ _ _ _, by omega, b0 _⟩
  case round =>
    obtain ⟨k, A1, n1, c1, A2, n2, c2, a1, b1, a2, b2, hk, rfl, rfl, rfl, hkp, hgn, hsp, hb3⟩ := hrel
    obtain ⟨w3, hw3⟩ : ∃ x, x = wr := ⟨_, rfl⟩
    subst hw3
    have HKP := Lib.hid hkp
    have HGN := Lib.hid hgn
    have HB3 := Lib.hid hb3
    have hn1 : n1 ≤ 60 := by have := hkp.len; have := rfK_len (L.take k) p; rw [fl_len] at *; simp at *; have := HL.out; omega
    have hn2 : n2 ≤ 60 := by have := hgn.len; have := rfG_len (L.take k) p; rw [fl_len] at *; simp at *; have := HL.out; omega
    clear hkp hgn
    have z3 := hb3.size
    (try simp at z3)
    have HK_q_3 : Hid (Bk w3 (w.heap.size) 30 #[.int .i64 li, .int .i64 by_, .slice A n cap, .int .i64 se, .int .i64 dr]) := Lib.hid (HK_q_2.out.old hb3)
    clear HK_q_2
    clear cb_q_0 cb_q_1 cb_q_2 cb_q_3 cb_q_4 zb_q
    have zb_q : w.heap.size < w3.heap.size := HK_q_3.out.lt
    have cb_q_0 : w3.cell? ⟨w.heap.size, 0, none⟩ = some (.int .i64 li) := HK_q_3.out.cell 0
    have cb_q_1 : w3.cell? ⟨w.heap.size, 1, none⟩ = some (.int .i64 by_) := HK_q_3.out.cell 1
    have cb_q_2 : w3.cell? ⟨w.heap.size, 2, none⟩ = some (.slice A n cap) := HK_q_3.out.cell 2
    have cb_q_3 : w3.cell? ⟨w.heap.size, 3, none⟩ = some (.int .i64 se) := HK_q_3.out.cell 3
    have cb_q_4 : w3.cell? ⟨w.heap.size, 4, none⟩ = some (.int .i64 dr) := HK_q_3.out.cell 4
    have HK_p_3 : Hid (Bk w3 (w.heap.size + 1) 35 #[.int .i64 p.id, .int .i64 p.so, .int .i64 p.de, .int .i64 p.po, .int .i64 p.ma, .int .i64 p.si]) := Lib.hid (HK_p_2.out.old hb3)
    clear HK_p_2
    clear cb_p_0 cb_p_1 cb_p_2 cb_p_3 cb_p_4 cb_p_5 zb_p
    have zb_p : w.heap.size + 1 < w3.heap.size := HK_p_3.out.lt
    have cb_p_0 : w3.cell? ⟨w.heap.size + 1, 0, none⟩ = some (.int .i64 p.id) := HK_p_3.out.cell 0
    have cb_p_1 : w3.cell? ⟨w.heap.size + 1, 1, none⟩ = some (.int .i64 p.so) := HK_p_3.out.cell 1
    have cb_p_2 : w3.cell? ⟨w.heap.size + 1, 2, none⟩ = some (.int .i64 p.de) := HK_p_3.out.cell 2
    have cb_p_3 : w3.cell? ⟨w.heap.size + 1, 3, none⟩ = some (.int .i64 p.po) := HK_p_3.out.cell 3
    have cb_p_4 : w3.cell? ⟨w.heap.size + 1, 4, none⟩ = some (.int .i64 p.ma) := HK_p_3.out.cell 4
    have cb_p_5 : w3.cell? ⟨w.heap.size + 1, 5, none⟩ = some (.int .i64 p.si) := HK_p_3.out.cell 5
    have HK_r_3 : Hid (Bk w3 (w.heap.size + 1 + 1) 30 #[.int .i64 0, .int .i64 0, .slice none 0 0, .int .i64 0, .int .i64 0]) := Lib.hid (HK_r_2.out.old hb3)
    clear HK_r_2
    clear cb_r_0 cb_r_1 cb_r_2 cb_r_3 cb_r_4 zb_r
    have zb_r : w.heap.size + 1 + 1 < w3.heap.size := HK_r_3.out.lt
    have cb_r_0 : w3.cell? ⟨w.heap.size + 1 + 1, 0, none⟩ = some (.int .i64 0) := HK_r_3.out.cell 0
    have cb_r_1 : w3.cell? ⟨w.heap.size + 1 + 1, 1, none⟩ = some (.int .i64 0) := HK_r_3.out.cell 1
    have cb_r_2 : w3.cell? ⟨w.heap.size + 1 + 1, 2, none⟩ = some (.slice none 0 0) := HK_r_3.out.cell 2
    have cb_r_3 : w3.cell? ⟨w.heap.size + 1 + 1, 3, none⟩ = some (.int .i64 0) := HK_r_3.out.cell 3
    have cb_r_4 : w3.cell? ⟨w.heap.size + 1 + 1, 4, none⟩ = some (.int .i64 0) := HK_r_3.out.cell 4
    have HB_3 := Lib.hid (bt HB_2.out hb3)
    clear hb3
    by_cases hlt : k < n
    · obtain ⟨g, off, x, rfl, hg, hpk, c0, c1', c2', c3, c4, c5⟩ := pk_at (HR_a.out.below HB_3.out) (k := k) (by have := HL.out; omega)
      have HPK := Lib.hid hpk
      have hxo : x.ok = true := HOKS.out x (List.mem_of_getElem? hpk)
      clear hpk
      rcases hs : smf x p with _ | _
      · have HE1 := Lib.hid (rfK_no HPK.out hs)
        have HE2 := Lib.hid (rfG_no HPK.out hs)
        go_wp2_with fail
        refine (specSameFlow_b hxo hp hs _).mono ?_
        rintro e w4 ⟨rfl, hb4⟩
        have z4 := hb4.size
        simp at z4
        have y : Bk w4 (w3.heap.size) 35 #[.int .i64 x.id, .int .i64 x.so, .int .i64 x.de, .int .i64 x.po, .int .i64 x.ma, .int .i64 x.si] := (Bk.new_ (by simp)).old hb4
        have zy : w3.heap.size < w4.heap.size := y.lt
        have y_0 : w4.cell? ⟨w3.heap.size, 0, none⟩ = some (.int .i64 x.id) := y.cell 0
        have y_1 : w4.cell? ⟨w3.heap.size, 1, none⟩ = some (.int .i64 x.so) := y.cell 1
        have y_2 : w4.cell? ⟨w3.heap.size, 2, none⟩ = some (.int .i64 x.de) := y.cell 2
        have y_3 : w4.cell? ⟨w3.heap.size, 3, none⟩ = some (.int .i64 x.po) := y.cell 3
        have y_4 : w4.cell? ⟨w3.heap.size, 4, none⟩ = some (.int .i64 x.ma) := y.cell 4
        have y_5 : w4.cell? ⟨w3.heap.size, 5, none⟩ = some (.int .i64 x.si) := y.cell 5
        have yf := y.free
        have Hy := Lib.hid y
        clear y
        have HK4 := Lib.hid ((HKP.out.alloc _).old hb4)
        have HG4 := Lib.hid ((HGN.out.alloc _).old hb4)
        have HB4 := Lib.hid (bt (ba HB3.out _) (hb4.mono (by first | omega | (simp; done) | (simp; omega))))
        clear hb4
        go_wp2_with (at_builtin; refine append_pkD rfl _ _ rfl (lo := a1) (hh := b1) (L := rfK (L.take k) p) rfl (HK4.out.alloc _) w4.heap.size x rfl (Bk.new_ rfl) (by omega) (by simp; omega) ?_; intro A' c' w5 lo' hi' hlh ho5 hc5; have HK5 := Lib.hid ho5; have z5 := hc5.size; simp at z5 hlh; have HG5 := Lib.hid ((HG4.out.alloc _).chg hc5 (by omega)); have HB5 := Lib.hid (Chg.below (ba HB4.out _) hc5 (by omega)); clear ho5 hc5)
        go_roundw
        case rel => exact ⟨k + 1, A', n1 + 1, c', A2, n2, c2, lo', hi', a2, b2, by omega, by go_num, rfl, rfl, by rw [HE1.out]; exact HK5.out, by rw [HE2.out]; exact HG5.out, by omega, HB5.out⟩
        case measure => simp [intOf]; omega
      · have HE1 := Lib.hid (rfK_yes HPK.out hs)
        have HE2 := Lib.hid (rfG_yes HPK.out hs)
        go_wp2_with fail
        refine (specSameFlow_b hxo hp hs _).mono ?_
        rintro e w4 ⟨rfl, hb4⟩
        have z4 := hb4.size
        simp at z4
        have y : Bk w4 (w3.heap.size) 35 #[.int .i64 x.id, .int .i64 x.so, .int .i64 x.de, .int .i64 x.po, .int .i64 x.ma, .int .i64 x.si] := (Bk.new_ (by simp)).old hb4
        have zy : w3.heap.size < w4.heap.size := y.lt
        have y_0 : w4.cell? ⟨w3.heap.size, 0, none⟩ = some (.int .i64 x.id) := y.cell 0
        have y_1 : w4.cell? ⟨w3.heap.size, 1, none⟩ = some (.int .i64 x.so) := y.cell 1
        have y_2 : w4.cell? ⟨w3.heap.size, 2, none⟩ = some (.int .i64 x.de) := y.cell 2
        have y_3 : w4.cell? ⟨w3.heap.size, 3, none⟩ = some (.int .i64 x.po) := y.cell 3
        have y_4 : w4.cell? ⟨w3.heap.size, 4, none⟩ = some (.int .i64 x.ma) := y.cell 4
        have y_5 : w4.cell? ⟨w3.heap.size, 5, none⟩ = some (.int .i64 x.si) := y.cell 5
        have yf := y.free
        have Hy := Lib.hid y
        clear y
        have HK4 := Lib.hid ((HKP.out.alloc _).old hb4)
        have HG4 := Lib.hid ((HGN.out.alloc _).old hb4)
        have HB4 := Lib.hid (bt (ba HB3.out _) (hb4.mono (by first | omega | (simp; done) | (simp; omega))))
        clear hb4
        go_wp2_with (at_builtin; refine append_pkD rfl _ _ rfl (lo := a2) (hh := b2) (L := rfG (L.take k) p) rfl (HG4.out.alloc _) w4.heap.size x rfl (Bk.new_ rfl) (by omega) (by simp; omega) ?_; intro A' c' w5 lo' hi' hlh ho5 hc5; have HG5 := Lib.hid ho5; have z5 := hc5.size; simp at z5 hlh; have HK5 := Lib.hid ((HK4.out.alloc _).chg hc5 (by omega)); have HB5 := Lib.hid (Chg.below (ba HB4.out _) hc5 (by omega)); clear ho5 hc5)
        go_roundw
        case rel => exact ⟨k + 1, A1, n1, c1, A', n2 + 1, c', a1, b1, lo', hi', by omega, by go_num, rfl, rfl, by rw [HE1.out]; exact HK5.out, by rw [HE2.out]; exact HG5.out, by omega, HB5.out⟩
        case measure => simp [intOf]; omega
    obtain rfl : n = k := by omega
    have HO_k_3 := Lib.hid (show IOwn w3 a1 b1 35 6 A1 n1 c1 (fl (rfK L p)) from by have h := HKP.out; rwa [List.take_of_length_le (by have := HL.out; omega)] at h)
    have HO_g_3 := Lib.hid (show IOwn w3 a2 b2 35 6 A2 n2 c2 (fl (rfG L p)) from by have h := HGN.out; rwa [List.take_of_length_le (by have := HL.out; omega)] at h)
    clear HKP HGN
    have HNK := Lib.hid (show (rfK L p).length = n1 from by have := HO_k_3.out.len; rw [fl_len] at this; omega)
    have HNG := Lib.hid (show (rfG L p).length = n2 from by have := HO_g_3.out.len; rw [fl_len] at this; omega)
    go_wp2_with fail
    refine (quWith_any _ _ _ _ _ _ _ _ _ _ (rfK L p) _ _ _ HNK.out HO_k_3.out.row HO_k_3.out.none_cap (by omega) s1 d1 (by omega) (by omega)).mono ?_
    rintro e w4 ⟨A_o, cap_o, rfl, ho_o, hb4⟩
    have HN_o := Lib.hid ho_o.len
    have HO_o_4 := Lib.hid ho_o
    clear ho_o
    have z4 := hb4.size
    (try simp at z4)
    have HK_q_4 : Hid (Bk w4 (w.heap.size) 30 #[.int .i64 li, .int .i64 by_, .slice A n cap, .int .i64 se, .int .i64 dr]) := Lib.hid (HK_q_3.out.old hb4)
    clear HK_q_3
    clear cb_q_0 cb_q_1 cb_q_2 cb_q_3 cb_q_4 zb_q
    have zb_q : w.heap.size < w4.heap.size := HK_q_4.out.lt
    have cb_q_0 : w4.cell? ⟨w.heap.size, 0, none⟩ = some (.int .i64 li) := HK_q_4.out.cell 0
    have cb_q_1 : w4.cell? ⟨w.heap.size, 1, none⟩ = some (.int .i64 by_) := HK_q_4.out.cell 1
    have cb_q_2 : w4.cell? ⟨w.heap.size, 2, none⟩ = some (.slice A n cap) := HK_q_4.out.cell 2
    have cb_q_3 : w4.cell? ⟨w.heap.size, 3, none⟩ = some (.int .i64 se) := HK_q_4.out.cell 3
    have cb_q_4 : w4.cell? ⟨w.heap.size, 4, none⟩ = some (.int .i64 dr) := HK_q_4.out.cell 4
    have HK_p_4 : Hid (Bk w4 (w.heap.size + 1) 35 #[.int .i64 p.id, .int .i64 p.so, .int .i64 p.de, .int .i64 p.po, .int .i64 p.ma, .int .i64 p.si]) := Lib.hid (HK_p_3.out.old hb4)
    clear HK_p_3
    clear cb_p_0 cb_p_1 cb_p_2 cb_p_3 cb_p_4 cb_p_5 zb_p
    have zb_p : w.heap.size + 1 < w4.heap.size := HK_p_4.out.lt
    have cb_p_0 : w4.cell? ⟨w.heap.size + 1, 0, none⟩ = some (.int .i64 p.id) := HK_p_4.out.cell 0
    have cb_p_1 : w4.cell? ⟨w.heap.size + 1, 1, none⟩ = some (.int .i64 p.so) := HK_p_4.out.cell 1
    have cb_p_2 : w4.cell? ⟨w.heap.size + 1, 2, none⟩ = some (.int .i64 p.de) := HK_p_4.out.cell 2
    have cb_p_3 : w4.cell? ⟨w.heap.size + 1, 3, none⟩ = some (.int .i64 p.po) := HK_p_4.out.cell 3
    have cb_p_4 : w4.cell? ⟨w.heap.size + 1, 4, none⟩ = some (.int .i64 p.ma) := HK_p_4.out.cell 4
    have cb_p_5 : w4.cell? ⟨w.heap.size + 1, 5, none⟩ = some (.int .i64 p.si) := HK_p_4.out.cell 5
    have HK_r_4 : Hid (Bk w4 (w.heap.size + 1 + 1) 30 #[.int .i64 0, .int .i64 0, .slice none 0 0, .int .i64 0, .int .i64 0]) := Lib.hid (HK_r_3.out.old hb4)
    clear HK_r_3
    clear cb_r_0 cb_r_1 cb_r_2 cb_r_3 cb_r_4 zb_r
    have zb_r : w.heap.size + 1 + 1 < w4.heap.size := HK_r_4.out.lt
    have cb_r_0 : w4.cell? ⟨w.heap.size + 1 + 1, 0, none⟩ = some (.int .i64 0) := HK_r_4.out.cell 0
    have cb_r_1 : w4.cell? ⟨w.heap.size + 1 + 1, 1, none⟩ = some (.int .i64 0) := HK_r_4.out.cell 1
    have cb_r_2 : w4.cell? ⟨w.heap.size + 1 + 1, 2, none⟩ = some (.slice none 0 0) := HK_r_4.out.cell 2
    have cb_r_3 : w4.cell? ⟨w.heap.size + 1 + 1, 3, none⟩ = some (.int .i64 0) := HK_r_4.out.cell 3
    have cb_r_4 : w4.cell? ⟨w.heap.size + 1 + 1, 4, none⟩ = some (.int .i64 0) := HK_r_4.out.cell 4
    have HO_k_4 := Lib.hid (HO_k_3.out.old hb4)
    clear HO_k_3
    have HO_g_4 := Lib.hid (HO_g_3.out.old hb4)
    clear HO_g_3
    have HB_4 := Lib.hid (bt HB_3.out hb4)
    clear hb4
    rw [Int.add_zero]
    have HRO := Lib.hid (show rfOk li by_ L se dr p = cnt (dr + (n2 : Int)) from by rw [rfOk, HQ.out, hp, HNG.out]; rfl)
    rcases hc : cnt (dr + (n2 : Int)) with _ | _
    · have HPD := Lib.hid (RfP_no (w := w) (HRO.out.trans hc))
      have HI := Lib.hid ((HQF.out _).trans hc)
      clear hc
      go_wp2_with fail
      refine (quIf_no _ _ _ n1 _ _ _ (rfK L p) _ HNK.out HO_o_4.out.row (by omega) HI.out).mono ?_
      rintro e w5 ⟨rfl, hb5⟩
      have r : Bk w5 (w.heap.size + 1 + 1) 30 #[.int .i64 0, .int .i64 0, .slice none 0 0, .int .i64 0, .int .i64 0] := HK_r_4.out.old hb5
      have zr : w.heap.size + 1 + 1 < w5.heap.size := r.lt
      have r_0 : w5.cell? ⟨w.heap.size + 1 + 1, 0, none⟩ = some (.int .i64 0) := r.cell 0
      have r_1 : w5.cell? ⟨w.heap.size + 1 + 1, 1, none⟩ = some (.int .i64 0) := r.cell 1
      have r_2 : w5.cell? ⟨w.heap.size + 1 + 1, 2, none⟩ = some (.slice none 0 0) := r.cell 2
      have r_3 : w5.cell? ⟨w.heap.size + 1 + 1, 3, none⟩ = some (.int .i64 0) := r.cell 3
      have r_4 : w5.cell? ⟨w.heap.size + 1 + 1, 4, none⟩ = some (.int .i64 0) := r.cell 4
      have rf := r.free
      have Hr := Lib.hid r
      clear r
      have B5 := Lib.hid (bt HB_4.out hb5)
      clear hb5 cb_r_0 cb_r_1 cb_r_2 cb_r_3 cb_r_4
      go_wp2_with fail
      exact bodyPost_ret (v := .tuple #[.agg #[.int .i64 0, .int .i64 0, .slice none 0 0, .int .i64 0, .int .i64 0], .slice none 0 0, .bool false]) (by simp [results, Try.results34, go_sem, r_0, r_1, r_2, r_3, r_4, zr]) rfl (by rw [HPD.out]; exact NewQI.none_ rfl (by repeat (first | (with_reducible exact B5.out) | (with_reducible refine ba ?_ _) | (with_reducible refine bsB ?_ (by omega)) | (with_reducible refine bd ?_ _) | (with_reducible refine Below.drew ?_))))
    have HPD := Lib.hid (RfP_yes (w := w) (HRO.out.trans hc))
    have HI := Lib.hid ((HQF.out _).trans hc)
    clear hc
    go_wp2_with fail
    refine (quIf_yes _ _ _ n1 _ _ _ (rfK L p) _ HNK.out HO_o_4.out.row (by omega) HI.out).mono ?_
    rintro e w5 ⟨rfl, hb5⟩
    have z5 := hb5.size
    (try simp at z5)
    have HK_q_5 : Hid (Bk w5 (w.heap.size) 30 #[.int .i64 li, .int .i64 by_, .slice A n cap, .int .i64 se, .int .i64 dr]) := Lib.hid (HK_q_4.out.old hb5)
    clear HK_q_4
    clear cb_q_0 cb_q_1 cb_q_2 cb_q_3 cb_q_4 zb_q
    have zb_q : w.heap.size < w5.heap.size := HK_q_5.out.lt
    have cb_q_0 : w5.cell? ⟨w.heap.size, 0, none⟩ = some (.int .i64 li) := HK_q_5.out.cell 0
    have cb_q_1 : w5.cell? ⟨w.heap.size, 1, none⟩ = some (.int .i64 by_) := HK_q_5.out.cell 1
    have cb_q_2 : w5.cell? ⟨w.heap.size, 2, none⟩ = some (.slice A n cap) := HK_q_5.out.cell 2
    have cb_q_3 : w5.cell? ⟨w.heap.size, 3, none⟩ = some (.int .i64 se) := HK_q_5.out.cell 3
    have cb_q_4 : w5.cell? ⟨w.heap.size, 4, none⟩ = some (.int .i64 dr) := HK_q_5.out.cell 4
    have HK_p_5 : Hid (Bk w5 (w.heap.size + 1) 35 #[.int .i64 p.id, .int .i64 p.so, .int .i64 p.de, .int .i64 p.po, .int .i64 p.ma, .int .i64 p.si]) := Lib.hid (HK_p_4.out.old hb5)
    clear HK_p_4
    clear cb_p_0 cb_p_1 cb_p_2 cb_p_3 cb_p_4 cb_p_5 zb_p
    have zb_p : w.heap.size + 1 < w5.heap.size := HK_p_5.out.lt
    have cb_p_0 : w5.cell? ⟨w.heap.size + 1, 0, none⟩ = some (.int .i64 p.id) := HK_p_5.out.cell 0
    have cb_p_1 : w5.cell? ⟨w.heap.size + 1, 1, none⟩ = some (.int .i64 p.so) := HK_p_5.out.cell 1
    have cb_p_2 : w5.cell? ⟨w.heap.size + 1, 2, none⟩ = some (.int .i64 p.de) := HK_p_5.out.cell 2
    have cb_p_3 : w5.cell? ⟨w.heap.size + 1, 3, none⟩ = some (.int .i64 p.po) := HK_p_5.out.cell 3
    have cb_p_4 : w5.cell? ⟨w.heap.size + 1, 4, none⟩ = some (.int .i64 p.ma) := HK_p_5.out.cell 4
    have cb_p_5 : w5.cell? ⟨w.heap.size + 1, 5, none⟩ = some (.int .i64 p.si) := HK_p_5.out.cell 5
    have HK_r_5 : Hid (Bk w5 (w.heap.size + 1 + 1) 30 #[.int .i64 0, .int .i64 0, .slice none 0 0, .int .i64 0, .int .i64 0]) := Lib.hid (HK_r_4.out.old hb5)
    clear HK_r_4
    clear cb_r_0 cb_r_1 cb_r_2 cb_r_3 cb_r_4 zb_r
    have zb_r : w.heap.size + 1 + 1 < w5.heap.size := HK_r_5.out.lt
    have cb_r_0 : w5.cell? ⟨w.heap.size + 1 + 1, 0, none⟩ = some (.int .i64 0) := HK_r_5.out.cell 0
    have cb_r_1 : w5.cell? ⟨w.heap.size + 1 + 1, 1, none⟩ = some (.int .i64 0) := HK_r_5.out.cell 1
    have cb_r_2 : w5.cell? ⟨w.heap.size + 1 + 1, 2, none⟩ = some (.slice none 0 0) := HK_r_5.out.cell 2
    have cb_r_3 : w5.cell? ⟨w.heap.size + 1 + 1, 3, none⟩ = some (.int .i64 0) := HK_r_5.out.cell 3
    have cb_r_4 : w5.cell? ⟨w.heap.size + 1 + 1, 4, none⟩ = some (.int .i64 0) := HK_r_5.out.cell 4
    have HO_k_5 := Lib.hid (HO_k_4.out.old hb5)
    clear HO_k_4
    have HO_g_5 := Lib.hid (HO_g_4.out.old hb5)
    clear HO_g_4
    have HO_o_5 := Lib.hid (HO_o_4.out.old hb5)
    clear HO_o_4
    have HB_5 := Lib.hid (bt HB_4.out hb5)
    clear hb5
    have rf := HK_r_5.out.free
    have hne1 : ¬ w.heap.size + 1 + 1 = w5.heap.size := by omega
    have hne2 : ¬ w5.heap.size = w.heap.size + 1 + 1 := by omega
    go_wp2_with fail
    go_region_held3 (fun w' => w'.cell? ⟨w5.heap.size, 0, none⟩ = some (.int .i64 li) ∧ w'.cell? ⟨w5.heap.size, 1, none⟩ = some (.int .i64 by_) ∧ w'.cell? ⟨w5.heap.size, 2, none⟩ = some (.slice A_o n1 cap_o) ∧ w'.cell? ⟨w5.heap.size, 3, none⟩ = some (.int .i64 se) ∧ w'.cell? ⟨w5.heap.size, 4, none⟩ = some (.int .i64 (dr + (n2 : Int)))) (go_keep)
      (first
        | (go_at_call 51; refine (quIds_any _ _ _ (rfG L p) _ HNG.out ((HO_g_5.out.alloc _).drew.row) (by omega)).mono ?_; rintro e w6 ⟨B, m, cB, rfl, ho6, hb6⟩; have x1 := fun o => bkeep hb6 w5.heap.size o (by simp); have x3 := fun o => bkeep hb6 (w.heap.size + 1 + 1) o (by simp; omega); have x4 := fun o => bfree hb6 (w.heap.size + 1 + 1) o (by simp; omega)))
    have b6 := ((HK_r_5.out.alloc _).drew).old hb6
    have zz6 := hb6.size
    simp at zz6
    have HO6 := Lib.hid (((HO_o_5.out.alloc _).drew).old hb6)
    have HI6 := Lib.hid (ho6.lo_le (lo' := w5.heap.size) (by simp))
    have HB6 := Lib.hid (bt (ba HB_5.out _).drew hb6)
    have r : Bk w6 (w.heap.size + 1 + 1) 30 #[.int .i64 0, .int .i64 0, .slice none 0 0, .int .i64 0, .int .i64 0] := b6
    have zr : w.heap.size + 1 + 1 < w6.heap.size := r.lt
    have r_0 : w6.cell? ⟨w.heap.size + 1 + 1, 0, none⟩ = some (.int .i64 0) := r.cell 0
    have r_1 : w6.cell? ⟨w.heap.size + 1 + 1, 1, none⟩ = some (.int .i64 0) := r.cell 1
    have r_2 : w6.cell? ⟨w.heap.size + 1 + 1, 2, none⟩ = some (.slice none 0 0) := r.cell 2
    have r_3 : w6.cell? ⟨w.heap.size + 1 + 1, 3, none⟩ = some (.int .i64 0) := r.cell 3
    have r_4 : w6.cell? ⟨w.heap.size + 1 + 1, 4, none⟩ = some (.int .i64 0) := r.cell 4
    have rf := r.free
    have Hr := Lib.hid r
    clear r
    clear b6 ho6 hb6 x1 x3 x4 cb_r_0 cb_r_1 cb_r_2 cb_r_3 cb_r_4
    go_wp2_with fail
    refine bodyPost_ret (v := .tuple #[.agg #[.int .i64 li, .int .i64 by_, .slice A_o n1 cap_o, .int .i64 se, .int .i64 (dr + (n2 : Int))], .slice B m cB, .bool true]) (by simp [results, Try.results34, go_sem, r_0, r_1, r_2, r_3, r_4]) rfl (by rw [HPD.out, HNK.out, HNG.out]; exact NewQI.mk rfl (by refine IOwn.lo_le (lo := w3.heap.size) (IOwn.here (hi := w4.heap.size) ?_) (by omega); repeat (first | (with_reducible exact HO6.out) | (with_reducible refine IOwn.alloc ?_ _) | (with_reducible refine IOwn.farC ?_ (by omega)) | (with_reducible refine IOwn.drew ?_))) (by refine IOwn.lo_le (lo := w5.heap.size) (IOwn.here (hi := w6.heap.size) ?_) (by omega); repeat (first | (with_reducible exact HI6.out) | (with_reducible refine IOwn.alloc ?_ _) | (with_reducible refine IOwn.farC ?_ (by omega)) | (with_reducible refine IOwn.drew ?_))) (by repeat (first | (with_reducible exact HB6.out) | (with_reducible refine ba ?_ _) | (with_reducible refine bsB ?_ (by omega)) | (with_reducible refine bd ?_ _) | (with_reducible refine Below.drew ?_))))
set_option maxRecDepth 100000 in
set_option maxHeartbeats 4000000 in
theorem implRf_fit (li by_ : Int) (A : Option Addr) (n cap : Nat) (se dr : Int) (L : List Pk) (p : Pk) (w : World) (hl : L.length = n) (hr : IRow w A (fl L)) (hn : n ≤ 1048576) (hcap : n ≤ cap) (hA : A = none → cap = 0) (h : qok li by_ L se dr = true) (hp : p.ok = true) :
    Calls Try.prog 35 #[.agg #[.int .i64 li, .int .i64 by_, .slice A n cap, .int .i64 se, .int .i64 dr], .agg #[.int .i64 (p.id), .int .i64 (p.so), .int .i64 (p.de), .int .i64 (p.po), .int .i64 (p.ma), .int .i64 (p.si)]] w (RfP w li by_ L se dr p) := by
  have HL := Lib.hid hl
  have HQ := Lib.hid h
  have HR_a := Lib.hid hr
  have g0 := qok_iff.1 h
  have s1 : 0 ≤ se ∧ se ≤ 1000000 := g0.2.2.2.1
  have d1 : 0 ≤ dr ∧ dr ≤ 1000000 := g0.2.2.2.2.1
  have hn60 : n ≤ 60 := by omega
  clear hl hr h hA g0
  go_enter Try.func35, Try.ntmps35
  go_wp2_with fail
  refine (isQueue_b _ _ _ _ _ _ _ L _ HL.out (HR_a.out.below (ba (ba (ba (b0 w) _) _) _)) (by omega) hcap HQ.out).mono ?_
  rintro e w1 ⟨rfl, hb1⟩
  have z1 := hb1.size
  (try simp at z1)
  have HK_q_1 : Hid (Bk w1 (w.heap.size) 30 #[.int .i64 li, .int .i64 by_, .slice A n cap, .int .i64 se, .int .i64 dr]) := Lib.hid ((((Bk.new_ (by simp) : Bk _ (w.heap.size) 30 #[.int .i64 li, .int .i64 by_, .slice A n cap, .int .i64 se, .int .i64 dr]).alloc _).alloc _).old hb1)
  have zb_q : w.heap.size < w1.heap.size := HK_q_1.out.lt
  have cb_q_0 : w1.cell? ⟨w.heap.size, 0, none⟩ = some (.int .i64 li) := HK_q_1.out.cell 0
  have cb_q_1 : w1.cell? ⟨w.heap.size, 1, none⟩ = some (.int .i64 by_) := HK_q_1.out.cell 1
  have cb_q_2 : w1.cell? ⟨w.heap.size, 2, none⟩ = some (.slice A n cap) := HK_q_1.out.cell 2
  have cb_q_3 : w1.cell? ⟨w.heap.size, 3, none⟩ = some (.int .i64 se) := HK_q_1.out.cell 3
  have cb_q_4 : w1.cell? ⟨w.heap.size, 4, none⟩ = some (.int .i64 dr) := HK_q_1.out.cell 4
  have HK_p_1 : Hid (Bk w1 (w.heap.size + 1) 35 #[.int .i64 p.id, .int .i64 p.so, .int .i64 p.de, .int .i64 p.po, .int .i64 p.ma, .int .i64 p.si]) := Lib.hid (((Bk.new_ (by simp) : Bk _ (w.heap.size + 1) 35 #[.int .i64 p.id, .int .i64 p.so, .int .i64 p.de, .int .i64 p.po, .int .i64 p.ma, .int .i64 p.si]).alloc _).old hb1)
  have zb_p : w.heap.size + 1 < w1.heap.size := HK_p_1.out.lt
  have cb_p_0 : w1.cell? ⟨w.heap.size + 1, 0, none⟩ = some (.int .i64 p.id) := HK_p_1.out.cell 0
  have cb_p_1 : w1.cell? ⟨w.heap.size + 1, 1, none⟩ = some (.int .i64 p.so) := HK_p_1.out.cell 1
  have cb_p_2 : w1.cell? ⟨w.heap.size + 1, 2, none⟩ = some (.int .i64 p.de) := HK_p_1.out.cell 2
  have cb_p_3 : w1.cell? ⟨w.heap.size + 1, 3, none⟩ = some (.int .i64 p.po) := HK_p_1.out.cell 3
  have cb_p_4 : w1.cell? ⟨w.heap.size + 1, 4, none⟩ = some (.int .i64 p.ma) := HK_p_1.out.cell 4
  have cb_p_5 : w1.cell? ⟨w.heap.size + 1, 5, none⟩ = some (.int .i64 p.si) := HK_p_1.out.cell 5
  have HK_r_1 : Hid (Bk w1 (w.heap.size + 1 + 1) 30 #[.int .i64 0, .int .i64 0, .slice none 0 0, .int .i64 0, .int .i64 0]) := Lib.hid ((Bk.new_ (by simp) : Bk _ (w.heap.size + 1 + 1) 30 #[.int .i64 0, .int .i64 0, .slice none 0 0, .int .i64 0, .int .i64 0]).old hb1)
  have zb_r : w.heap.size + 1 + 1 < w1.heap.size := HK_r_1.out.lt
  have cb_r_0 : w1.cell? ⟨w.heap.size + 1 + 1, 0, none⟩ = some (.int .i64 0) := HK_r_1.out.cell 0
  have cb_r_1 : w1.cell? ⟨w.heap.size + 1 + 1, 1, none⟩ = some (.int .i64 0) := HK_r_1.out.cell 1
  have cb_r_2 : w1.cell? ⟨w.heap.size + 1 + 1, 2, none⟩ = some (.slice none 0 0) := HK_r_1.out.cell 2
  have cb_r_3 : w1.cell? ⟨w.heap.size + 1 + 1, 3, none⟩ = some (.int .i64 0) := HK_r_1.out.cell 3
  have cb_r_4 : w1.cell? ⟨w.heap.size + 1 + 1, 4, none⟩ = some (.int .i64 0) := HK_r_1.out.cell 4
  have HB_1 := Lib.hid (bt (ba (ba (ba (b0 w) _) _) _) hb1)
  clear hb1
  go_wp2_with fail
  refine (isPacket_b hp _).mono ?_
  rintro e w2 ⟨rfl, hb2⟩
  have z2 := hb2.size
  (try simp at z2)
  have HK_q_2 : Hid (Bk w2 (w.heap.size) 30 #[.int .i64 li, .int .i64 by_, .slice A n cap, .int .i64 se, .int .i64 dr]) := Lib.hid (HK_q_1.out.old hb2)
  clear HK_q_1
  clear cb_q_0 cb_q_1 cb_q_2 cb_q_3 cb_q_4 zb_q
  have zb_q : w.heap.size < w2.heap.size := HK_q_2.out.lt
  have cb_q_0 : w2.cell? ⟨w.heap.size, 0, none⟩ = some (.int .i64 li) := HK_q_2.out.cell 0
  have cb_q_1 : w2.cell? ⟨w.heap.size, 1, none⟩ = some (.int .i64 by_) := HK_q_2.out.cell 1
  have cb_q_2 : w2.cell? ⟨w.heap.size, 2, none⟩ = some (.slice A n cap) := HK_q_2.out.cell 2
  have cb_q_3 : w2.cell? ⟨w.heap.size, 3, none⟩ = some (.int .i64 se) := HK_q_2.out.cell 3
  have cb_q_4 : w2.cell? ⟨w.heap.size, 4, none⟩ = some (.int .i64 dr) := HK_q_2.out.cell 4
  have HK_p_2 : Hid (Bk w2 (w.heap.size + 1) 35 #[.int .i64 p.id, .int .i64 p.so, .int .i64 p.de, .int .i64 p.po, .int .i64 p.ma, .int .i64 p.si]) := Lib.hid (HK_p_1.out.old hb2)
  clear HK_p_1
  clear cb_p_0 cb_p_1 cb_p_2 cb_p_3 cb_p_4 cb_p_5 zb_p
  have zb_p : w.heap.size + 1 < w2.heap.size := HK_p_2.out.lt
  have cb_p_0 : w2.cell? ⟨w.heap.size + 1, 0, none⟩ = some (.int .i64 p.id) := HK_p_2.out.cell 0
  have cb_p_1 : w2.cell? ⟨w.heap.size + 1, 1, none⟩ = some (.int .i64 p.so) := HK_p_2.out.cell 1
  have cb_p_2 : w2.cell? ⟨w.heap.size + 1, 2, none⟩ = some (.int .i64 p.de) := HK_p_2.out.cell 2
  have cb_p_3 : w2.cell? ⟨w.heap.size + 1, 3, none⟩ = some (.int .i64 p.po) := HK_p_2.out.cell 3
  have cb_p_4 : w2.cell? ⟨w.heap.size + 1, 4, none⟩ = some (.int .i64 p.ma) := HK_p_2.out.cell 4
  have cb_p_5 : w2.cell? ⟨w.heap.size + 1, 5, none⟩ = some (.int .i64 p.si) := HK_p_2.out.cell 5
  have HK_r_2 : Hid (Bk w2 (w.heap.size + 1 + 1) 30 #[.int .i64 0, .int .i64 0, .slice none 0 0, .int .i64 0, .int .i64 0]) := Lib.hid (HK_r_1.out.old hb2)
  clear HK_r_1
  clear cb_r_0 cb_r_1 cb_r_2 cb_r_3 cb_r_4 zb_r
  have zb_r : w.heap.size + 1 + 1 < w2.heap.size := HK_r_2.out.lt
  have cb_r_0 : w2.cell? ⟨w.heap.size + 1 + 1, 0, none⟩ = some (.int .i64 0) := HK_r_2.out.cell 0
  have cb_r_1 : w2.cell? ⟨w.heap.size + 1 + 1, 1, none⟩ = some (.int .i64 0) := HK_r_2.out.cell 1
  have cb_r_2 : w2.cell? ⟨w.heap.size + 1 + 1, 2, none⟩ = some (.slice none 0 0) := HK_r_2.out.cell 2
  have cb_r_3 : w2.cell? ⟨w.heap.size + 1 + 1, 3, none⟩ = some (.int .i64 0) := HK_r_2.out.cell 3
  have cb_r_4 : w2.cell? ⟨w.heap.size + 1 + 1, 4, none⟩ = some (.int .i64 0) := HK_r_2.out.cell 4
  have HB_2 := Lib.hid (bt HB_1.out hb2)
  clear hb2
  go_wp2_with fail
  have HLK := Lib.hid (IOwn.lit0 w2 w2.heap.size 35 6 (Nat.le_refl _))
  have HLI := Lib.hid (IOwn.lit0 (w2.alloc (.cells #[] 35)) (w2.heap.size + 1) 3 1 (by simp))
  go_loopw [7, 8, 25] (fun u v i wr => ∃ (k : Nat) (A1 : Option Addr) (n1 c1 : Nat) (A2 : Option Addr) (n2 c2 : Nat) (a1 b1 a2 b2 : Nat), k ≤ n ∧ i = .int .i64 k ∧ u = .slice A1 n1 c1 ∧ v = .slice A2 n2 c2 ∧ IOwn wr a1 b1 35 6 A1 n1 c1 (fl (rfK (L.take k) p)) ∧ IOwn wr a2 b2 3 1 A2 n2 c2 ((rfG (L.take k) p).map Pk.id) ∧ (w2.heap.size ≤ a1 ∧ a1 ≤ b1 ∧ b1 ≤ wr.heap.size ∧ w2.heap.size ≤ a2 ∧ a2 ≤ b2 ∧ b2 ≤ wr.heap.size ∧ (b1 ≤ a2 ∨ b2 ≤ a1)) ∧ Below w2.heap.size w2 wr) (fun _ _ i _ => n - (intOf i).toNat)
  case atStart => exact ⟨0, _, 0, 0, _, 0, 0, w2.heap.size, w2.heap.size + 1, w2.heap.size + 1, w2.heap.size + 1 + 1, Nat.zero_le _, rfl, rfl, rfl, HLK.out.alloc _, by have h := HLI.out; simpa [rfG] using h, by simp, ba (ba (b0 _) _) _⟩
  case round =>
    clear HLK HLI
    obtain ⟨k, A1, n1, c1, A2, n2, c2, a1, b1, a2, b2, hk, rfl, rfl, rfl, hkp, hgn, hsp, hb3⟩ := hrel
    obtain ⟨w3, hw3⟩ : ∃ x, x = wr := ⟨_, rfl⟩
    subst hw3
    have HKP := Lib.hid hkp
    have HGN := Lib.hid hgn
    have HB3 := Lib.hid hb3
    have hn1 : n1 ≤ 60 := by have := hkp.len; have := rfK_len (L.take k) p; rw [fl_len] at *; simp at *; have := HL.out; omega
    have hn2 : n2 ≤ 60 := by have := hgn.len; have := rfG_len (L.take k) p; rw [List.length_map] at *; simp at *; have := HL.out; omega
    clear hkp hgn
    have z3 := hb3.size
    (try simp at z3)
    have HK_q_3 : Hid (Bk w3 (w.heap.size) 30 #[.int .i64 li, .int .i64 by_, .slice A n cap, .int .i64 se, .int .i64 dr]) := Lib.hid (HK_q_2.out.old hb3)
    clear HK_q_2
    clear cb_q_0 cb_q_1 cb_q_2 cb_q_3 cb_q_4 zb_q
    have zb_q : w.heap.size < w3.heap.size := HK_q_3.out.lt
    have cb_q_0 : w3.cell? ⟨w.heap.size, 0, none⟩ = some (.int .i64 li) := HK_q_3.out.cell 0
    have cb_q_1 : w3.cell? ⟨w.heap.size, 1, none⟩ = some (.int .i64 by_) := HK_q_3.out.cell 1
    have cb_q_2 : w3.cell? ⟨w.heap.size, 2, none⟩ = some (.slice A n cap) := HK_q_3.out.cell 2
    have cb_q_3 : w3.cell? ⟨w.heap.size, 3, none⟩ = some (.int .i64 se) := HK_q_3.out.cell 3
    have cb_q_4 : w3.cell? ⟨w.heap.size, 4, none⟩ = some (.int .i64 dr) := HK_q_3.out.cell 4
    have HK_p_3 : Hid (Bk w3 (w.heap.size + 1) 35 #[.int .i64 p.id, .int .i64 p.so, .int .i64 p.de, .int .i64 p.po, .int .i64 p.ma, .int .i64 p.si]) := Lib.hid (HK_p_2.out.old hb3)
    clear HK_p_2
    clear cb_p_0 cb_p_1 cb_p_2 cb_p_3 cb_p_4 cb_p_5 zb_p
    have zb_p : w.heap.size + 1 < w3.heap.size := HK_p_3.out.lt
    have cb_p_0 : w3.cell? ⟨w.heap.size + 1, 0, none⟩ = some (.int .i64 p.id) := HK_p_3.out.cell 0
    have cb_p_1 : w3.cell? ⟨w.heap.size + 1, 1, none⟩ = some (.int .i64 p.so) := HK_p_3.out.cell 1
    have cb_p_2 : w3.cell? ⟨w.heap.size + 1, 2, none⟩ = some (.int .i64 p.de) := HK_p_3.out.cell 2
    have cb_p_3 : w3.cell? ⟨w.heap.size + 1, 3, none⟩ = some (.int .i64 p.po) := HK_p_3.out.cell 3
    have cb_p_4 : w3.cell? ⟨w.heap.size + 1, 4, none⟩ = some (.int .i64 p.ma) := HK_p_3.out.cell 4
    have cb_p_5 : w3.cell? ⟨w.heap.size + 1, 5, none⟩ = some (.int .i64 p.si) := HK_p_3.out.cell 5
    have HK_r_3 : Hid (Bk w3 (w.heap.size + 1 + 1) 30 #[.int .i64 0, .int .i64 0, .slice none 0 0, .int .i64 0, .int .i64 0]) := Lib.hid (HK_r_2.out.old hb3)
    clear HK_r_2
    clear cb_r_0 cb_r_1 cb_r_2 cb_r_3 cb_r_4 zb_r
    have zb_r : w.heap.size + 1 + 1 < w3.heap.size := HK_r_3.out.lt
    have cb_r_0 : w3.cell? ⟨w.heap.size + 1 + 1, 0, none⟩ = some (.int .i64 0) := HK_r_3.out.cell 0
    have cb_r_1 : w3.cell? ⟨w.heap.size + 1 + 1, 1, none⟩ = some (.int .i64 0) := HK_r_3.out.cell 1
    have cb_r_2 : w3.cell? ⟨w.heap.size + 1 + 1, 2, none⟩ = some (.slice none 0 0) := HK_r_3.out.cell 2
    have cb_r_3 : w3.cell? ⟨w.heap.size + 1 + 1, 3, none⟩ = some (.int .i64 0) := HK_r_3.out.cell 3
    have cb_r_4 : w3.cell? ⟨w.heap.size + 1 + 1, 4, none⟩ = some (.int .i64 0) := HK_r_3.out.cell 4
    have HB_3 := Lib.hid (bt HB_2.out hb3)
    clear hb3
    by_cases hlt : k < n
    · obtain ⟨g, off, x, rfl, hg, hpk, c0, c1', c2', c3, c4, c5⟩ := pk_at (HR_a.out.below HB_3.out) (k := k) (by have := HL.out; omega)
      have HPK := Lib.hid hpk
      clear hpk
      rcases hs : smf x p with _ | _
      · have HE1 := Lib.hid (rfK_no HPK.out hs)
        have HE2 := Lib.hid (rfG_no HPK.out hs)
        go_wp2_with fail
        refine (implSameFlow_b hs _).mono ?_
        rintro e w4 ⟨rfl, hb4⟩
        have z4 := hb4.size
        simp at z4
        have y : Bk w4 (w3.heap.size) 35 #[.int .i64 x.id, .int .i64 x.so, .int .i64 x.de, .int .i64 x.po, .int .i64 x.ma, .int .i64 x.si] := (Bk.new_ (by simp)).old hb4
        have zy : w3.heap.size < w4.heap.size := y.lt
        have y_0 : w4.cell? ⟨w3.heap.size, 0, none⟩ = some (.int .i64 x.id) := y.cell 0
        have y_1 : w4.cell? ⟨w3.heap.size, 1, none⟩ = some (.int .i64 x.so) := y.cell 1
        have y_2 : w4.cell? ⟨w3.heap.size, 2, none⟩ = some (.int .i64 x.de) := y.cell 2
        have y_3 : w4.cell? ⟨w3.heap.size, 3, none⟩ = some (.int .i64 x.po) := y.cell 3
        have y_4 : w4.cell? ⟨w3.heap.size, 4, none⟩ = some (.int .i64 x.ma) := y.cell 4
        have y_5 : w4.cell? ⟨w3.heap.size, 5, none⟩ = some (.int .i64 x.si) := y.cell 5
        have yf := y.free
        have Hy := Lib.hid y
        clear y
        have HK4 := Lib.hid ((HKP.out.alloc _).old hb4)
        have HG4 := Lib.hid ((HGN.out.alloc _).old hb4)
        have HB4 := Lib.hid (bt (ba HB3.out _) (hb4.mono (by first | omega | (simp; done) | (simp; omega))))
        clear hb4
        go_wp2_with (at_builtin; refine append_pkD rfl _ _ rfl (lo := a1) (hh := b1) (L := rfK (L.take k) p) rfl (HK4.out.alloc _) w4.heap.size x rfl (Bk.new_ rfl) (by omega) (by simp; omega) ?_; intro A' c' w5 lo' hi' hlh ho5 hc5; have HK5 := Lib.hid ho5; have z5 := hc5.size; simp at z5 hlh; have HG5 := Lib.hid ((HG4.out.alloc _).chg hc5 (by omega)); have HB5 := Lib.hid (Chg.below (ba HB4.out _) hc5 (by omega)); clear ho5 hc5)
        go_roundw
        case rel => exact ⟨k + 1, A', n1 + 1, c', A2, n2, c2, lo', hi', a2, b2, by omega, by go_num, rfl, rfl, by rw [HE1.out]; exact HK5.out, by rw [HE2.out]; exact HG5.out, by omega, HB5.out⟩
        case measure => simp [intOf]; omega
      · have HE1 := Lib.hid (rfK_yes HPK.out hs)
        have HE2 := Lib.hid (show (rfG (L.take (k + 1)) p).map Pk.id = (rfG (L.take k) p).map Pk.id ++ [x.id] from by rw [rfG_yes HPK.out hs]; simp)
        go_wp2_with fail
        refine (implSameFlow_b hs _).mono ?_
        rintro e w4 ⟨rfl, hb4⟩
        have z4 := hb4.size
        simp at z4
        have y : Bk w4 (w3.heap.size) 35 #[.int .i64 x.id, .int .i64 x.so, .int .i64 x.de, .int .i64 x.po, .int .i64 x.ma, .int .i64 x.si] := (Bk.new_ (by simp)).old hb4
        have zy : w3.heap.size < w4.heap.size := y.lt
        have y_0 : w4.cell? ⟨w3.heap.size, 0, none⟩ = some (.int .i64 x.id) := y.cell 0
        have y_1 : w4.cell? ⟨w3.heap.size, 1, none⟩ = some (.int .i64 x.so) := y.cell 1
        have y_2 : w4.cell? ⟨w3.heap.size, 2, none⟩ = some (.int .i64 x.de) := y.cell 2
        have y_3 : w4.cell? ⟨w3.heap.size, 3, none⟩ = some (.int .i64 x.po) := y.cell 3
        have y_4 : w4.cell? ⟨w3.heap.size, 4, none⟩ = some (.int .i64 x.ma) := y.cell 4
        have y_5 : w4.cell? ⟨w3.heap.size, 5, none⟩ = some (.int .i64 x.si) := y.cell 5
        have yf := y.free
        have Hy := Lib.hid y
        clear y
        have HK4 := Lib.hid ((HKP.out.alloc _).old hb4)
        have HG4 := Lib.hid ((HGN.out.alloc _).old hb4)
        have HB4 := Lib.hid (bt (ba HB3.out _) (hb4.mono (by first | omega | (simp; done) | (simp; omega))))
        clear hb4
        go_wp2_with (at_builtin; refine append_intD rfl _ _ rfl (lo := a2) (hh := b2) (l := (rfG (L.take k) p).map Pk.id) rfl (HG4.out.alloc _) w4.heap.size x.id rfl ((Bk.new_ rfl).cell 0) (by omega) (by simp; omega) ?_; intro A' c' w5 lo' hi' hlh ho5 hc5; have HG5 := Lib.hid ho5; have z5 := hc5.size; simp at z5 hlh; have HK5 := Lib.hid ((HK4.out.alloc _).chg hc5 (by omega)); have HB5 := Lib.hid (Chg.below (ba HB4.out _) hc5 (by omega)); clear ho5 hc5)
        go_roundw
        case rel => exact ⟨k + 1, A1, n1, c1, A', n2 + 1, c', a1, b1, lo', hi', by omega, by go_num, rfl, rfl, by rw [HE1.out]; exact HK5.out, by rw [HE2.out]; exact HG5.out, by omega, HB5.out⟩
        case measure => simp [intOf]; omega
    obtain rfl : n = k := by omega
    have HO_k_3 := Lib.hid (show IOwn w3 a1 b1 35 6 A1 n1 c1 (fl (rfK L p)) from by have h := HKP.out; rwa [List.take_of_length_le (by have := HL.out; omega)] at h)
    have HO_g_3 := Lib.hid (show IOwn w3 a2 b2 3 1 A2 n2 c2 ((rfG L p).map Pk.id) from by have h := HGN.out; rwa [List.take_of_length_le (by have := HL.out; omega)] at h)
    clear HKP HGN
    have HNK := Lib.hid (show (rfK L p).length = n1 from by have := HO_k_3.out.len; rw [fl_len] at this; omega)
    have HNG := Lib.hid (show (rfG L p).length = n2 from by have := HO_g_3.out.len; rw [List.length_map] at this; omega)
    have HRO := Lib.hid (show rfOk li by_ L se dr p = cnt (dr + (n2 : Int)) from by rw [rfOk, HQ.out, hp, HNG.out]; rfl)
    have qf := HK_q_3.out.free
    go_wp2_with fail
    obtain ⟨w4, hW⟩ : ∃ x, x = (w3.setCell ⟨w.heap.size, 2, none⟩ (.slice A1 n1 c1)).setCell ⟨w.heap.size, 4, none⟩ (.int .i64 (dr + (n2 : Int))) := ⟨_, rfl⟩
    rw [← hW]
    have Q4 := Lib.hid (show Bk w4 w.heap.size 30 #[.int .i64 li, .int .i64 by_, .slice A1 n1 c1, .int .i64 se, .int .i64 (dr + (n2 : Int))] from by rw [hW]; have h := (HK_q_3.out.set 2 (.slice A1 n1 c1)).set 4 (.int .i64 (dr + (n2 : Int))); simpa using h)
    have R4 := Lib.hid (show Bk w4 (w.heap.size + 1 + 1) 30 #[.int .i64 0, .int .i64 0, .slice none 0 0, .int .i64 0, .int .i64 0] from by rw [hW]; exact (HK_r_3.out.farB (by omega)).farB (by omega))
    have K4 := Lib.hid (show IOwn w4 a1 b1 35 6 A1 n1 c1 (fl (rfK L p)) from by rw [hW]; exact (HO_k_3.out.farC (.inl (by omega))).farC (.inl (by omega)))
    have G4 := Lib.hid (show IOwn w4 a2 b2 3 1 A2 n2 c2 ((rfG L p).map Pk.id) from by rw [hW]; exact (HO_g_3.out.farC (.inl (by omega))).farC (.inl (by omega)))
    have B4 := Lib.hid (show Below w.heap.size w w4 from by rw [hW]; exact bsB (bsB HB_3.out (Nat.le_refl _)) (Nat.le_refl _))
    have z4 : w4.heap.size = w3.heap.size := by rw [hW]; simp [World.setCell]
    clear hW qf cb_r_0 cb_r_1 cb_r_2 cb_r_3 cb_r_4 cb_q_0 cb_q_1 cb_q_2 cb_q_3 cb_q_4
    rcases hc : cnt (dr + (n2 : Int)) with _ | _
    · have HPD := Lib.hid (RfP_no (w := w) (HRO.out.trans hc))
      refine (ifQueue_b _ _ _ _ _ _ _ _ (show (cnt se && cnt (dr + (n2 : Int))) = false by rw [hc, Bool.and_false])).mono ?_
      rintro e w5 ⟨rfl, hb5⟩
      clear hc
      have r : Bk w5 (w.heap.size + 1 + 1) 30 #[.int .i64 0, .int .i64 0, .slice none 0 0, .int .i64 0, .int .i64 0] := R4.out.old hb5
      have zr : w.heap.size + 1 + 1 < w5.heap.size := r.lt
      have r_0 : w5.cell? ⟨w.heap.size + 1 + 1, 0, none⟩ = some (.int .i64 0) := r.cell 0
      have r_1 : w5.cell? ⟨w.heap.size + 1 + 1, 1, none⟩ = some (.int .i64 0) := r.cell 1
      have r_2 : w5.cell? ⟨w.heap.size + 1 + 1, 2, none⟩ = some (.slice none 0 0) := r.cell 2
      have r_3 : w5.cell? ⟨w.heap.size + 1 + 1, 3, none⟩ = some (.int .i64 0) := r.cell 3
      have r_4 : w5.cell? ⟨w.heap.size + 1 + 1, 4, none⟩ = some (.int .i64 0) := r.cell 4
      have rf := r.free
      have Hr := Lib.hid r
      clear r
      have B5 := Lib.hid (bt B4.out hb5)
      clear hb5
      go_wp2_with fail
      exact bodyPost_ret (v := .tuple #[.agg #[.int .i64 0, .int .i64 0, .slice none 0 0, .int .i64 0, .int .i64 0], .slice none 0 0, .bool false]) (by simp [results, Try.results35, go_sem, r_0, r_1, r_2, r_3, r_4]) rfl (by rw [HPD.out]; exact NewQI.none_ rfl (by repeat (first | (with_reducible exact B5.out) | (with_reducible refine ba ?_ _) | (with_reducible refine bsB ?_ (by omega)) | (with_reducible refine bd ?_ _) | (with_reducible refine Below.drew ?_))))
    have HPD := Lib.hid (RfP_yes (w := w) (HRO.out.trans hc))
    refine (ifQueue_b _ _ _ _ _ _ _ _ (show (cnt se && cnt (dr + (n2 : Int))) = true by rw [hc, cnt_iff.2 s1]; rfl)).mono ?_
    rintro e w5 ⟨rfl, hb5⟩
    clear hc
    have z5 := hb5.size
    have r : Bk w5 (w.heap.size + 1 + 1) 30 #[.int .i64 0, .int .i64 0, .slice none 0 0, .int .i64 0, .int .i64 0] := R4.out.old hb5
    have zr : w.heap.size + 1 + 1 < w5.heap.size := r.lt
    have r_0 : w5.cell? ⟨w.heap.size + 1 + 1, 0, none⟩ = some (.int .i64 0) := r.cell 0
    have r_1 : w5.cell? ⟨w.heap.size + 1 + 1, 1, none⟩ = some (.int .i64 0) := r.cell 1
    have r_2 : w5.cell? ⟨w.heap.size + 1 + 1, 2, none⟩ = some (.slice none 0 0) := r.cell 2
    have r_3 : w5.cell? ⟨w.heap.size + 1 + 1, 3, none⟩ = some (.int .i64 0) := r.cell 3
    have r_4 : w5.cell? ⟨w.heap.size + 1 + 1, 4, none⟩ = some (.int .i64 0) := r.cell 4
    have rf := r.free
    have Hr := Lib.hid r
    clear r
    have q : Bk w5 (w.heap.size) 30 #[.int .i64 li, .int .i64 by_, .slice A1 n1 c1, .int .i64 se, .int .i64 (dr + (n2 : Int))] := Q4.out.old hb5
    have zq : w.heap.size < w5.heap.size := q.lt
    have q_0 : w5.cell? ⟨w.heap.size, 0, none⟩ = some (.int .i64 li) := q.cell 0
    have q_1 : w5.cell? ⟨w.heap.size, 1, none⟩ = some (.int .i64 by_) := q.cell 1
    have q_2 : w5.cell? ⟨w.heap.size, 2, none⟩ = some (.slice A1 n1 c1) := q.cell 2
    have q_3 : w5.cell? ⟨w.heap.size, 3, none⟩ = some (.int .i64 se) := q.cell 3
    have q_4 : w5.cell? ⟨w.heap.size, 4, none⟩ = some (.int .i64 (dr + (n2 : Int))) := q.cell 4
    have qf := q.free
    have Hq := Lib.hid q
    clear q
    have B5 := Lib.hid (bt B4.out hb5)
    have K5 := Lib.hid (K4.out.old hb5)
    have G5 := Lib.hid (G4.out.old hb5)
    clear hb5
    go_wp2_with fail
    refine bodyPost_ret (v := .tuple #[.agg #[.int .i64 li, .int .i64 by_, .slice A1 n1 c1, .int .i64 se, .int .i64 (dr + (n2 : Int))], .slice A2 n2 c2, .bool true]) (by simp [results, Try.results35, go_sem, r_0, r_1, r_2, r_3, r_4]) rfl (by rw [HPD.out, HNK.out, HNG.out]; exact NewQI.mk rfl (by refine IOwn.lo_le (lo := a1) (IOwn.here (hi := b1) ?_) (by omega); repeat (first | (with_reducible exact K5.out) | (with_reducible refine IOwn.alloc ?_ _) | (with_reducible refine IOwn.farC ?_ (by omega)) | (with_reducible refine IOwn.drew ?_))) (by refine IOwn.lo_le (lo := a2) (IOwn.here (hi := b2) ?_) (by omega); repeat (first | (with_reducible exact G5.out) | (with_reducible refine IOwn.alloc ?_ _) | (with_reducible refine IOwn.farC ?_ (by omega)) | (with_reducible refine IOwn.drew ?_))) (by repeat (first | (with_reducible exact B5.out) | (with_reducible refine ba ?_ _) | (with_reducible refine bsB ?_ (by omega)) | (with_reducible refine bd ?_ _) | (with_reducible refine Below.drew ?_))))
theorem specRemoveFlow_any (li by_ : Int) (A : Option Addr) (n cap : Nat) (se dr : Int) (L : List Pk) (p : Pk) (w : World) (hl : L.length = n) (hr : IRow w A (fl L)) (hn : n ≤ 1048576) (hcap : n ≤ cap) (hA : A = none → cap = 0) :
    Calls Try.prog 34 #[.agg #[.int .i64 li, .int .i64 by_, .slice A n cap, .int .i64 se, .int .i64 dr], .agg #[.int .i64 (p.id), .int .i64 (p.so), .int .i64 (p.de), .int .i64 (p.po), .int .i64 (p.ma), .int .i64 (p.si)]] w (RfP w li by_ L se dr p) := by
  rcases h : qok li by_ L se dr with _ | _
  · exact specRf_bad li by_ A n cap se dr L p w hl hr hn hcap hA h
  rcases hp : p.ok with _ | _
  · exact specRf_badp li by_ A n cap se dr L p w hl hr hn hcap hA h hp
  · exact specRf_fit li by_ A n cap se dr L p w hl hr hn hcap hA h hp
theorem implRemoveFlow_any (li by_ : Int) (A : Option Addr) (n cap : Nat) (se dr : Int) (L : List Pk) (p : Pk) (w : World) (hl : L.length = n) (hr : IRow w A (fl L)) (hn : n ≤ 1048576) (hcap : n ≤ cap) (hA : A = none → cap = 0) :
    Calls Try.prog 35 #[.agg #[.int .i64 li, .int .i64 by_, .slice A n cap, .int .i64 se, .int .i64 dr], .agg #[.int .i64 (p.id), .int .i64 (p.so), .int .i64 (p.de), .int .i64 (p.po), .int .i64 (p.ma), .int .i64 (p.si)]] w (RfP w li by_ L se dr p) := by
  rcases h : qok li by_ L se dr with _ | _
  · exact implRf_bad li by_ A n cap se dr L p w hl hr hn hcap hA h
  rcases hp : p.ok with _ | _
  · exact implRf_badp li by_ A n cap se dr L p w hl hr hn hcap hA h hp
  · exact implRf_fit li by_ A n cap se dr L p w hl hr hn hcap hA h hp
end Go.Proofs.Ytgdldmeeaejjpaa
