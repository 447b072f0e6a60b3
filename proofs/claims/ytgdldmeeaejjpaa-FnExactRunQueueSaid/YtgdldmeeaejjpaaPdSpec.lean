/- The contracts of the reference's PutDropHead. -/
import Derived.Test.YtgdldmeeaejjpaaPdLaw
import Derived.Test.YtgdldmeeaejjpaaQuBig
import Derived.Test.YtgdldmeeaejjpaaTakeHead
import Derived.Deep.RegionHeld3
namespace Go.Proofs.Ytgdldmeeaejjpaa
open Go.ChangeShapes Go.WideShapes Go.ChangeAt Go.RowKit
set_option linter.unusedVariables false
/-- The rest of a row, at the address as the machine reckons it. -/
theorem row_rest {w : World} {A A1 : Option Addr} {L : List Pk} {k cap : Nat} (h : IRow w A (fl L)) (hl : L.length ≤ cap) (hA : (if cap = k then A else A.map (·.add (k * 6))) = A1) : IRow w A1 (fl (L.drop k)) := by
  subst hA
  split
  · rename_i e
    rw [List.drop_eq_nil_of_le (by omega)]
    exact IRow.nil _ _
  · intro hp
    have hp' := hp
    rw [← fl_drop, List.length_drop] at hp'
    obtain ⟨g, off, rfl, _, _⟩ := h.at_ (k := k * 6) (by omega)
    have hd := row_drop h k
    by_cases h0 : k * 6 = 0
    · rw [h0, Nat.add_zero] at hd
      have : (Option.map (fun x : Addr => x.add (k * 6)) (some ⟨g, off, none⟩)) = some ⟨g, off, none⟩ := by simp [Addr.add, h0]
      rw [this]
      exact hd hp
    · have : (Option.map (fun x : Addr => x.add (k * 6)) (some ⟨g, off, none⟩)) = some ⟨g, off + k * 6, none⟩ := by simp [Addr.add, h0]
      rw [this]
      exact hd hp
theorem rest_none {A A1 : Option Addr} {k cap : Nat} (hA : (if cap = k then A else A.map (·.add (k * 6))) = A1) (h0 : A = none → cap = 0) : A1 = none → cap - k = 0 := by
  subst hA
  intro h
  split at h
  · omega
  · have := h0 (by simpa using h)
    omega
theorem IOwn.one {w : World} {lo hi g e : Nat} {v : Int} (h : Bk w g e #[.int .i64 v]) (h1 : lo ≤ g) (h2 : g < hi) : IOwn w lo hi e 1 (some ⟨g, 0, none⟩) 1 1 [v] := by
  refine ⟨⟨by simp, .inr ⟨g, 1, _, rfl, h1, h, Nat.le_refl _, by unfold maxLen; omega, by simp, by simp⟩⟩, fun k hk => ?_⟩
  simp [Value.ownBlock] at hk
  omega
theorem quAsked_b {b : Bool} (li by_ : Int) (A : Option Addr) (n cap : Nat) (se dr : Int) (L : List Pk) (p : Pk) (w : World) (hl : L.length = n) (hr : IRow w A (fl L)) (hn : n ≤ 1048576) (hcap : n ≤ cap) (h : askd li by_ L se dr p = b) :
    Calls Try.prog 48 #[.agg #[.int .i64 li, .int .i64 by_, .slice A n cap, .int .i64 se, .int .i64 dr], .agg #[.int .i64 (p.id), .int .i64 (p.so), .int .i64 (p.de), .int .i64 (p.po), .int .i64 (p.ma), .int .i64 (p.si)]] w fun e w' => e = .returned (.bool b) ∧ Below w.heap.size w w' := h ▸ quAsked_any li by_ A n cap se dr L p w hl hr hn hcap
def PdP (w : World) (li by_ : Int) (L : List Pk) (se dr : Int) (p : Pk) : Ending → World → Prop :=
  NewQI w (ifz (pdOk li by_ L se dr p) li) (ifz (pdOk li by_ L se dr p) by_) (ifL (pdOk li by_ L se dr p) (pdL by_ (dn li by_ p L) L p)).length (ifL (pdOk li by_ L se dr p) (pdL by_ (dn li by_ p L) L p)) (ifz (pdOk li by_ L se dr p) se) (ifz (pdOk li by_ L se dr p) (pdD by_ (dn li by_ p L) p dr)) (ifl (pdOk li by_ L se dr p) (pdI by_ (dn li by_ p L) L p)) (pdOk li by_ L se dr p)
theorem PdP_no {w : World} {li by_ : Int} {L : List Pk} {se dr : Int} {p : Pk} (h : pdOk li by_ L se dr p = false) : PdP w li by_ L se dr p = NewQI w 0 0 0 [] 0 0 [] false := by simp [PdP, h, ifz, ifL, ifl]
theorem PdP_big {w : World} {li by_ : Int} {L : List Pk} {se dr : Int} {p : Pk} (h : askd li by_ L se dr p = true) (hb : ¬ p.si ≤ by_) (hc : cnt (dr + 1) = true) : PdP w li by_ L se dr p = NewQI w li by_ L.length L se (dr + 1) [p.id] true := by
  have h1 : pdOk li by_ L se dr p = true := by simp [pdOk, h, pdD, hb, hc]
  simp [PdP, h1, ifz, ifL, ifl, pdL, pdD, pdI, hb]
theorem PdP_fit {w : World} {li by_ : Int} {L : List Pk} {se dr : Int} {p : Pk} {k : Nat} (hk : dn li by_ p L = k) (h : askd li by_ L se dr p = true) (hb : p.si ≤ by_) (hc : cnt (dr + (k : Int)) = true) : PdP w li by_ L se dr p = NewQI w li by_ (L.drop k ++ [p]).length (L.drop k ++ [p]) se (dr + (k : Int)) ((L.take k).map Pk.id) true := by
  subst hk
  have h1 : pdOk li by_ L se dr p = true := by simp [pdOk, h, pdD, hb, hc]
  simp [PdP, h1, ifz, ifL, ifl, pdL, pdD, pdI, hb]
set_option maxHeartbeats 1000000 in
theorem specPdh_bad (li by_ : Int) (A : Option Addr) (n cap : Nat) (se dr : Int) (L : List Pk) (p : Pk) (w : World) (hl : L.length = n) (hr : IRow w A (fl L)) (hn : n ≤ 1048576) (hcap : n ≤ cap) (hA : A = none → cap = 0) (h : askd li by_ L se dr p = false) :
    Calls Try.prog 13 #[.agg #[.int .i64 li, .int .i64 by_, .slice A n cap, .int .i64 se, .int .i64 dr], .agg #[.int .i64 (p.id), .int .i64 (p.so), .int .i64 (p.de), .int .i64 (p.po), .int .i64 (p.ma), .int .i64 (p.si)]] w (PdP w li by_ L se dr p) := by
  rw [PdP_no (show pdOk li by_ L se dr p = false by simp [pdOk, h])]
  have HL := Lib.hid hl
  have HQ := Lib.hid h
  have HR_a := Lib.hid hr
  clear hl hr h hA
  go_enter Try.func13, Try.ntmps13
  go_wp2_with fail
  refine (quAsked_b _ _ _ _ _ _ _ L p _ HL.out (HR_a.out.below (ba (ba (ba (b0 w) _) _) _)) (by omega) hcap HQ.out).mono ?_
  rintro e w1 ⟨rfl, hb1⟩
  have z1 := hb1.size
  (try simp at z1)
  have HK_q_1 : Hid (Bk w1 (w.heap.size) 30 #[.int .i64 li, .int .i64 by_, .slice A n cap, .int .i64 se, .int .i64 dr]) := Lib.hid ((((Bk.new_ (by simp) : Bk _ (w.heap.size) 30 #[.int .i64 li, .int .i64 by_, .slice A n cap, .int .i64 se, .int .i64 dr]).alloc _).alloc _).old hb1)
  have zb_q : w.heap.size < w1.heap.size := HK_q_1.out.lt
  have cb_q_0 : w1.cell? ⟨w.heap.size, 0, none⟩ = some (.int .i64 li) := HK_q_1.out.cell 0
  have cb_q_1 : w1.cell? ⟨w.heap.size, 1, none⟩ = some (.int .i64 by_) := HK_q_1.out.cell 1
  have cb_q_2 : w1.cell? ⟨w.heap.size, 2, none⟩ = some (.slice A n cap) := HK_q_1.out.cell 2
  have cb_q_3 : w1.cell? ⟨w.heap.size, 3, none⟩ = some (.int .i64 se) := HK_q_1.out.cell 3
  have cb_q_4 : w1.cell? ⟨w.heap.size, 4, none⟩ = some (.int .i64 dr) := HK_q_1.out.cell 4
  have HK_p_1 : Hid (Bk w1 (w.heap.size + 1) 35 #[.int .i64 p.id, .int .i64 p.so, .int .i64 p.de, .int .i64 p.po, .int .i64 p.ma, .int .i64 p.si]) := Lib.hid (((Bk.new_ (by simp) : Bk _ (w.heap.size + 1) 35 #[.int .i64 p.id, .int .i64 p.so, .int .i64 p.de, .int .i64 p.po, .int .i64 p.ma, .int .i64 p.si]).alloc _).old hb1)
  have zb_p : w.heap.size + 1 < w1.heap.size := HK_p_1.out.lt
  have cb_p_0 : w1.cell? ⟨w.heap.size + 1, 0, none⟩ = some (.int .i64 p.id) := HK_p_1.out.cell 0
  have cb_p_1 : w1.cell? ⟨w.heap.size + 1, 1, none⟩ = some (.int .i64 p.so) := HK_p_1.out.cell 1
  have cb_p_2 : w1.cell? ⟨w.heap.size + 1, 2, none⟩ = some (.int .i64 p.de) := HK_p_1.out.cell 2
  have cb_p_3 : w1.cell? ⟨w.heap.size + 1, 3, none⟩ = some (.int .i64 p.po) := HK_p_1.out.cell 3
  have cb_p_4 : w1.cell? ⟨w.heap.size + 1, 4, none⟩ = some (.int .i64 p.ma) := HK_p_1.out.cell 4
  have cb_p_5 : w1.cell? ⟨w.heap.size + 1, 5, none⟩ = some (.int .i64 p.si) := HK_p_1.out.cell 5
  have HK_r_1 : Hid (Bk w1 (w.heap.size + 1 + 1) 30 #[.int .i64 0, .int .i64 0, .slice none 0 0, .int .i64 0, .int .i64 0]) := Lib.hid ((Bk.new_ (by simp) : Bk _ (w.heap.size + 1 + 1) 30 #[.int .i64 0, .int .i64 0, .slice none 0 0, .int .i64 0, .int .i64 0]).old hb1)
  have zb_r : w.heap.size + 1 + 1 < w1.heap.size := HK_r_1.out.lt
  have cb_r_0 : w1.cell? ⟨w.heap.size + 1 + 1, 0, none⟩ = some (.int .i64 0) := HK_r_1.out.cell 0
  have cb_r_1 : w1.cell? ⟨w.heap.size + 1 + 1, 1, none⟩ = some (.int .i64 0) := HK_r_1.out.cell 1
  have cb_r_2 : w1.cell? ⟨w.heap.size + 1 + 1, 2, none⟩ = some (.slice none 0 0) := HK_r_1.out.cell 2
  have cb_r_3 : w1.cell? ⟨w.heap.size + 1 + 1, 3, none⟩ = some (.int .i64 0) := HK_r_1.out.cell 3
  have cb_r_4 : w1.cell? ⟨w.heap.size + 1 + 1, 4, none⟩ = some (.int .i64 0) := HK_r_1.out.cell 4
  have HB_1 := Lib.hid (bt (ba (ba (ba (b0 w) _) _) _) hb1)
  clear hb1
  have rf := HK_r_1.out.free
  go_wp2_with fail
  exact bodyPost_ret (v := .tuple #[.agg #[.int .i64 0, .int .i64 0, .slice none 0 0, .int .i64 0, .int .i64 0], .slice none 0 0, .bool false]) (by simp [results, Try.results13, go_sem, cb_r_0, cb_r_1, cb_r_2, cb_r_3, cb_r_4]) rfl (NewQI.none_ rfl (by repeat (first | (with_reducible exact HB_1.out) | (with_reducible refine ba ?_ _) | (with_reducible refine bsB ?_ (by omega)) | (with_reducible refine bd ?_ _) | (with_reducible refine Below.drew ?_))))
set_option maxHeartbeats 2000000 in
theorem specPdh_big (li by_ : Int) (A : Option Addr) (n cap : Nat) (se dr : Int) (L : List Pk) (p : Pk) (w : World) (hl : L.length = n) (hr : IRow w A (fl L)) (hn : n ≤ 1048576) (hcap : n ≤ cap) (hA : A = none → cap = 0) (h : askd li by_ L se dr p = true) (hb : ¬ p.si ≤ by_) (hc : cnt (dr + 1) = true) :
    Calls Try.prog 13 #[.agg #[.int .i64 li, .int .i64 by_, .slice A n cap, .int .i64 se, .int .i64 dr], .agg #[.int .i64 (p.id), .int .i64 (p.so), .int .i64 (p.de), .int .i64 (p.po), .int .i64 (p.ma), .int .i64 (p.si)]] w (PdP w li by_ L se dr p) := by
  rw [PdP_big h hb hc, hl]
  have HL := Lib.hid hl
  have HQ := Lib.hid h
  have HR_a := Lib.hid hr
  have HA := Lib.hid hA
  have g0 := qok_iff.1 (askd_iff.1 h).1
  have s1 : 0 ≤ se ∧ se ≤ 1000000 := g0.2.2.2.1
  have d1 : 0 ≤ dr ∧ dr ≤ 1000000 := g0.2.2.2.2.1
  have HI := Lib.hid (show qok li by_ L se (dr + 1) = true by rw [qok_counts (askd_iff.1 h).1, hc, cnt_iff.2 s1]; rfl)
  have hb' : decide (p.si ≤ by_) = false := decide_eq_false hb
  clear hl hr h hA g0 hc hb
  go_enter Try.func13, Try.ntmps13
  go_wp2_with fail
  refine (quAsked_b _ _ _ _ _ _ _ L p _ HL.out (HR_a.out.below (ba (ba (ba (b0 w) _) _) _)) (by omega) hcap HQ.out).mono ?_
  rintro e w1 ⟨rfl, hb1⟩
  have z1 := hb1.size
  (try simp at z1)
  have HK_q_1 : Hid (Bk w1 (w.heap.size) 30 #[.int .i64 li, .int .i64 by_, .slice A n cap, .int .i64 se, .int .i64 dr]) := Lib.hid ((((Bk.new_ (by simp) : Bk _ (w.heap.size) 30 #[.int .i64 li, .int .i64 by_, .slice A n cap, .int .i64 se, .int .i64 dr]).alloc _).alloc _).old hb1)
  have zb_q : w.heap.size < w1.heap.size := HK_q_1.out.lt
  have cb_q_0 : w1.cell? ⟨w.heap.size, 0, none⟩ = some (.int .i64 li) := HK_q_1.out.cell 0
  have cb_q_1 : w1.cell? ⟨w.heap.size, 1, none⟩ = some (.int .i64 by_) := HK_q_1.out.cell 1
  have cb_q_2 : w1.cell? ⟨w.heap.size, 2, none⟩ = some (.slice A n cap) := HK_q_1.out.cell 2
  have cb_q_3 : w1.cell? ⟨w.heap.size, 3, none⟩ = some (.int .i64 se) := HK_q_1.out.cell 3
  have cb_q_4 : w1.cell? ⟨w.heap.size, 4, none⟩ = some (.int .i64 dr) := HK_q_1.out.cell 4
  have HK_p_1 : Hid (Bk w1 (w.heap.size + 1) 35 #[.int .i64 p.id, .int .i64 p.so, .int .i64 p.de, .int .i64 p.po, .int .i64 p.ma, .int .i64 p.si]) := Lib.hid (((Bk.new_ (by simp) : Bk _ (w.heap.size + 1) 35 #[.int .i64 p.id, .int .i64 p.so, .int .i64 p.de, .int .i64 p.po, .int .i64 p.ma, .int .i64 p.si]).alloc _).old hb1)
  have zb_p : w.heap.size + 1 < w1.heap.size := HK_p_1.out.lt
  have cb_p_0 : w1.cell? ⟨w.heap.size + 1, 0, none⟩ = some (.int .i64 p.id) := HK_p_1.out.cell 0
  have cb_p_1 : w1.cell? ⟨w.heap.size + 1, 1, none⟩ = some (.int .i64 p.so) := HK_p_1.out.cell 1
  have cb_p_2 : w1.cell? ⟨w.heap.size + 1, 2, none⟩ = some (.int .i64 p.de) := HK_p_1.out.cell 2
  have cb_p_3 : w1.cell? ⟨w.heap.size + 1, 3, none⟩ = some (.int .i64 p.po) := HK_p_1.out.cell 3
  have cb_p_4 : w1.cell? ⟨w.heap.size + 1, 4, none⟩ = some (.int .i64 p.ma) := HK_p_1.out.cell 4
  have cb_p_5 : w1.cell? ⟨w.heap.size + 1, 5, none⟩ = some (.int .i64 p.si) := HK_p_1.out.cell 5
  have HK_r_1 : Hid (Bk w1 (w.heap.size + 1 + 1) 30 #[.int .i64 0, .int .i64 0, .slice none 0 0, .int .i64 0, .int .i64 0]) := Lib.hid ((Bk.new_ (by simp) : Bk _ (w.heap.size + 1 + 1) 30 #[.int .i64 0, .int .i64 0, .slice none 0 0, .int .i64 0, .int .i64 0]).old hb1)
  have zb_r : w.heap.size + 1 + 1 < w1.heap.size := HK_r_1.out.lt
  have cb_r_0 : w1.cell? ⟨w.heap.size + 1 + 1, 0, none⟩ = some (.int .i64 0) := HK_r_1.out.cell 0
  have cb_r_1 : w1.cell? ⟨w.heap.size + 1 + 1, 1, none⟩ = some (.int .i64 0) := HK_r_1.out.cell 1
  have cb_r_2 : w1.cell? ⟨w.heap.size + 1 + 1, 2, none⟩ = some (.slice none 0 0) := HK_r_1.out.cell 2
  have cb_r_3 : w1.cell? ⟨w.heap.size + 1 + 1, 3, none⟩ = some (.int .i64 0) := HK_r_1.out.cell 3
  have cb_r_4 : w1.cell? ⟨w.heap.size + 1 + 1, 4, none⟩ = some (.int .i64 0) := HK_r_1.out.cell 4
  have HB_1 := Lib.hid (bt (ba (ba (ba (b0 w) _) _) _) hb1)
  clear hb1
  have rf := HK_r_1.out.free
  go_wp2_with fail
  refine (quWithB_any _ _ _ _ _ _ _ _ _ _ L _ _ _ HL.out (HR_a.out.below (ba HB_1.out _)) HA.out (by omega) (by omega) (by omega) (by omega) (by omega)).mono ?_
  rintro e w2 ⟨A_u, cap_u, rfl, ho_u, hb2⟩
  have HN_u := Lib.hid ho_u.len
  have HO_u_2 := Lib.hid ho_u
  clear ho_u
  have z2 := hb2.size
  (try simp at z2)
  have HK_q_2 : Hid (Bk w2 (w.heap.size) 30 #[.int .i64 li, .int .i64 by_, .slice A n cap, .int .i64 se, .int .i64 dr]) := Lib.hid ((HK_q_1.out.alloc _).old hb2)
  clear HK_q_1
  clear cb_q_0 cb_q_1 cb_q_2 cb_q_3 cb_q_4 zb_q
  have zb_q : w.heap.size < w2.heap.size := HK_q_2.out.lt
  have cb_q_0 : w2.cell? ⟨w.heap.size, 0, none⟩ = some (.int .i64 li) := HK_q_2.out.cell 0
  have cb_q_1 : w2.cell? ⟨w.heap.size, 1, none⟩ = some (.int .i64 by_) := HK_q_2.out.cell 1
  have cb_q_2 : w2.cell? ⟨w.heap.size, 2, none⟩ = some (.slice A n cap) := HK_q_2.out.cell 2
  have cb_q_3 : w2.cell? ⟨w.heap.size, 3, none⟩ = some (.int .i64 se) := HK_q_2.out.cell 3
  have cb_q_4 : w2.cell? ⟨w.heap.size, 4, none⟩ = some (.int .i64 dr) := HK_q_2.out.cell 4
  have HK_p_2 : Hid (Bk w2 (w.heap.size + 1) 35 #[.int .i64 p.id, .int .i64 p.so, .int .i64 p.de, .int .i64 p.po, .int .i64 p.ma, .int .i64 p.si]) := Lib.hid ((HK_p_1.out.alloc _).old hb2)
  clear HK_p_1
  clear cb_p_0 cb_p_1 cb_p_2 cb_p_3 cb_p_4 cb_p_5 zb_p
  have zb_p : w.heap.size + 1 < w2.heap.size := HK_p_2.out.lt
  have cb_p_0 : w2.cell? ⟨w.heap.size + 1, 0, none⟩ = some (.int .i64 p.id) := HK_p_2.out.cell 0
  have cb_p_1 : w2.cell? ⟨w.heap.size + 1, 1, none⟩ = some (.int .i64 p.so) := HK_p_2.out.cell 1
  have cb_p_2 : w2.cell? ⟨w.heap.size + 1, 2, none⟩ = some (.int .i64 p.de) := HK_p_2.out.cell 2
  have cb_p_3 : w2.cell? ⟨w.heap.size + 1, 3, none⟩ = some (.int .i64 p.po) := HK_p_2.out.cell 3
  have cb_p_4 : w2.cell? ⟨w.heap.size + 1, 4, none⟩ = some (.int .i64 p.ma) := HK_p_2.out.cell 4
  have cb_p_5 : w2.cell? ⟨w.heap.size + 1, 5, none⟩ = some (.int .i64 p.si) := HK_p_2.out.cell 5
  have HK_r_2 : Hid (Bk w2 (w.heap.size + 1 + 1) 30 #[.int .i64 0, .int .i64 0, .slice none 0 0, .int .i64 0, .int .i64 0]) := Lib.hid ((HK_r_1.out.alloc _).old hb2)
  clear HK_r_1
  clear cb_r_0 cb_r_1 cb_r_2 cb_r_3 cb_r_4 zb_r
  have zb_r : w.heap.size + 1 + 1 < w2.heap.size := HK_r_2.out.lt
  have cb_r_0 : w2.cell? ⟨w.heap.size + 1 + 1, 0, none⟩ = some (.int .i64 0) := HK_r_2.out.cell 0
  have cb_r_1 : w2.cell? ⟨w.heap.size + 1 + 1, 1, none⟩ = some (.int .i64 0) := HK_r_2.out.cell 1
  have cb_r_2 : w2.cell? ⟨w.heap.size + 1 + 1, 2, none⟩ = some (.slice none 0 0) := HK_r_2.out.cell 2
  have cb_r_3 : w2.cell? ⟨w.heap.size + 1 + 1, 3, none⟩ = some (.int .i64 0) := HK_r_2.out.cell 3
  have cb_r_4 : w2.cell? ⟨w.heap.size + 1 + 1, 4, none⟩ = some (.int .i64 0) := HK_r_2.out.cell 4
  have HK_i1_2 : Hid (Bk w2 (w1.heap.size) 3 #[.int .i64 p.id]) := Lib.hid ((Bk.new_ (by simp) : Bk _ (w1.heap.size) 3 #[.int .i64 p.id]).old hb2)
  have zb_i1 : w1.heap.size < w2.heap.size := HK_i1_2.out.lt
  have cb_i1_0 : w2.cell? ⟨w1.heap.size, 0, none⟩ = some (.int .i64 p.id) := HK_i1_2.out.cell 0
  have HB_2 := Lib.hid (bt (ba HB_1.out _) hb2)
  clear hb2
  rw [Int.add_zero]
  go_wp2_with fail
  refine (quIf_yes _ _ _ n _ _ _ L _ HL.out (HO_u_2.out.alloc _).row (by omega) HI.out).mono ?_
  rintro e w3 ⟨rfl, hb3⟩
  have z3 := hb3.size
  (try simp at z3)
  have HK_q_3 : Hid (Bk w3 (w.heap.size) 30 #[.int .i64 li, .int .i64 by_, .slice A n cap, .int .i64 se, .int .i64 dr]) := Lib.hid ((HK_q_2.out.alloc _).old hb3)
  clear HK_q_2
  clear cb_q_0 cb_q_1 cb_q_2 cb_q_3 cb_q_4 zb_q
  have zb_q : w.heap.size < w3.heap.size := HK_q_3.out.lt
  have cb_q_0 : w3.cell? ⟨w.heap.size, 0, none⟩ = some (.int .i64 li) := HK_q_3.out.cell 0
  have cb_q_1 : w3.cell? ⟨w.heap.size, 1, none⟩ = some (.int .i64 by_) := HK_q_3.out.cell 1
  have cb_q_2 : w3.cell? ⟨w.heap.size, 2, none⟩ = some (.slice A n cap) := HK_q_3.out.cell 2
  have cb_q_3 : w3.cell? ⟨w.heap.size, 3, none⟩ = some (.int .i64 se) := HK_q_3.out.cell 3
  have cb_q_4 : w3.cell? ⟨w.heap.size, 4, none⟩ = some (.int .i64 dr) := HK_q_3.out.cell 4
  have HK_p_3 : Hid (Bk w3 (w.heap.size + 1) 35 #[.int .i64 p.id, .int .i64 p.so, .int .i64 p.de, .int .i64 p.po, .int .i64 p.ma, .int .i64 p.si]) := Lib.hid ((HK_p_2.out.alloc _).old hb3)
  clear HK_p_2
  clear cb_p_0 cb_p_1 cb_p_2 cb_p_3 cb_p_4 cb_p_5 zb_p
  have zb_p : w.heap.size + 1 < w3.heap.size := HK_p_3.out.lt
  have cb_p_0 : w3.cell? ⟨w.heap.size + 1, 0, none⟩ = some (.int .i64 p.id) := HK_p_3.out.cell 0
  have cb_p_1 : w3.cell? ⟨w.heap.size + 1, 1, none⟩ = some (.int .i64 p.so) := HK_p_3.out.cell 1
  have cb_p_2 : w3.cell? ⟨w.heap.size + 1, 2, none⟩ = some (.int .i64 p.de) := HK_p_3.out.cell 2
  have cb_p_3 : w3.cell? ⟨w.heap.size + 1, 3, none⟩ = some (.int .i64 p.po) := HK_p_3.out.cell 3
  have cb_p_4 : w3.cell? ⟨w.heap.size + 1, 4, none⟩ = some (.int .i64 p.ma) := HK_p_3.out.cell 4
  have cb_p_5 : w3.cell? ⟨w.heap.size + 1, 5, none⟩ = some (.int .i64 p.si) := HK_p_3.out.cell 5
  have HK_r_3 : Hid (Bk w3 (w.heap.size + 1 + 1) 30 #[.int .i64 0, .int .i64 0, .slice none 0 0, .int .i64 0, .int .i64 0]) := Lib.hid ((HK_r_2.out.alloc _).old hb3)
  clear HK_r_2
  clear cb_r_0 cb_r_1 cb_r_2 cb_r_3 cb_r_4 zb_r
  have zb_r : w.heap.size + 1 + 1 < w3.heap.size := HK_r_3.out.lt
  have cb_r_0 : w3.cell? ⟨w.heap.size + 1 + 1, 0, none⟩ = some (.int .i64 0) := HK_r_3.out.cell 0
  have cb_r_1 : w3.cell? ⟨w.heap.size + 1 + 1, 1, none⟩ = some (.int .i64 0) := HK_r_3.out.cell 1
  have cb_r_2 : w3.cell? ⟨w.heap.size + 1 + 1, 2, none⟩ = some (.slice none 0 0) := HK_r_3.out.cell 2
  have cb_r_3 : w3.cell? ⟨w.heap.size + 1 + 1, 3, none⟩ = some (.int .i64 0) := HK_r_3.out.cell 3
  have cb_r_4 : w3.cell? ⟨w.heap.size + 1 + 1, 4, none⟩ = some (.int .i64 0) := HK_r_3.out.cell 4
  have HK_i1_3 : Hid (Bk w3 (w1.heap.size) 3 #[.int .i64 p.id]) := Lib.hid ((HK_i1_2.out.alloc _).old hb3)
  clear HK_i1_2
  clear cb_i1_0 zb_i1
  have zb_i1 : w1.heap.size < w3.heap.size := HK_i1_3.out.lt
  have cb_i1_0 : w3.cell? ⟨w1.heap.size, 0, none⟩ = some (.int .i64 p.id) := HK_i1_3.out.cell 0
  have HK_o_3 : Hid (Bk w3 (w2.heap.size) 30 #[.int .i64 li, .int .i64 by_, .slice A_u n cap_u, .int .i64 se, .int .i64 (dr + 1)]) := Lib.hid ((Bk.new_ (by simp) : Bk _ (w2.heap.size) 30 #[.int .i64 li, .int .i64 by_, .slice A_u n cap_u, .int .i64 se, .int .i64 (dr + 1)]).old hb3)
  have zb_o : w2.heap.size < w3.heap.size := HK_o_3.out.lt
  have cb_o_0 : w3.cell? ⟨w2.heap.size, 0, none⟩ = some (.int .i64 li) := HK_o_3.out.cell 0
  have cb_o_1 : w3.cell? ⟨w2.heap.size, 1, none⟩ = some (.int .i64 by_) := HK_o_3.out.cell 1
  have cb_o_2 : w3.cell? ⟨w2.heap.size, 2, none⟩ = some (.slice A_u n cap_u) := HK_o_3.out.cell 2
  have cb_o_3 : w3.cell? ⟨w2.heap.size, 3, none⟩ = some (.int .i64 se) := HK_o_3.out.cell 3
  have cb_o_4 : w3.cell? ⟨w2.heap.size, 4, none⟩ = some (.int .i64 (dr + 1)) := HK_o_3.out.cell 4
  have HO_u_3 := Lib.hid ((HO_u_2.out.alloc _).old hb3)
  clear HO_u_2
  have HB_3 := Lib.hid (bt (ba HB_2.out _) hb3)
  clear hb3
  have of := HK_o_3.out.free
  have rf2 := HK_r_3.out.free
  go_wp2_with fail
  refine bodyPost_ret (v := .tuple #[.agg #[.int .i64 li, .int .i64 by_, .slice A_u n cap_u, .int .i64 se, .int .i64 (dr + 1)], .slice (some ⟨w1.heap.size, 0, none⟩) 1 1, .bool true]) (by simp [results, Try.results13, go_sem, cb_r_0, cb_r_1, cb_r_2, cb_r_3, cb_r_4]) rfl (NewQI.mk rfl ?_ ?_ ?_)
  · exact (by refine IOwn.lo_le (lo := w1.heap.size + 1) (IOwn.here (hi := w2.heap.size) ?_) (by omega); repeat (first | (with_reducible exact (HO_u_3.out.lo_le (lo' := w1.heap.size + 1) (by first | omega | (simp; done) | (simp; omega)))) | (with_reducible refine IOwn.alloc ?_ _) | (with_reducible refine IOwn.farC ?_ (by omega)) | (with_reducible refine IOwn.drew ?_)))
  · exact (by refine IOwn.lo_le (lo := w1.heap.size) (IOwn.here (hi := w1.heap.size + 1) ?_) (by omega); repeat (first | (with_reducible exact (IOwn.one (hi := w1.heap.size + 1) HK_i1_3.out (Nat.le_refl _) (Nat.lt_succ_self _))) | (with_reducible refine IOwn.alloc ?_ _) | (with_reducible refine IOwn.farC ?_ (by omega)) | (with_reducible refine IOwn.drew ?_)))
  · exact (by repeat (first | (with_reducible exact HB_3.out) | (with_reducible refine ba ?_ _) | (with_reducible refine bsB ?_ (by omega)) | (with_reducible refine bd ?_ _) | (with_reducible refine Below.drew ?_)))
set_option maxHeartbeats 2000000 in
theorem specPdh_bigover (li by_ : Int) (A : Option Addr) (n cap : Nat) (se dr : Int) (L : List Pk) (p : Pk) (w : World) (hl : L.length = n) (hr : IRow w A (fl L)) (hn : n ≤ 1048576) (hcap : n ≤ cap) (hA : A = none → cap = 0) (h : askd li by_ L se dr p = true) (hb : ¬ p.si ≤ by_) (hc : cnt (dr + 1) = false) :
    Calls Try.prog 13 #[.agg #[.int .i64 li, .int .i64 by_, .slice A n cap, .int .i64 se, .int .i64 dr], .agg #[.int .i64 (p.id), .int .i64 (p.so), .int .i64 (p.de), .int .i64 (p.po), .int .i64 (p.ma), .int .i64 (p.si)]] w (PdP w li by_ L se dr p) := by
  rw [PdP_no (show pdOk li by_ L se dr p = false by simp [pdOk, pdD, hb, hc])]
  have HL := Lib.hid hl
  have HQ := Lib.hid h
  have HR_a := Lib.hid hr
  have HA := Lib.hid hA
  have g0 := qok_iff.1 (askd_iff.1 h).1
  have s1 : 0 ≤ se ∧ se ≤ 1000000 := g0.2.2.2.1
  have d1 : 0 ≤ dr ∧ dr ≤ 1000000 := g0.2.2.2.2.1
  have HI := Lib.hid (show qok li by_ L se (dr + 1) = false by rw [qok_counts (askd_iff.1 h).1, hc, Bool.and_false])
  have hb' : decide (p.si ≤ by_) = false := decide_eq_false hb
  clear hl hr h hA g0 hc hb
  go_enter Try.func13, Try.ntmps13
  go_wp2_with fail
  refine (quAsked_b _ _ _ _ _ _ _ L p _ HL.out (HR_a.out.below (ba (ba (ba (b0 w) _) _) _)) (by omega) hcap HQ.out).mono ?_
  rintro e w1 ⟨rfl, hb1⟩
  have z1 := hb1.size
  (try simp at z1)
  have HK_q_1 : Hid (Bk w1 (w.heap.size) 30 #[.int .i64 li, .int .i64 by_, .slice A n cap, .int .i64 se, .int .i64 dr]) := Lib.hid ((((Bk.new_ (by simp) : Bk _ (w.heap.size) 30 #[.int .i64 li, .int .i64 by_, .slice A n cap, .int .i64 se, .int .i64 dr]).alloc _).alloc _).old hb1)
  have zb_q : w.heap.size < w1.heap.size := HK_q_1.out.lt
  have cb_q_0 : w1.cell? ⟨w.heap.size, 0, none⟩ = some (.int .i64 li) := HK_q_1.out.cell 0
  have cb_q_1 : w1.cell? ⟨w.heap.size, 1, none⟩ = some (.int .i64 by_) := HK_q_1.out.cell 1
  have cb_q_2 : w1.cell? ⟨w.heap.size, 2, none⟩ = some (.slice A n cap) := HK_q_1.out.cell 2
  have cb_q_3 : w1.cell? ⟨w.heap.size, 3, none⟩ = some (.int .i64 se) := HK_q_1.out.cell 3
  have cb_q_4 : w1.cell? ⟨w.heap.size, 4, none⟩ = some (.int .i64 dr) := HK_q_1.out.cell 4
  have HK_p_1 : Hid (Bk w1 (w.heap.size + 1) 35 #[.int .i64 p.id, .int .i64 p.so, .int .i64 p.de, .int .i64 p.po, .int .i64 p.ma, .int .i64 p.si]) := Lib.hid (((Bk.new_ (by simp) : Bk _ (w.heap.size + 1) 35 #[.int .i64 p.id, .int .i64 p.so, .int .i64 p.de, .int .i64 p.po, .int .i64 p.ma, .int .i64 p.si]).alloc _).old hb1)
  have zb_p : w.heap.size + 1 < w1.heap.size := HK_p_1.out.lt
  have cb_p_0 : w1.cell? ⟨w.heap.size + 1, 0, none⟩ = some (.int .i64 p.id) := HK_p_1.out.cell 0
  have cb_p_1 : w1.cell? ⟨w.heap.size + 1, 1, none⟩ = some (.int .i64 p.so) := HK_p_1.out.cell 1
  have cb_p_2 : w1.cell? ⟨w.heap.size + 1, 2, none⟩ = some (.int .i64 p.de) := HK_p_1.out.cell 2
  have cb_p_3 : w1.cell? ⟨w.heap.size + 1, 3, none⟩ = some (.int .i64 p.po) := HK_p_1.out.cell 3
  have cb_p_4 : w1.cell? ⟨w.heap.size + 1, 4, none⟩ = some (.int .i64 p.ma) := HK_p_1.out.cell 4
  have cb_p_5 : w1.cell? ⟨w.heap.size + 1, 5, none⟩ = some (.int .i64 p.si) := HK_p_1.out.cell 5
  have HK_r_1 : Hid (Bk w1 (w.heap.size + 1 + 1) 30 #[.int .i64 0, .int .i64 0, .slice none 0 0, .int .i64 0, .int .i64 0]) := Lib.hid ((Bk.new_ (by simp) : Bk _ (w.heap.size + 1 + 1) 30 #[.int .i64 0, .int .i64 0, .slice none 0 0, .int .i64 0, .int .i64 0]).old hb1)
  have zb_r : w.heap.size + 1 + 1 < w1.heap.size := HK_r_1.out.lt
  have cb_r_0 : w1.cell? ⟨w.heap.size + 1 + 1, 0, none⟩ = some (.int .i64 0) := HK_r_1.out.cell 0
  have cb_r_1 : w1.cell? ⟨w.heap.size + 1 + 1, 1, none⟩ = some (.int .i64 0) := HK_r_1.out.cell 1
  have cb_r_2 : w1.cell? ⟨w.heap.size + 1 + 1, 2, none⟩ = some (.slice none 0 0) := HK_r_1.out.cell 2
  have cb_r_3 : w1.cell? ⟨w.heap.size + 1 + 1, 3, none⟩ = some (.int .i64 0) := HK_r_1.out.cell 3
  have cb_r_4 : w1.cell? ⟨w.heap.size + 1 + 1, 4, none⟩ = some (.int .i64 0) := HK_r_1.out.cell 4
  have HB_1 := Lib.hid (bt (ba (ba (ba (b0 w) _) _) _) hb1)
  clear hb1
  go_wp2_with fail
  refine (quWithB_any _ _ _ _ _ _ _ _ _ _ L _ _ _ HL.out (HR_a.out.below (ba HB_1.out _)) HA.out (by omega) (by omega) (by omega) (by omega) (by omega)).mono ?_
  rintro e w2 ⟨A_u, cap_u, rfl, ho_u, hb2⟩
  have HN_u := Lib.hid ho_u.len
  have HO_u_2 := Lib.hid ho_u
  clear ho_u
  have z2 := hb2.size
  (try simp at z2)
  have HK_q_2 : Hid (Bk w2 (w.heap.size) 30 #[.int .i64 li, .int .i64 by_, .slice A n cap, .int .i64 se, .int .i64 dr]) := Lib.hid ((HK_q_1.out.alloc _).old hb2)
  clear HK_q_1
  clear cb_q_0 cb_q_1 cb_q_2 cb_q_3 cb_q_4 zb_q
  have zb_q : w.heap.size < w2.heap.size := HK_q_2.out.lt
  have cb_q_0 : w2.cell? ⟨w.heap.size, 0, none⟩ = some (.int .i64 li) := HK_q_2.out.cell 0
  have cb_q_1 : w2.cell? ⟨w.heap.size, 1, none⟩ = some (.int .i64 by_) := HK_q_2.out.cell 1
  have cb_q_2 : w2.cell? ⟨w.heap.size, 2, none⟩ = some (.slice A n cap) := HK_q_2.out.cell 2
  have cb_q_3 : w2.cell? ⟨w.heap.size, 3, none⟩ = some (.int .i64 se) := HK_q_2.out.cell 3
  have cb_q_4 : w2.cell? ⟨w.heap.size, 4, none⟩ = some (.int .i64 dr) := HK_q_2.out.cell 4
  have HK_p_2 : Hid (Bk w2 (w.heap.size + 1) 35 #[.int .i64 p.id, .int .i64 p.so, .int .i64 p.de, .int .i64 p.po, .int .i64 p.ma, .int .i64 p.si]) := Lib.hid ((HK_p_1.out.alloc _).old hb2)
  clear HK_p_1
  clear cb_p_0 cb_p_1 cb_p_2 cb_p_3 cb_p_4 cb_p_5 zb_p
  have zb_p : w.heap.size + 1 < w2.heap.size := HK_p_2.out.lt
  have cb_p_0 : w2.cell? ⟨w.heap.size + 1, 0, none⟩ = some (.int .i64 p.id) := HK_p_2.out.cell 0
  have cb_p_1 : w2.cell? ⟨w.heap.size + 1, 1, none⟩ = some (.int .i64 p.so) := HK_p_2.out.cell 1
  have cb_p_2 : w2.cell? ⟨w.heap.size + 1, 2, none⟩ = some (.int .i64 p.de) := HK_p_2.out.cell 2
  have cb_p_3 : w2.cell? ⟨w.heap.size + 1, 3, none⟩ = some (.int .i64 p.po) := HK_p_2.out.cell 3
  have cb_p_4 : w2.cell? ⟨w.heap.size + 1, 4, none⟩ = some (.int .i64 p.ma) := HK_p_2.out.cell 4
  have cb_p_5 : w2.cell? ⟨w.heap.size + 1, 5, none⟩ = some (.int .i64 p.si) := HK_p_2.out.cell 5
  have HK_r_2 : Hid (Bk w2 (w.heap.size + 1 + 1) 30 #[.int .i64 0, .int .i64 0, .slice none 0 0, .int .i64 0, .int .i64 0]) := Lib.hid ((HK_r_1.out.alloc _).old hb2)
  clear HK_r_1
  clear cb_r_0 cb_r_1 cb_r_2 cb_r_3 cb_r_4 zb_r
  have zb_r : w.heap.size + 1 + 1 < w2.heap.size := HK_r_2.out.lt
  have cb_r_0 : w2.cell? ⟨w.heap.size + 1 + 1, 0, none⟩ = some (.int .i64 0) := HK_r_2.out.cell 0
  have cb_r_1 : w2.cell? ⟨w.heap.size + 1 + 1, 1, none⟩ = some (.int .i64 0) := HK_r_2.out.cell 1
  have cb_r_2 : w2.cell? ⟨w.heap.size + 1 + 1, 2, none⟩ = some (.slice none 0 0) := HK_r_2.out.cell 2
  have cb_r_3 : w2.cell? ⟨w.heap.size + 1 + 1, 3, none⟩ = some (.int .i64 0) := HK_r_2.out.cell 3
  have cb_r_4 : w2.cell? ⟨w.heap.size + 1 + 1, 4, none⟩ = some (.int .i64 0) := HK_r_2.out.cell 4
  have HK_i1_2 : Hid (Bk w2 (w1.heap.size) 3 #[.int .i64 p.id]) := Lib.hid ((Bk.new_ (by simp) : Bk _ (w1.heap.size) 3 #[.int .i64 p.id]).old hb2)
  have zb_i1 : w1.heap.size < w2.heap.size := HK_i1_2.out.lt
  have cb_i1_0 : w2.cell? ⟨w1.heap.size, 0, none⟩ = some (.int .i64 p.id) := HK_i1_2.out.cell 0
  have HB_2 := Lib.hid (bt (ba HB_1.out _) hb2)
  clear hb2
  rw [Int.add_zero]
  go_wp2_with fail
  refine (quIf_no _ _ _ n _ _ _ L _ HL.out (HO_u_2.out.alloc _).row (by omega) HI.out).mono ?_
  rintro e w3 ⟨rfl, hb3⟩
  have z3 := hb3.size
  (try simp at z3)
  have HK_q_3 : Hid (Bk w3 (w.heap.size) 30 #[.int .i64 li, .int .i64 by_, .slice A n cap, .int .i64 se, .int .i64 dr]) := Lib.hid ((HK_q_2.out.alloc _).old hb3)
  clear HK_q_2
  clear cb_q_0 cb_q_1 cb_q_2 cb_q_3 cb_q_4 zb_q
  have zb_q : w.heap.size < w3.heap.size := HK_q_3.out.lt
  have cb_q_0 : w3.cell? ⟨w.heap.size, 0, none⟩ = some (.int .i64 li) := HK_q_3.out.cell 0
  have cb_q_1 : w3.cell? ⟨w.heap.size, 1, none⟩ = some (.int .i64 by_) := HK_q_3.out.cell 1
  have cb_q_2 : w3.cell? ⟨w.heap.size, 2, none⟩ = some (.slice A n cap) := HK_q_3.out.cell 2
  have cb_q_3 : w3.cell? ⟨w.heap.size, 3, none⟩ = some (.int .i64 se) := HK_q_3.out.cell 3
  have cb_q_4 : w3.cell? ⟨w.heap.size, 4, none⟩ = some (.int .i64 dr) := HK_q_3.out.cell 4
  have HK_p_3 : Hid (Bk w3 (w.heap.size + 1) 35 #[.int .i64 p.id, .int .i64 p.so, .int .i64 p.de, .int .i64 p.po, .int .i64 p.ma, .int .i64 p.si]) := Lib.hid ((HK_p_2.out.alloc _).old hb3)
  clear HK_p_2
  clear cb_p_0 cb_p_1 cb_p_2 cb_p_3 cb_p_4 cb_p_5 zb_p
  have zb_p : w.heap.size + 1 < w3.heap.size := HK_p_3.out.lt
  have cb_p_0 : w3.cell? ⟨w.heap.size + 1, 0, none⟩ = some (.int .i64 p.id) := HK_p_3.out.cell 0
  have cb_p_1 : w3.cell? ⟨w.heap.size + 1, 1, none⟩ = some (.int .i64 p.so) := HK_p_3.out.cell 1
  have cb_p_2 : w3.cell? ⟨w.heap.size + 1, 2, none⟩ = some (.int .i64 p.de) := HK_p_3.out.cell 2
  have cb_p_3 : w3.cell? ⟨w.heap.size + 1, 3, none⟩ = some (.int .i64 p.po) := HK_p_3.out.cell 3
  have cb_p_4 : w3.cell? ⟨w.heap.size + 1, 4, none⟩ = some (.int .i64 p.ma) := HK_p_3.out.cell 4
  have cb_p_5 : w3.cell? ⟨w.heap.size + 1, 5, none⟩ = some (.int .i64 p.si) := HK_p_3.out.cell 5
  have HK_r_3 : Hid (Bk w3 (w.heap.size + 1 + 1) 30 #[.int .i64 0, .int .i64 0, .slice none 0 0, .int .i64 0, .int .i64 0]) := Lib.hid ((HK_r_2.out.alloc _).old hb3)
  clear HK_r_2
  clear cb_r_0 cb_r_1 cb_r_2 cb_r_3 cb_r_4 zb_r
  have zb_r : w.heap.size + 1 + 1 < w3.heap.size := HK_r_3.out.lt
  have cb_r_0 : w3.cell? ⟨w.heap.size + 1 + 1, 0, none⟩ = some (.int .i64 0) := HK_r_3.out.cell 0
  have cb_r_1 : w3.cell? ⟨w.heap.size + 1 + 1, 1, none⟩ = some (.int .i64 0) := HK_r_3.out.cell 1
  have cb_r_2 : w3.cell? ⟨w.heap.size + 1 + 1, 2, none⟩ = some (.slice none 0 0) := HK_r_3.out.cell 2
  have cb_r_3 : w3.cell? ⟨w.heap.size + 1 + 1, 3, none⟩ = some (.int .i64 0) := HK_r_3.out.cell 3
  have cb_r_4 : w3.cell? ⟨w.heap.size + 1 + 1, 4, none⟩ = some (.int .i64 0) := HK_r_3.out.cell 4
  have HK_i1_3 : Hid (Bk w3 (w1.heap.size) 3 #[.int .i64 p.id]) := Lib.hid ((HK_i1_2.out.alloc _).old hb3)
  clear HK_i1_2
  clear cb_i1_0 zb_i1
  have zb_i1 : w1.heap.size < w3.heap.size := HK_i1_3.out.lt
  have cb_i1_0 : w3.cell? ⟨w1.heap.size, 0, none⟩ = some (.int .i64 p.id) := HK_i1_3.out.cell 0
  have HK_o_3 : Hid (Bk w3 (w2.heap.size) 30 #[.int .i64 li, .int .i64 by_, .slice A_u n cap_u, .int .i64 se, .int .i64 (dr + 1)]) := Lib.hid ((Bk.new_ (by simp) : Bk _ (w2.heap.size) 30 #[.int .i64 li, .int .i64 by_, .slice A_u n cap_u, .int .i64 se, .int .i64 (dr + 1)]).old hb3)
  have zb_o : w2.heap.size < w3.heap.size := HK_o_3.out.lt
  have cb_o_0 : w3.cell? ⟨w2.heap.size, 0, none⟩ = some (.int .i64 li) := HK_o_3.out.cell 0
  have cb_o_1 : w3.cell? ⟨w2.heap.size, 1, none⟩ = some (.int .i64 by_) := HK_o_3.out.cell 1
  have cb_o_2 : w3.cell? ⟨w2.heap.size, 2, none⟩ = some (.slice A_u n cap_u) := HK_o_3.out.cell 2
  have cb_o_3 : w3.cell? ⟨w2.heap.size, 3, none⟩ = some (.int .i64 se) := HK_o_3.out.cell 3
  have cb_o_4 : w3.cell? ⟨w2.heap.size, 4, none⟩ = some (.int .i64 (dr + 1)) := HK_o_3.out.cell 4
  have HO_u_3 := Lib.hid ((HO_u_2.out.alloc _).old hb3)
  clear HO_u_2
  have HB_3 := Lib.hid (bt (ba HB_2.out _) hb3)
  clear hb3
  have of := HK_o_3.out.free
  have rf2 := HK_r_3.out.free
  go_wp2_with fail
  exact bodyPost_ret (v := .tuple #[.agg #[.int .i64 0, .int .i64 0, .slice none 0 0, .int .i64 0, .int .i64 0], .slice none 0 0, .bool false]) (by simp [results, Try.results13, go_sem, cb_r_0, cb_r_1, cb_r_2, cb_r_3, cb_r_4]) rfl (NewQI.none_ rfl (by repeat (first | (with_reducible exact HB_3.out) | (with_reducible refine ba ?_ _) | (with_reducible refine bsB ?_ (by omega)) | (with_reducible refine bd ?_ _) | (with_reducible refine Below.drew ?_))))
set_option maxRecDepth 100000 in
set_option maxHeartbeats 4000000 in
theorem specPdh_fit (li by_ : Int) (A : Option Addr) (n cap : Nat) (se dr : Int) (L : List Pk) (p : Pk) (w : World) (hl : L.length = n) (hr : IRow w A (fl L)) (hn : n ≤ 1048576) (hcap : n ≤ cap) (hA : A = none → cap = 0) (h : askd li by_ L se dr p = true) (hb : p.si ≤ by_) :
    Calls Try.prog 13 #[.agg #[.int .i64 li, .int .i64 by_, .slice A n cap, .int .i64 se, .int .i64 dr], .agg #[.int .i64 (p.id), .int .i64 (p.so), .int .i64 (p.de), .int .i64 (p.po), .int .i64 (p.ma), .int .i64 (p.si)]] w (PdP w li by_ L se dr p) := by
  have HL := Lib.hid hl
  have HQ := Lib.hid h
  have HR_a := Lib.hid hr
  have HA := Lib.hid hA
  have g0 := qok_iff.1 (askd_iff.1 h).1
  have s1 : 0 ≤ se ∧ se ≤ 1000000 := g0.2.2.2.1
  have d1 : 0 ≤ dr ∧ dr ≤ 1000000 := g0.2.2.2.2.1
  have l1 : 1 ≤ li := g0.1.1
  have hn60 : n ≤ 60 := by omega
  have HZ := Lib.hid (apart_sz g0.2.2.2.2.2.1)
  have pg := Pk.ok_iff.1 (askd_iff.1 h).2.1
  have ps : 0 ≤ p.si ∧ p.si ≤ 1500 := by omega
  have hb' : decide (p.si ≤ by_) = true := decide_eq_true hb
  have HRA := Lib.hid (fun (k : Nat) (hk : n ≤ k) => show room li by_ (L.drop k) p = true from room_all l1 hb (by omega))
  have HDN := Lib.hid (fun (k : Nat) (hk : k ≤ n) (h1 : ∀ j, j < k → room li by_ (L.drop j) p = false) (h2 : room li by_ (L.drop k) p = true) => dn_hit (li := li) (by_ := by_) (p := p) (L := L) (by omega) h1 h2)
  clear hl hr h hA g0 pg
  go_enter Try.func13, Try.ntmps13
  go_wp2_with fail
  refine (quAsked_b _ _ _ _ _ _ _ L p _ HL.out (HR_a.out.below (ba (ba (ba (b0 w) _) _) _)) (by omega) hcap HQ.out).mono ?_
  rintro e w1 ⟨rfl, hb1⟩
  have z1 := hb1.size
  (try simp at z1)
  have HK_q_1 : Hid (Bk w1 (w.heap.size) 30 #[.int .i64 li, .int .i64 by_, .slice A n cap, .int .i64 se, .int .i64 dr]) := Lib.hid ((((Bk.new_ (by simp) : Bk _ (w.heap.size) 30 #[.int .i64 li, .int .i64 by_, .slice A n cap, .int .i64 se, .int .i64 dr]).alloc _).alloc _).old hb1)
  have zb_q : w.heap.size < w1.heap.size := HK_q_1.out.lt
  have cb_q_0 : w1.cell? ⟨w.heap.size, 0, none⟩ = some (.int .i64 li) := HK_q_1.out.cell 0
  have cb_q_1 : w1.cell? ⟨w.heap.size, 1, none⟩ = some (.int .i64 by_) := HK_q_1.out.cell 1
  have cb_q_2 : w1.cell? ⟨w.heap.size, 2, none⟩ = some (.slice A n cap) := HK_q_1.out.cell 2
  have cb_q_3 : w1.cell? ⟨w.heap.size, 3, none⟩ = some (.int .i64 se) := HK_q_1.out.cell 3
  have cb_q_4 : w1.cell? ⟨w.heap.size, 4, none⟩ = some (.int .i64 dr) := HK_q_1.out.cell 4
  have HK_p_1 : Hid (Bk w1 (w.heap.size + 1) 35 #[.int .i64 p.id, .int .i64 p.so, .int .i64 p.de, .int .i64 p.po, .int .i64 p.ma, .int .i64 p.si]) := Lib.hid (((Bk.new_ (by simp) : Bk _ (w.heap.size + 1) 35 #[.int .i64 p.id, .int .i64 p.so, .int .i64 p.de, .int .i64 p.po, .int .i64 p.ma, .int .i64 p.si]).alloc _).old hb1)
  have zb_p : w.heap.size + 1 < w1.heap.size := HK_p_1.out.lt
  have cb_p_0 : w1.cell? ⟨w.heap.size + 1, 0, none⟩ = some (.int .i64 p.id) := HK_p_1.out.cell 0
  have cb_p_1 : w1.cell? ⟨w.heap.size + 1, 1, none⟩ = some (.int .i64 p.so) := HK_p_1.out.cell 1
  have cb_p_2 : w1.cell? ⟨w.heap.size + 1, 2, none⟩ = some (.int .i64 p.de) := HK_p_1.out.cell 2
  have cb_p_3 : w1.cell? ⟨w.heap.size + 1, 3, none⟩ = some (.int .i64 p.po) := HK_p_1.out.cell 3
  have cb_p_4 : w1.cell? ⟨w.heap.size + 1, 4, none⟩ = some (.int .i64 p.ma) := HK_p_1.out.cell 4
  have cb_p_5 : w1.cell? ⟨w.heap.size + 1, 5, none⟩ = some (.int .i64 p.si) := HK_p_1.out.cell 5
  have HK_r_1 : Hid (Bk w1 (w.heap.size + 1 + 1) 30 #[.int .i64 0, .int .i64 0, .slice none 0 0, .int .i64 0, .int .i64 0]) := Lib.hid ((Bk.new_ (by simp) : Bk _ (w.heap.size + 1 + 1) 30 #[.int .i64 0, .int .i64 0, .slice none 0 0, .int .i64 0, .int .i64 0]).old hb1)
  have zb_r : w.heap.size + 1 + 1 < w1.heap.size := HK_r_1.out.lt
  have cb_r_0 : w1.cell? ⟨w.heap.size + 1 + 1, 0, none⟩ = some (.int .i64 0) := HK_r_1.out.cell 0
  have cb_r_1 : w1.cell? ⟨w.heap.size + 1 + 1, 1, none⟩ = some (.int .i64 0) := HK_r_1.out.cell 1
  have cb_r_2 : w1.cell? ⟨w.heap.size + 1 + 1, 2, none⟩ = some (.slice none 0 0) := HK_r_1.out.cell 2
  have cb_r_3 : w1.cell? ⟨w.heap.size + 1 + 1, 3, none⟩ = some (.int .i64 0) := HK_r_1.out.cell 3
  have cb_r_4 : w1.cell? ⟨w.heap.size + 1 + 1, 4, none⟩ = some (.int .i64 0) := HK_r_1.out.cell 4
  have HB_1 := Lib.hid (bt (ba (ba (ba (b0 w) _) _) _) hb1)
  clear hb1
  go_wp2_with fail
  refine (quWithB_any _ _ _ _ _ _ _ _ _ _ L _ _ _ HL.out (HR_a.out.below (ba HB_1.out _)) HA.out (by omega) (by omega) (by omega) (by omega) (by omega)).mono ?_
  rintro e w2 ⟨A_u, cap_u, rfl, ho_u, hb2⟩
  have HN_u := Lib.hid ho_u.len
  have HO_u_2 := Lib.hid ho_u
  clear ho_u
  have z2 := hb2.size
  (try simp at z2)
  have HK_q_2 : Hid (Bk w2 (w.heap.size) 30 #[.int .i64 li, .int .i64 by_, .slice A n cap, .int .i64 se, .int .i64 dr]) := Lib.hid ((HK_q_1.out.alloc _).old hb2)
  clear HK_q_1
  clear cb_q_0 cb_q_1 cb_q_2 cb_q_3 cb_q_4 zb_q
  have zb_q : w.heap.size < w2.heap.size := HK_q_2.out.lt
  have cb_q_0 : w2.cell? ⟨w.heap.size, 0, none⟩ = some (.int .i64 li) := HK_q_2.out.cell 0
  have cb_q_1 : w2.cell? ⟨w.heap.size, 1, none⟩ = some (.int .i64 by_) := HK_q_2.out.cell 1
  have cb_q_2 : w2.cell? ⟨w.heap.size, 2, none⟩ = some (.slice A n cap) := HK_q_2.out.cell 2
  have cb_q_3 : w2.cell? ⟨w.heap.size, 3, none⟩ = some (.int .i64 se) := HK_q_2.out.cell 3
  have cb_q_4 : w2.cell? ⟨w.heap.size, 4, none⟩ = some (.int .i64 dr) := HK_q_2.out.cell 4
  have HK_p_2 : Hid (Bk w2 (w.heap.size + 1) 35 #[.int .i64 p.id, .int .i64 p.so, .int .i64 p.de, .int .i64 p.po, .int .i64 p.ma, .int .i64 p.si]) := Lib.hid ((HK_p_1.out.alloc _).old hb2)
  clear HK_p_1
  clear cb_p_0 cb_p_1 cb_p_2 cb_p_3 cb_p_4 cb_p_5 zb_p
  have zb_p : w.heap.size + 1 < w2.heap.size := HK_p_2.out.lt
  have cb_p_0 : w2.cell? ⟨w.heap.size + 1, 0, none⟩ = some (.int .i64 p.id) := HK_p_2.out.cell 0
  have cb_p_1 : w2.cell? ⟨w.heap.size + 1, 1, none⟩ = some (.int .i64 p.so) := HK_p_2.out.cell 1
  have cb_p_2 : w2.cell? ⟨w.heap.size + 1, 2, none⟩ = some (.int .i64 p.de) := HK_p_2.out.cell 2
  have cb_p_3 : w2.cell? ⟨w.heap.size + 1, 3, none⟩ = some (.int .i64 p.po) := HK_p_2.out.cell 3
  have cb_p_4 : w2.cell? ⟨w.heap.size + 1, 4, none⟩ = some (.int .i64 p.ma) := HK_p_2.out.cell 4
  have cb_p_5 : w2.cell? ⟨w.heap.size + 1, 5, none⟩ = some (.int .i64 p.si) := HK_p_2.out.cell 5
  have HK_r_2 : Hid (Bk w2 (w.heap.size + 1 + 1) 30 #[.int .i64 0, .int .i64 0, .slice none 0 0, .int .i64 0, .int .i64 0]) := Lib.hid ((HK_r_1.out.alloc _).old hb2)
  clear HK_r_1
  clear cb_r_0 cb_r_1 cb_r_2 cb_r_3 cb_r_4 zb_r
  have zb_r : w.heap.size + 1 + 1 < w2.heap.size := HK_r_2.out.lt
  have cb_r_0 : w2.cell? ⟨w.heap.size + 1 + 1, 0, none⟩ = some (.int .i64 0) := HK_r_2.out.cell 0
  have cb_r_1 : w2.cell? ⟨w.heap.size + 1 + 1, 1, none⟩ = some (.int .i64 0) := HK_r_2.out.cell 1
  have cb_r_2 : w2.cell? ⟨w.heap.size + 1 + 1, 2, none⟩ = some (.slice none 0 0) := HK_r_2.out.cell 2
  have cb_r_3 : w2.cell? ⟨w.heap.size + 1 + 1, 3, none⟩ = some (.int .i64 0) := HK_r_2.out.cell 3
  have cb_r_4 : w2.cell? ⟨w.heap.size + 1 + 1, 4, none⟩ = some (.int .i64 0) := HK_r_2.out.cell 4
  have HK_i1_2 : Hid (Bk w2 (w1.heap.size) 3 #[.int .i64 p.id]) := Lib.hid ((Bk.new_ (by simp) : Bk _ (w1.heap.size) 3 #[.int .i64 p.id]).old hb2)
  have zb_i1 : w1.heap.size < w2.heap.size := HK_i1_2.out.lt
  have cb_i1_0 : w2.cell? ⟨w1.heap.size, 0, none⟩ = some (.int .i64 p.id) := HK_i1_2.out.cell 0
  have HB_2 := Lib.hid (bt (ba HB_1.out _) hb2)
  clear hb2
  rw [Int.add_zero]
  go_wp2_with fail
  generalize hW3 : World.alloc w2 (.cells #[.int .i64 li, .int .i64 by_, .slice A_u n cap_u, .int .i64 se, .int .i64 (dr + 1)] 30) = w3
  have hb3 : Below w2.heap.size w2 w3 := hW3 ▸ ba (b0 _) _
  have hk0 : Bk w3 (w2.heap.size) 30 #[.int .i64 li, .int .i64 by_, .slice A_u n cap_u, .int .i64 se, .int .i64 (dr + 1)] := hW3 ▸ Bk.new_ rfl
  clear hW3
  have z3 := hb3.size
  (try simp at z3)
  have HK_q_3 : Hid (Bk w3 (w.heap.size) 30 #[.int .i64 li, .int .i64 by_, .slice A n cap, .int .i64 se, .int .i64 dr]) := Lib.hid (HK_q_2.out.old hb3)
  clear HK_q_2
  clear cb_q_0 cb_q_1 cb_q_2 cb_q_3 cb_q_4 zb_q
  have zb_q : w.heap.size < w3.heap.size := HK_q_3.out.lt
  have cb_q_0 : w3.cell? ⟨w.heap.size, 0, none⟩ = some (.int .i64 li) := HK_q_3.out.cell 0
  have cb_q_1 : w3.cell? ⟨w.heap.size, 1, none⟩ = some (.int .i64 by_) := HK_q_3.out.cell 1
  have cb_q_2 : w3.cell? ⟨w.heap.size, 2, none⟩ = some (.slice A n cap) := HK_q_3.out.cell 2
  have cb_q_3 : w3.cell? ⟨w.heap.size, 3, none⟩ = some (.int .i64 se) := HK_q_3.out.cell 3
  have cb_q_4 : w3.cell? ⟨w.heap.size, 4, none⟩ = some (.int .i64 dr) := HK_q_3.out.cell 4
  have HK_p_3 : Hid (Bk w3 (w.heap.size + 1) 35 #[.int .i64 p.id, .int .i64 p.so, .int .i64 p.de, .int .i64 p.po, .int .i64 p.ma, .int .i64 p.si]) := Lib.hid (HK_p_2.out.old hb3)
  clear HK_p_2
  clear cb_p_0 cb_p_1 cb_p_2 cb_p_3 cb_p_4 cb_p_5 zb_p
  have zb_p : w.heap.size + 1 < w3.heap.size := HK_p_3.out.lt
  have cb_p_0 : w3.cell? ⟨w.heap.size + 1, 0, none⟩ = some (.int .i64 p.id) := HK_p_3.out.cell 0
  have cb_p_1 : w3.cell? ⟨w.heap.size + 1, 1, none⟩ = some (.int .i64 p.so) := HK_p_3.out.cell 1
  have cb_p_2 : w3.cell? ⟨w.heap.size + 1, 2, none⟩ = some (.int .i64 p.de) := HK_p_3.out.cell 2
  have cb_p_3 : w3.cell? ⟨w.heap.size + 1, 3, none⟩ = some (.int .i64 p.po) := HK_p_3.out.cell 3
  have cb_p_4 : w3.cell? ⟨w.heap.size + 1, 4, none⟩ = some (.int .i64 p.ma) := HK_p_3.out.cell 4
  have cb_p_5 : w3.cell? ⟨w.heap.size + 1, 5, none⟩ = some (.int .i64 p.si) := HK_p_3.out.cell 5
  have HK_r_3 : Hid (Bk w3 (w.heap.size + 1 + 1) 30 #[.int .i64 0, .int .i64 0, .slice none 0 0, .int .i64 0, .int .i64 0]) := Lib.hid (HK_r_2.out.old hb3)
  clear HK_r_2
  clear cb_r_0 cb_r_1 cb_r_2 cb_r_3 cb_r_4 zb_r
  have zb_r : w.heap.size + 1 + 1 < w3.heap.size := HK_r_3.out.lt
  have cb_r_0 : w3.cell? ⟨w.heap.size + 1 + 1, 0, none⟩ = some (.int .i64 0) := HK_r_3.out.cell 0
  have cb_r_1 : w3.cell? ⟨w.heap.size + 1 + 1, 1, none⟩ = some (.int .i64 0) := HK_r_3.out.cell 1
  have cb_r_2 : w3.cell? ⟨w.heap.size + 1 + 1, 2, none⟩ = some (.slice none 0 0) := HK_r_3.out.cell 2
  have cb_r_3 : w3.cell? ⟨w.heap.size + 1 + 1, 3, none⟩ = some (.int .i64 0) := HK_r_3.out.cell 3
  have cb_r_4 : w3.cell? ⟨w.heap.size + 1 + 1, 4, none⟩ = some (.int .i64 0) := HK_r_3.out.cell 4
  have HK_i1_3 : Hid (Bk w3 (w1.heap.size) 3 #[.int .i64 p.id]) := Lib.hid (HK_i1_2.out.old hb3)
  clear HK_i1_2
  clear cb_i1_0 zb_i1
  have zb_i1 : w1.heap.size < w3.heap.size := HK_i1_3.out.lt
  have cb_i1_0 : w3.cell? ⟨w1.heap.size, 0, none⟩ = some (.int .i64 p.id) := HK_i1_3.out.cell 0
  have HO_u_3 := Lib.hid (HO_u_2.out.old hb3)
  clear HO_u_2
  have HB_3 := Lib.hid (bt HB_2.out hb3)
  clear hb3
  have HK_o_3 := Lib.hid hk0
  clear hk0
  have zb_o : w2.heap.size < w3.heap.size := HK_o_3.out.lt
  have zy_o := zb_o
  have cb_o_0 : w3.cell? ⟨w2.heap.size, 0, none⟩ = some (.int .i64 li) := HK_o_3.out.cell 0
  have cb_o_1 : w3.cell? ⟨w2.heap.size, 1, none⟩ = some (.int .i64 by_) := HK_o_3.out.cell 1
  have cb_o_2 : w3.cell? ⟨w2.heap.size, 2, none⟩ = some (.slice A_u n cap_u) := HK_o_3.out.cell 2
  have cb_o_3 : w3.cell? ⟨w2.heap.size, 3, none⟩ = some (.int .i64 se) := HK_o_3.out.cell 3
  have cb_o_4 : w3.cell? ⟨w2.heap.size, 4, none⟩ = some (.int .i64 (dr + 1)) := HK_o_3.out.cell 4
  go_loopw [9] (fun z wr => ∃ k : Nat, k ≤ n ∧ z = .int .i64 k ∧ (∀ j, j < k → room li by_ (L.drop j) p = false) ∧ Below w3.heap.size w3 wr) (fun z _ => n - (intOf z).toNat)
  case atStart => exact ⟨0, Nat.zero_le _, rfl, fun j hj => by omega, b0 _⟩
  case round =>
    obtain ⟨k, hk, rfl, hno, hb4⟩ := hrel
    obtain ⟨w4, hw4⟩ : ∃ x, x = wr := ⟨_, rfl⟩
    subst hw4
    have HL4 := Lib.hid hb4
    have HNO := Lib.hid hno
    clear hno
    have z4 := hb4.size
    (try simp at z4)
    have HK_q_4 : Hid (Bk w4 (w.heap.size) 30 #[.int .i64 li, .int .i64 by_, .slice A n cap, .int .i64 se, .int .i64 dr]) := Lib.hid (HK_q_3.out.old hb4)
    clear HK_q_3
    clear cb_q_0 cb_q_1 cb_q_2 cb_q_3 cb_q_4 zb_q
    have zb_q : w.heap.size < w4.heap.size := HK_q_4.out.lt
    have cb_q_0 : w4.cell? ⟨w.heap.size, 0, none⟩ = some (.int .i64 li) := HK_q_4.out.cell 0
    have cb_q_1 : w4.cell? ⟨w.heap.size, 1, none⟩ = some (.int .i64 by_) := HK_q_4.out.cell 1
    have cb_q_2 : w4.cell? ⟨w.heap.size, 2, none⟩ = some (.slice A n cap) := HK_q_4.out.cell 2
    have cb_q_3 : w4.cell? ⟨w.heap.size, 3, none⟩ = some (.int .i64 se) := HK_q_4.out.cell 3
    have cb_q_4 : w4.cell? ⟨w.heap.size, 4, none⟩ = some (.int .i64 dr) := HK_q_4.out.cell 4
    have HK_p_4 : Hid (Bk w4 (w.heap.size + 1) 35 #[.int .i64 p.id, .int .i64 p.so, .int .i64 p.de, .int .i64 p.po, .int .i64 p.ma, .int .i64 p.si]) := Lib.hid (HK_p_3.out.old hb4)
    clear HK_p_3
    clear cb_p_0 cb_p_1 cb_p_2 cb_p_3 cb_p_4 cb_p_5 zb_p
    have zb_p : w.heap.size + 1 < w4.heap.size := HK_p_4.out.lt
    have cb_p_0 : w4.cell? ⟨w.heap.size + 1, 0, none⟩ = some (.int .i64 p.id) := HK_p_4.out.cell 0
    have cb_p_1 : w4.cell? ⟨w.heap.size + 1, 1, none⟩ = some (.int .i64 p.so) := HK_p_4.out.cell 1
    have cb_p_2 : w4.cell? ⟨w.heap.size + 1, 2, none⟩ = some (.int .i64 p.de) := HK_p_4.out.cell 2
    have cb_p_3 : w4.cell? ⟨w.heap.size + 1, 3, none⟩ = some (.int .i64 p.po) := HK_p_4.out.cell 3
    have cb_p_4 : w4.cell? ⟨w.heap.size + 1, 4, none⟩ = some (.int .i64 p.ma) := HK_p_4.out.cell 4
    have cb_p_5 : w4.cell? ⟨w.heap.size + 1, 5, none⟩ = some (.int .i64 p.si) := HK_p_4.out.cell 5
    have HK_r_4 : Hid (Bk w4 (w.heap.size + 1 + 1) 30 #[.int .i64 0, .int .i64 0, .slice none 0 0, .int .i64 0, .int .i64 0]) := Lib.hid (HK_r_3.out.old hb4)
    clear HK_r_3
    clear cb_r_0 cb_r_1 cb_r_2 cb_r_3 cb_r_4 zb_r
    have zb_r : w.heap.size + 1 + 1 < w4.heap.size := HK_r_4.out.lt
    have cb_r_0 : w4.cell? ⟨w.heap.size + 1 + 1, 0, none⟩ = some (.int .i64 0) := HK_r_4.out.cell 0
    have cb_r_1 : w4.cell? ⟨w.heap.size + 1 + 1, 1, none⟩ = some (.int .i64 0) := HK_r_4.out.cell 1
    have cb_r_2 : w4.cell? ⟨w.heap.size + 1 + 1, 2, none⟩ = some (.slice none 0 0) := HK_r_4.out.cell 2
    have cb_r_3 : w4.cell? ⟨w.heap.size + 1 + 1, 3, none⟩ = some (.int .i64 0) := HK_r_4.out.cell 3
    have cb_r_4 : w4.cell? ⟨w.heap.size + 1 + 1, 4, none⟩ = some (.int .i64 0) := HK_r_4.out.cell 4
    have HK_i1_4 : Hid (Bk w4 (w1.heap.size) 3 #[.int .i64 p.id]) := Lib.hid (HK_i1_3.out.old hb4)
    clear HK_i1_3
    clear cb_i1_0 zb_i1
    have zb_i1 : w1.heap.size < w4.heap.size := HK_i1_4.out.lt
    have cb_i1_0 : w4.cell? ⟨w1.heap.size, 0, none⟩ = some (.int .i64 p.id) := HK_i1_4.out.cell 0
    have HK_o_4 : Hid (Bk w4 (w2.heap.size) 30 #[.int .i64 li, .int .i64 by_, .slice A_u n cap_u, .int .i64 se, .int .i64 (dr + 1)]) := Lib.hid (HK_o_3.out.old hb4)
    clear HK_o_3
    clear cb_o_0 cb_o_1 cb_o_2 cb_o_3 cb_o_4 zb_o
    have zb_o : w2.heap.size < w4.heap.size := HK_o_4.out.lt
    have cb_o_0 : w4.cell? ⟨w2.heap.size, 0, none⟩ = some (.int .i64 li) := HK_o_4.out.cell 0
    have cb_o_1 : w4.cell? ⟨w2.heap.size, 1, none⟩ = some (.int .i64 by_) := HK_o_4.out.cell 1
    have cb_o_2 : w4.cell? ⟨w2.heap.size, 2, none⟩ = some (.slice A_u n cap_u) := HK_o_4.out.cell 2
    have cb_o_3 : w4.cell? ⟨w2.heap.size, 3, none⟩ = some (.int .i64 se) := HK_o_4.out.cell 3
    have cb_o_4 : w4.cell? ⟨w2.heap.size, 4, none⟩ = some (.int .i64 (dr + 1)) := HK_o_4.out.cell 4
    have HO_u_4 := Lib.hid (HO_u_3.out.old hb4)
    clear HO_u_3
    have HB_4 := Lib.hid (bt HB_3.out hb4)
    clear hb4
    obtain ⟨A1, hA1⟩ : ∃ A1, (if cap = k then A else A.map (·.add (k * 6))) = A1 := ⟨_, rfl⟩
    have HRT := Lib.hid (fun (W : World) (hb : Below w4.heap.size w4 W) => row_rest (HR_a.out.below (bt HB_4.out hb)) (by have := HL.out; omega) hA1)
    have HRN := Lib.hid (rest_none hA1 HA.out)
    have HLK := Lib.hid (show (L.drop k).length = n - k by rw [List.length_drop, HL.out])
    have HSX := Lib.hid (show ∀ w' : World, Below w4.heap.size w4 w' → (fun w' => w'.cell? ⟨w.heap.size, 0, none⟩ = some (.int .i64 li) ∧ w'.cell? ⟨w.heap.size, 1, none⟩ = some (.int .i64 by_) ∧ w'.cell? ⟨w.heap.size, 2, none⟩ = some (.slice A n cap) ∧ w'.cell? ⟨w.heap.size, 3, none⟩ = some (.int .i64 se) ∧ w'.cell? ⟨w.heap.size, 4, none⟩ = some (.int .i64 dr) ∧ w'.cell? ⟨w.heap.size + 1, 0, none⟩ = some (.int .i64 p.id) ∧ w'.cell? ⟨w.heap.size + 1, 1, none⟩ = some (.int .i64 p.so) ∧ w'.cell? ⟨w.heap.size + 1, 2, none⟩ = some (.int .i64 p.de) ∧ w'.cell? ⟨w.heap.size + 1, 3, none⟩ = some (.int .i64 p.po) ∧ w'.cell? ⟨w.heap.size + 1, 4, none⟩ = some (.int .i64 p.ma) ∧ w'.cell? ⟨w.heap.size + 1, 5, none⟩ = some (.int .i64 p.si)) w' from fun w' hb => ⟨(bkeep hb _ _ zb_q).trans cb_q_0, (bkeep hb _ _ zb_q).trans cb_q_1, (bkeep hb _ _ zb_q).trans cb_q_2, (bkeep hb _ _ zb_q).trans cb_q_3, (bkeep hb _ _ zb_q).trans cb_q_4, (bkeep hb _ _ zb_p).trans cb_p_0, (bkeep hb _ _ zb_p).trans cb_p_1, (bkeep hb _ _ zb_p).trans cb_p_2, (bkeep hb _ _ zb_p).trans cb_p_3, (bkeep hb _ _ zb_p).trans cb_p_4, (bkeep hb _ _ zb_p).trans cb_p_5⟩)
    have k0 : 0 ≤ (k : Int) := by omega
    have k1 : (k : Int) ≤ (n : Int) := by omega
    go_wp2_with fail
    go_region_held3 (fun w' => w'.cell? ⟨w.heap.size, 0, none⟩ = some (.int .i64 li) ∧ w'.cell? ⟨w.heap.size, 1, none⟩ = some (.int .i64 by_) ∧ w'.cell? ⟨w.heap.size, 2, none⟩ = some (.slice A n cap) ∧ w'.cell? ⟨w.heap.size, 3, none⟩ = some (.int .i64 se) ∧ w'.cell? ⟨w.heap.size, 4, none⟩ = some (.int .i64 dr) ∧ w'.cell? ⟨w.heap.size + 1, 0, none⟩ = some (.int .i64 p.id) ∧ w'.cell? ⟨w.heap.size + 1, 1, none⟩ = some (.int .i64 p.so) ∧ w'.cell? ⟨w.heap.size + 1, 2, none⟩ = some (.int .i64 p.de) ∧ w'.cell? ⟨w.heap.size + 1, 3, none⟩ = some (.int .i64 p.po) ∧ w'.cell? ⟨w.heap.size + 1, 4, none⟩ = some (.int .i64 p.ma) ∧ w'.cell? ⟨w.heap.size + 1, 5, none⟩ = some (.int .i64 p.si)) (exact HSX.out _ (by repeat (first | (with_reducible exact b0 _) | (with_reducible refine ba ?_ _) | (with_reducible refine bd ?_ _) | (with_reducible refine Below.drew ?_) | (with_reducible refine bsB ?_ (by first | exact Nat.le_refl _ | exact Nat.le_add_right _ _ | omega)) | (with_reducible refine bt ?_ (by assumption)))))
      (first
        | (go_at_call 49; refine (quWithB_any _ _ _ _ _ _ _ _ _ _ (L.drop k) _ _ _ HLK.out (HRT.out _ (by repeat (first | (with_reducible exact b0 _) | (with_reducible refine ba ?_ _) | (with_reducible refine bd ?_ _) | (with_reducible refine Below.drew ?_) | (with_reducible refine bsB ?_ (by first | exact Nat.le_refl _ | exact Nat.le_add_right _ _ | omega)) | (with_reducible refine bt ?_ (by assumption))))) HRN.out (by omega) (by omega) (by omega) (by omega) (by omega)).mono ?_; rintro e v0 ⟨A_t, cap_t, rfl, ho_t, hbr0⟩; rw [Int.add_zero, Int.add_zero])
        | (go_at_call 50; refine (quRoom_any _ _ _ _ _ _ _ (L.drop k) _ _ HLK.out (ho_t.row.below (by repeat (first | (with_reducible exact b0 _) | (with_reducible refine ba ?_ _) | (with_reducible refine bd ?_ _) | (with_reducible refine Below.drew ?_) | (with_reducible refine bsB ?_ (by first | exact Nat.le_refl _ | exact Nat.le_add_right _ _ | omega)) | (with_reducible refine bt ?_ (by assumption))))) (by omega) (HZ.out.drop k) (by omega) ps).mono ?_; rintro e v1 ⟨rfl, hbr1⟩))
    obtain ⟨w5, hw5⟩ : ∃ x, x = v1 := ⟨_, rfl⟩
    subst hw5
    have hb5 : Below w4.heap.size w4 w5 := (by repeat (first | (with_reducible exact b0 _) | (with_reducible refine ba ?_ _) | (with_reducible refine bd ?_ _) | (with_reducible refine Below.drew ?_) | (with_reducible refine bsB ?_ (by first | exact Nat.le_refl _ | exact Nat.le_add_right _ _ | omega)) | (with_reducible refine bt ?_ (by assumption))))
    clear hbr0 hbr1 ho_t HSX HRT
    have HL5 := Lib.hid (bt HL4.out hb5)
    have z5 := hb5.size
    (try simp at z5)
    have HK_q_5 : Hid (Bk w5 (w.heap.size) 30 #[.int .i64 li, .int .i64 by_, .slice A n cap, .int .i64 se, .int .i64 dr]) := Lib.hid (HK_q_4.out.old hb5)
    clear HK_q_4
    clear cb_q_0 cb_q_1 cb_q_2 cb_q_3 cb_q_4 zb_q
    have zb_q : w.heap.size < w5.heap.size := HK_q_5.out.lt
    have cb_q_0 : w5.cell? ⟨w.heap.size, 0, none⟩ = some (.int .i64 li) := HK_q_5.out.cell 0
    have cb_q_1 : w5.cell? ⟨w.heap.size, 1, none⟩ = some (.int .i64 by_) := HK_q_5.out.cell 1
    have cb_q_2 : w5.cell? ⟨w.heap.size, 2, none⟩ = some (.slice A n cap) := HK_q_5.out.cell 2
    have cb_q_3 : w5.cell? ⟨w.heap.size, 3, none⟩ = some (.int .i64 se) := HK_q_5.out.cell 3
    have cb_q_4 : w5.cell? ⟨w.heap.size, 4, none⟩ = some (.int .i64 dr) := HK_q_5.out.cell 4
    have HK_p_5 : Hid (Bk w5 (w.heap.size + 1) 35 #[.int .i64 p.id, .int .i64 p.so, .int .i64 p.de, .int .i64 p.po, .int .i64 p.ma, .int .i64 p.si]) := Lib.hid (HK_p_4.out.old hb5)
    clear HK_p_4
    clear cb_p_0 cb_p_1 cb_p_2 cb_p_3 cb_p_4 cb_p_5 zb_p
    have zb_p : w.heap.size + 1 < w5.heap.size := HK_p_5.out.lt
    have cb_p_0 : w5.cell? ⟨w.heap.size + 1, 0, none⟩ = some (.int .i64 p.id) := HK_p_5.out.cell 0
    have cb_p_1 : w5.cell? ⟨w.heap.size + 1, 1, none⟩ = some (.int .i64 p.so) := HK_p_5.out.cell 1
    have cb_p_2 : w5.cell? ⟨w.heap.size + 1, 2, none⟩ = some (.int .i64 p.de) := HK_p_5.out.cell 2
    have cb_p_3 : w5.cell? ⟨w.heap.size + 1, 3, none⟩ = some (.int .i64 p.po) := HK_p_5.out.cell 3
    have cb_p_4 : w5.cell? ⟨w.heap.size + 1, 4, none⟩ = some (.int .i64 p.ma) := HK_p_5.out.cell 4
    have cb_p_5 : w5.cell? ⟨w.heap.size + 1, 5, none⟩ = some (.int .i64 p.si) := HK_p_5.out.cell 5
    have HK_r_5 : Hid (Bk w5 (w.heap.size + 1 + 1) 30 #[.int .i64 0, .int .i64 0, .slice none 0 0, .int .i64 0, .int .i64 0]) := Lib.hid (HK_r_4.out.old hb5)
    clear HK_r_4
    clear cb_r_0 cb_r_1 cb_r_2 cb_r_3 cb_r_4 zb_r
    have zb_r : w.heap.size + 1 + 1 < w5.heap.size := HK_r_5.out.lt
    have cb_r_0 : w5.cell? ⟨w.heap.size + 1 + 1, 0, none⟩ = some (.int .i64 0) := HK_r_5.out.cell 0
    have cb_r_1 : w5.cell? ⟨w.heap.size + 1 + 1, 1, none⟩ = some (.int .i64 0) := HK_r_5.out.cell 1
    have cb_r_2 : w5.cell? ⟨w.heap.size + 1 + 1, 2, none⟩ = some (.slice none 0 0) := HK_r_5.out.cell 2
    have cb_r_3 : w5.cell? ⟨w.heap.size + 1 + 1, 3, none⟩ = some (.int .i64 0) := HK_r_5.out.cell 3
    have cb_r_4 : w5.cell? ⟨w.heap.size + 1 + 1, 4, none⟩ = some (.int .i64 0) := HK_r_5.out.cell 4
    have HK_i1_5 : Hid (Bk w5 (w1.heap.size) 3 #[.int .i64 p.id]) := Lib.hid (HK_i1_4.out.old hb5)
    clear HK_i1_4
    clear cb_i1_0 zb_i1
    have zb_i1 : w1.heap.size < w5.heap.size := HK_i1_5.out.lt
    have cb_i1_0 : w5.cell? ⟨w1.heap.size, 0, none⟩ = some (.int .i64 p.id) := HK_i1_5.out.cell 0
    have HK_o_5 : Hid (Bk w5 (w2.heap.size) 30 #[.int .i64 li, .int .i64 by_, .slice A_u n cap_u, .int .i64 se, .int .i64 (dr + 1)]) := Lib.hid (HK_o_4.out.old hb5)
    clear HK_o_4
    clear cb_o_0 cb_o_1 cb_o_2 cb_o_3 cb_o_4 zb_o
    have zb_o : w2.heap.size < w5.heap.size := HK_o_5.out.lt
    have cb_o_0 : w5.cell? ⟨w2.heap.size, 0, none⟩ = some (.int .i64 li) := HK_o_5.out.cell 0
    have cb_o_1 : w5.cell? ⟨w2.heap.size, 1, none⟩ = some (.int .i64 by_) := HK_o_5.out.cell 1
    have cb_o_2 : w5.cell? ⟨w2.heap.size, 2, none⟩ = some (.slice A_u n cap_u) := HK_o_5.out.cell 2
    have cb_o_3 : w5.cell? ⟨w2.heap.size, 3, none⟩ = some (.int .i64 se) := HK_o_5.out.cell 3
    have cb_o_4 : w5.cell? ⟨w2.heap.size, 4, none⟩ = some (.int .i64 (dr + 1)) := HK_o_5.out.cell 4
    have HO_u_5 := Lib.hid (HO_u_4.out.old hb5)
    clear HO_u_4
    have HB_5 := Lib.hid (bt HB_4.out hb5)
    clear hb5
    have HA1 := Lib.hid hA1
    clear hA1
    rcases hro : room li by_ (L.drop k) p with _ | _
    · have hkn : k < n := by
        rcases Nat.lt_or_ge k n with h' | h'
        · exact h'
        · rw [HRA.out k h'] at hro; cases hro
      have HS := Lib.hid (show ∀ j, j < k + 1 → room li by_ (L.drop j) p = false from fun j hj => by
        rcases Nat.lt_succ_iff_lt_or_eq.1 hj with h' | rfl
        · exact HNO.out j h'
        · exact hro)
      go_wp2_with fail
      go_roundw
      case rel => exact ⟨k + 1, by omega, by go_num, HS.out, HL5.out⟩
      case measure => simp [intOf]; omega
    have HDK := Lib.hid (HDN.out k hk HNO.out hro)
    have HRO := Lib.hid hro
    clear hro
    have HTK := Lib.hid (show (L.take k).length = k by rw [List.length_take, HL.out]; omega)
    go_wp2_with fail
    refine (quIds_any _ _ _ (L.take k) _ HTK.out (by have h := ((HR_a.out.below HB_5.out)).take (k * 6); rwa [fl_take] at h) (by omega)).mono ?_
    rintro e w6 ⟨A_i, m_i, cap_i, rfl, ho_i, hb6⟩
    have HN_i := Lib.hid ho_i.len
    have HO_i_6 := Lib.hid ho_i
    clear ho_i
    have z6 := hb6.size
    (try simp at z6)
    have HK_q_6 : Hid (Bk w6 (w.heap.size) 30 #[.int .i64 li, .int .i64 by_, .slice A n cap, .int .i64 se, .int .i64 dr]) := Lib.hid (HK_q_5.out.old hb6)
    clear HK_q_5
    clear cb_q_0 cb_q_1 cb_q_2 cb_q_3 cb_q_4 zb_q
    have zb_q : w.heap.size < w6.heap.size := HK_q_6.out.lt
    have cb_q_0 : w6.cell? ⟨w.heap.size, 0, none⟩ = some (.int .i64 li) := HK_q_6.out.cell 0
    have cb_q_1 : w6.cell? ⟨w.heap.size, 1, none⟩ = some (.int .i64 by_) := HK_q_6.out.cell 1
    have cb_q_2 : w6.cell? ⟨w.heap.size, 2, none⟩ = some (.slice A n cap) := HK_q_6.out.cell 2
    have cb_q_3 : w6.cell? ⟨w.heap.size, 3, none⟩ = some (.int .i64 se) := HK_q_6.out.cell 3
    have cb_q_4 : w6.cell? ⟨w.heap.size, 4, none⟩ = some (.int .i64 dr) := HK_q_6.out.cell 4
    have HK_p_6 : Hid (Bk w6 (w.heap.size + 1) 35 #[.int .i64 p.id, .int .i64 p.so, .int .i64 p.de, .int .i64 p.po, .int .i64 p.ma, .int .i64 p.si]) := Lib.hid (HK_p_5.out.old hb6)
    clear HK_p_5
    clear cb_p_0 cb_p_1 cb_p_2 cb_p_3 cb_p_4 cb_p_5 zb_p
    have zb_p : w.heap.size + 1 < w6.heap.size := HK_p_6.out.lt
    have cb_p_0 : w6.cell? ⟨w.heap.size + 1, 0, none⟩ = some (.int .i64 p.id) := HK_p_6.out.cell 0
    have cb_p_1 : w6.cell? ⟨w.heap.size + 1, 1, none⟩ = some (.int .i64 p.so) := HK_p_6.out.cell 1
    have cb_p_2 : w6.cell? ⟨w.heap.size + 1, 2, none⟩ = some (.int .i64 p.de) := HK_p_6.out.cell 2
    have cb_p_3 : w6.cell? ⟨w.heap.size + 1, 3, none⟩ = some (.int .i64 p.po) := HK_p_6.out.cell 3
    have cb_p_4 : w6.cell? ⟨w.heap.size + 1, 4, none⟩ = some (.int .i64 p.ma) := HK_p_6.out.cell 4
    have cb_p_5 : w6.cell? ⟨w.heap.size + 1, 5, none⟩ = some (.int .i64 p.si) := HK_p_6.out.cell 5
    have HK_r_6 : Hid (Bk w6 (w.heap.size + 1 + 1) 30 #[.int .i64 0, .int .i64 0, .slice none 0 0, .int .i64 0, .int .i64 0]) := Lib.hid (HK_r_5.out.old hb6)
    clear HK_r_5
    clear cb_r_0 cb_r_1 cb_r_2 cb_r_3 cb_r_4 zb_r
    have zb_r : w.heap.size + 1 + 1 < w6.heap.size := HK_r_6.out.lt
    have cb_r_0 : w6.cell? ⟨w.heap.size + 1 + 1, 0, none⟩ = some (.int .i64 0) := HK_r_6.out.cell 0
    have cb_r_1 : w6.cell? ⟨w.heap.size + 1 + 1, 1, none⟩ = some (.int .i64 0) := HK_r_6.out.cell 1
    have cb_r_2 : w6.cell? ⟨w.heap.size + 1 + 1, 2, none⟩ = some (.slice none 0 0) := HK_r_6.out.cell 2
    have cb_r_3 : w6.cell? ⟨w.heap.size + 1 + 1, 3, none⟩ = some (.int .i64 0) := HK_r_6.out.cell 3
    have cb_r_4 : w6.cell? ⟨w.heap.size + 1 + 1, 4, none⟩ = some (.int .i64 0) := HK_r_6.out.cell 4
    have HK_i1_6 : Hid (Bk w6 (w1.heap.size) 3 #[.int .i64 p.id]) := Lib.hid (HK_i1_5.out.old hb6)
    clear HK_i1_5
    clear cb_i1_0 zb_i1
    have zb_i1 : w1.heap.size < w6.heap.size := HK_i1_6.out.lt
    have cb_i1_0 : w6.cell? ⟨w1.heap.size, 0, none⟩ = some (.int .i64 p.id) := HK_i1_6.out.cell 0
    have HK_o_6 : Hid (Bk w6 (w2.heap.size) 30 #[.int .i64 li, .int .i64 by_, .slice A_u n cap_u, .int .i64 se, .int .i64 (dr + 1)]) := Lib.hid (HK_o_5.out.old hb6)
    clear HK_o_5
    clear cb_o_0 cb_o_1 cb_o_2 cb_o_3 cb_o_4 zb_o
    have zb_o : w2.heap.size < w6.heap.size := HK_o_6.out.lt
    have cb_o_0 : w6.cell? ⟨w2.heap.size, 0, none⟩ = some (.int .i64 li) := HK_o_6.out.cell 0
    have cb_o_1 : w6.cell? ⟨w2.heap.size, 1, none⟩ = some (.int .i64 by_) := HK_o_6.out.cell 1
    have cb_o_2 : w6.cell? ⟨w2.heap.size, 2, none⟩ = some (.slice A_u n cap_u) := HK_o_6.out.cell 2
    have cb_o_3 : w6.cell? ⟨w2.heap.size, 3, none⟩ = some (.int .i64 se) := HK_o_6.out.cell 3
    have cb_o_4 : w6.cell? ⟨w2.heap.size, 4, none⟩ = some (.int .i64 (dr + 1)) := HK_o_6.out.cell 4
    have HO_u_6 := Lib.hid (HO_u_5.out.old hb6)
    clear HO_u_5
    have HB_6 := Lib.hid (bt HB_5.out hb6)
    clear hb6
    have hA1 := HA1.out
    have HRT := Lib.hid (fun (W : World) (hb : Below w6.heap.size w6 W) => row_rest (HR_a.out.below (bt HB_6.out hb)) (by have := HL.out; omega) hA1)
    have HSX := Lib.hid (show ∀ w' : World, Below w6.heap.size w6 w' → (fun w' => w'.cell? ⟨w.heap.size, 0, none⟩ = some (.int .i64 li) ∧ w'.cell? ⟨w.heap.size, 1, none⟩ = some (.int .i64 by_) ∧ w'.cell? ⟨w.heap.size, 2, none⟩ = some (.slice A n cap) ∧ w'.cell? ⟨w.heap.size, 3, none⟩ = some (.int .i64 se) ∧ w'.cell? ⟨w.heap.size, 4, none⟩ = some (.int .i64 dr) ∧ w'.cell? ⟨w.heap.size + 1, 0, none⟩ = some (.int .i64 p.id) ∧ w'.cell? ⟨w.heap.size + 1, 1, none⟩ = some (.int .i64 p.so) ∧ w'.cell? ⟨w.heap.size + 1, 2, none⟩ = some (.int .i64 p.de) ∧ w'.cell? ⟨w.heap.size + 1, 3, none⟩ = some (.int .i64 p.po) ∧ w'.cell? ⟨w.heap.size + 1, 4, none⟩ = some (.int .i64 p.ma) ∧ w'.cell? ⟨w.heap.size + 1, 5, none⟩ = some (.int .i64 p.si)) w' from fun w' hb => ⟨(bkeep hb _ _ zb_q).trans cb_q_0, (bkeep hb _ _ zb_q).trans cb_q_1, (bkeep hb _ _ zb_q).trans cb_q_2, (bkeep hb _ _ zb_q).trans cb_q_3, (bkeep hb _ _ zb_q).trans cb_q_4, (bkeep hb _ _ zb_p).trans cb_p_0, (bkeep hb _ _ zb_p).trans cb_p_1, (bkeep hb _ _ zb_p).trans cb_p_2, (bkeep hb _ _ zb_p).trans cb_p_3, (bkeep hb _ _ zb_p).trans cb_p_4, (bkeep hb _ _ zb_p).trans cb_p_5⟩)
    have of := HK_o_6.out.free
    have n1 : ¬ w.heap.size = w2.heap.size := by omega
    have n2 : ¬ w2.heap.size = w.heap.size := by omega
    have n3 : ¬ w.heap.size + 1 = w2.heap.size := by omega
    have n4 : ¬ w2.heap.size = w.heap.size + 1 := by omega
    have hkk : 0 ≤ (k : Int) ∧ (k : Int) ≤ 60 := by omega
    go_wp2_with fail
    go_region_held3 (fun w' => w'.cell? ⟨w.heap.size, 0, none⟩ = some (.int .i64 li) ∧ w'.cell? ⟨w.heap.size, 1, none⟩ = some (.int .i64 by_) ∧ w'.cell? ⟨w.heap.size, 2, none⟩ = some (.slice A n cap) ∧ w'.cell? ⟨w.heap.size, 3, none⟩ = some (.int .i64 se) ∧ w'.cell? ⟨w.heap.size, 4, none⟩ = some (.int .i64 dr) ∧ w'.cell? ⟨w.heap.size + 1, 0, none⟩ = some (.int .i64 p.id) ∧ w'.cell? ⟨w.heap.size + 1, 1, none⟩ = some (.int .i64 p.so) ∧ w'.cell? ⟨w.heap.size + 1, 2, none⟩ = some (.int .i64 p.de) ∧ w'.cell? ⟨w.heap.size + 1, 3, none⟩ = some (.int .i64 p.po) ∧ w'.cell? ⟨w.heap.size + 1, 4, none⟩ = some (.int .i64 p.ma) ∧ w'.cell? ⟨w.heap.size + 1, 5, none⟩ = some (.int .i64 p.si)) (first | ((refine HSX.out _ ?_); (repeat (first | (with_reducible exact b0 _) | (with_reducible refine ba ?_ _) | (with_reducible refine bd ?_ _) | (with_reducible refine Below.drew ?_) | (with_reducible refine bsB ?_ (by first | exact Nat.le_refl _ | exact Nat.le_add_right _ _ | omega)) | (with_reducible refine bt ?_ (by assumption)))); done) | (obtain ⟨y0, y1, y2, y3, y4, y5, y6, y7, y8, y9, y10⟩ := HSX.out v1 (by repeat (first | (with_reducible exact b0 _) | (with_reducible refine ba ?_ _) | (with_reducible refine bd ?_ _) | (with_reducible refine Below.drew ?_) | (with_reducible refine bsB ?_ (by first | exact Nat.le_refl _ | exact Nat.le_add_right _ _ | omega)) | (with_reducible refine bt ?_ (by assumption)))); go_keep))
      (first
        | (go_at_call 49; refine (quWithB_any _ _ _ _ _ _ _ _ _ _ (L.drop k) _ _ _ HLK.out (HRT.out _ (by repeat (first | (with_reducible exact b0 _) | (with_reducible refine ba ?_ _) | (with_reducible refine bd ?_ _) | (with_reducible refine Below.drew ?_) | (with_reducible refine bsB ?_ (by first | exact Nat.le_refl _ | exact Nat.le_add_right _ _ | omega)) | (with_reducible refine bt ?_ (by assumption))))) HRN.out (by omega) (by omega) (by omega) (by omega) (by omega)).mono ?_; rintro e v0 ⟨A_t, cap_t, rfl, ho_t, hbr0⟩; rw [Int.add_zero]; have zz0 := hbr0.size; (try simp at zz0); have rx0 := fun o => bkeep hbr0 w2.heap.size o (by first | omega | (simp; done) | (simp; omega)); have rf0 := fun o => bfree hbr0 w2.heap.size o (by first | omega | (simp; done) | (simp; omega)))
        | (go_at_call 52; refine (quPutB_yes _ _ _ _ _ _ _ (L.drop k) p _ HLK.out (ho_t.row.below (by repeat (first | (with_reducible exact b0 _) | (with_reducible refine ba ?_ _) | (with_reducible refine bd ?_ _) | (with_reducible refine Below.drew ?_) | (with_reducible refine bsB ?_ (by first | exact Nat.le_refl _ | exact Nat.le_add_right _ _ | omega)) | (with_reducible refine bt ?_ (by assumption))))) ho_t.none_cap (by omega) (HZ.out.drop k) ps (by omega) (by omega) HRO.out).mono ?_; rintro e v1 ⟨A_y, cap_y, rfl, ho_y, hbr1⟩; have zz1 := hbr1.size; (try simp at zz1); have rx1 := fun o => bkeep hbr1 w2.heap.size o (by first | omega | (simp; done) | (simp; omega)); have rf1 := fun o => bfree hbr1 w2.heap.size o (by first | omega | (simp; done) | (simp; omega))))
    have hv : Below w6.heap.size w6 v1 := (by repeat (first | (with_reducible exact b0 _) | (with_reducible refine ba ?_ _) | (with_reducible refine bd ?_ _) | (with_reducible refine Below.drew ?_) | (with_reducible refine bsB ?_ (by first | exact Nat.le_refl _ | exact Nat.le_add_right _ _ | omega)) | (with_reducible refine bt ?_ (by assumption))))
    obtain ⟨w7, hW7⟩ : ∃ x, x = (((((v1.setCell ⟨w2.heap.size, 0, none⟩ (.int .i64 li)).setCell ⟨w2.heap.size, 1, none⟩ (.int .i64 by_)).setCell ⟨w2.heap.size, 2, none⟩ (.slice A_y (n - k + 1) cap_y)).setCell ⟨w2.heap.size, 3, none⟩ (.int .i64 se)).setCell ⟨w2.heap.size, 4, none⟩ (.int .i64 (dr + (k : Int)))) := ⟨_, rfl⟩
    rw [← hW7]
    have hk_o : Bk w7 w2.heap.size 30 #[.int .i64 li, .int .i64 by_, .slice A_y (n - k + 1) cap_y, .int .i64 se, .int .i64 (dr + (k : Int))] := by rw [hW7]; have h := ((((((HK_o_6.out.old hv).set 0 (.int .i64 li)).set 1 (.int .i64 by_)).set 2 (.slice A_y (n - k + 1) cap_y)).set 3 (.int .i64 se)).set 4 (.int .i64 (dr + (k : Int)))); simpa using h
    have hb7 : Chg w2.heap.size (w2.heap.size + 1) w6 w7 := by rw [hW7]; exact ((((((Chg.of_below hv).setCell (p := ⟨w2.heap.size, 0, none⟩) (Nat.le_refl _) (Nat.lt_succ_self _) (.int .i64 li)).setCell (p := ⟨w2.heap.size, 1, none⟩) (Nat.le_refl _) (Nat.lt_succ_self _) (.int .i64 by_)).setCell (p := ⟨w2.heap.size, 2, none⟩) (Nat.le_refl _) (Nat.lt_succ_self _) (.slice A_y (n - k + 1) cap_y)).setCell (p := ⟨w2.heap.size, 3, none⟩) (Nat.le_refl _) (Nat.lt_succ_self _) (.int .i64 se)).setCell (p := ⟨w2.heap.size, 4, none⟩) (Nat.le_refl _) (Nat.lt_succ_self _) (.int .i64 (dr + (k : Int))))
    have HO_y_7 := Lib.hid (show IOwn w7 w6.heap.size w7.heap.size 35 6 A_y (n - k + 1) cap_y (fl (L.drop k ++ [p])) from by rw [hW7]; exact (((((((ho_y.lo_le (lo' := w6.heap.size) (by omega)).farC (g := w2.heap.size) (o := 0) (u := .int .i64 li) (.inl (by omega))).farC (g := w2.heap.size) (o := 1) (u := .int .i64 by_) (.inl (by omega))).farC (g := w2.heap.size) (o := 2) (u := .slice A_y (n - k + 1) cap_y) (.inl (by omega))).farC (g := w2.heap.size) (o := 3) (u := .int .i64 se) (.inl (by omega))).farC (g := w2.heap.size) (o := 4) (u := .int .i64 (dr + (k : Int))) (.inl (by omega)))).here)
    clear hW7 hv hbr0 hbr1 rx0 rf0 rx1 rf1 ho_t ho_y HSX HRT hA1 of
    clear HK_o_6
    clear cb_o_0 cb_o_1 cb_o_2 cb_o_3 cb_o_4 zb_o
    have z7 := hb7.size
    (try simp at z7)
    have HK_q_7 : Hid (Bk w7 (w.heap.size) 30 #[.int .i64 li, .int .i64 by_, .slice A n cap, .int .i64 se, .int .i64 dr]) := Lib.hid (HK_q_6.out.chg hb7 (by first | omega | (simp; done) | (simp; omega)))
    clear HK_q_6
    clear cb_q_0 cb_q_1 cb_q_2 cb_q_3 cb_q_4 zb_q
    have zb_q : w.heap.size < w7.heap.size := HK_q_7.out.lt
    have cb_q_0 : w7.cell? ⟨w.heap.size, 0, none⟩ = some (.int .i64 li) := HK_q_7.out.cell 0
    have cb_q_1 : w7.cell? ⟨w.heap.size, 1, none⟩ = some (.int .i64 by_) := HK_q_7.out.cell 1
    have cb_q_2 : w7.cell? ⟨w.heap.size, 2, none⟩ = some (.slice A n cap) := HK_q_7.out.cell 2
    have cb_q_3 : w7.cell? ⟨w.heap.size, 3, none⟩ = some (.int .i64 se) := HK_q_7.out.cell 3
    have cb_q_4 : w7.cell? ⟨w.heap.size, 4, none⟩ = some (.int .i64 dr) := HK_q_7.out.cell 4
    have HK_p_7 : Hid (Bk w7 (w.heap.size + 1) 35 #[.int .i64 p.id, .int .i64 p.so, .int .i64 p.de, .int .i64 p.po, .int .i64 p.ma, .int .i64 p.si]) := Lib.hid (HK_p_6.out.chg hb7 (by first | omega | (simp; done) | (simp; omega)))
    clear HK_p_6
    clear cb_p_0 cb_p_1 cb_p_2 cb_p_3 cb_p_4 cb_p_5 zb_p
    have zb_p : w.heap.size + 1 < w7.heap.size := HK_p_7.out.lt
    have cb_p_0 : w7.cell? ⟨w.heap.size + 1, 0, none⟩ = some (.int .i64 p.id) := HK_p_7.out.cell 0
    have cb_p_1 : w7.cell? ⟨w.heap.size + 1, 1, none⟩ = some (.int .i64 p.so) := HK_p_7.out.cell 1
    have cb_p_2 : w7.cell? ⟨w.heap.size + 1, 2, none⟩ = some (.int .i64 p.de) := HK_p_7.out.cell 2
    have cb_p_3 : w7.cell? ⟨w.heap.size + 1, 3, none⟩ = some (.int .i64 p.po) := HK_p_7.out.cell 3
    have cb_p_4 : w7.cell? ⟨w.heap.size + 1, 4, none⟩ = some (.int .i64 p.ma) := HK_p_7.out.cell 4
    have cb_p_5 : w7.cell? ⟨w.heap.size + 1, 5, none⟩ = some (.int .i64 p.si) := HK_p_7.out.cell 5
    have HK_r_7 : Hid (Bk w7 (w.heap.size + 1 + 1) 30 #[.int .i64 0, .int .i64 0, .slice none 0 0, .int .i64 0, .int .i64 0]) := Lib.hid (HK_r_6.out.chg hb7 (by first | omega | (simp; done) | (simp; omega)))
    clear HK_r_6
    clear cb_r_0 cb_r_1 cb_r_2 cb_r_3 cb_r_4 zb_r
    have zb_r : w.heap.size + 1 + 1 < w7.heap.size := HK_r_7.out.lt
    have cb_r_0 : w7.cell? ⟨w.heap.size + 1 + 1, 0, none⟩ = some (.int .i64 0) := HK_r_7.out.cell 0
    have cb_r_1 : w7.cell? ⟨w.heap.size + 1 + 1, 1, none⟩ = some (.int .i64 0) := HK_r_7.out.cell 1
    have cb_r_2 : w7.cell? ⟨w.heap.size + 1 + 1, 2, none⟩ = some (.slice none 0 0) := HK_r_7.out.cell 2
    have cb_r_3 : w7.cell? ⟨w.heap.size + 1 + 1, 3, none⟩ = some (.int .i64 0) := HK_r_7.out.cell 3
    have cb_r_4 : w7.cell? ⟨w.heap.size + 1 + 1, 4, none⟩ = some (.int .i64 0) := HK_r_7.out.cell 4
    have HK_i1_7 : Hid (Bk w7 (w1.heap.size) 3 #[.int .i64 p.id]) := Lib.hid (HK_i1_6.out.chg hb7 (by first | omega | (simp; done) | (simp; omega)))
    clear HK_i1_6
    clear cb_i1_0 zb_i1
    have zb_i1 : w1.heap.size < w7.heap.size := HK_i1_7.out.lt
    have cb_i1_0 : w7.cell? ⟨w1.heap.size, 0, none⟩ = some (.int .i64 p.id) := HK_i1_7.out.cell 0
    have HO_u_7 := Lib.hid (HO_u_6.out.chg hb7 (by first | omega | (simp; done) | (simp; omega)))
    clear HO_u_6
    have HO_i_7 := Lib.hid (HO_i_6.out.chg hb7 (by first | omega | (simp; done) | (simp; omega)))
    clear HO_i_6
    have HB_7 := Lib.hid (Chg.below HB_6.out hb7 (by first | omega | (simp; done) | (simp; omega)))
    clear hb7
    have HK_o_7 := Lib.hid hk_o
    clear hk_o
    have zb_o : w2.heap.size < w7.heap.size := HK_o_7.out.lt
    have cb_o_0 : w7.cell? ⟨w2.heap.size, 0, none⟩ = some (.int .i64 li) := HK_o_7.out.cell 0
    have cb_o_1 : w7.cell? ⟨w2.heap.size, 1, none⟩ = some (.int .i64 by_) := HK_o_7.out.cell 1
    have cb_o_2 : w7.cell? ⟨w2.heap.size, 2, none⟩ = some (.slice A_y (n - k + 1) cap_y) := HK_o_7.out.cell 2
    have cb_o_3 : w7.cell? ⟨w2.heap.size, 3, none⟩ = some (.int .i64 se) := HK_o_7.out.cell 3
    have cb_o_4 : w7.cell? ⟨w2.heap.size, 4, none⟩ = some (.int .i64 (dr + (k : Int))) := HK_o_7.out.cell 4
    have HLP := Lib.hid (show (L.drop k ++ [p]).length = n - k + 1 by simp [HLK.out])
    have HQI := Lib.hid (qok_drop_put (dr' := dr + (k : Int)) HQ.out k (by have := HL.out; omega) HRO.out)
    have of7 := HK_o_7.out.free
    have rf7 := HK_r_7.out.free
    rcases hc : cnt (dr + (k : Int)) with _ | _
    · have HPD := Lib.hid (PdP_no (w := w) (show pdOk li by_ L se dr p = false by simp only [pdOk, pdD, if_pos hb, HDK.out, hc, Bool.and_false]))
      have HI := Lib.hid (HQI.out.trans hc)
      clear hc
      go_wp2_with fail
      refine (quIf_no _ _ _ (n - k + 1) _ _ _ (L.drop k ++ [p]) _ HLP.out HO_y_7.out.row (by omega) HI.out).mono ?_
      rintro e w8 ⟨rfl, hb8⟩
      have HB_8 := Lib.hid (bt HB_7.out hb8)
      have z8 := hb8.size
      have r : Bk w8 (w.heap.size + 1 + 1) 30 #[.int .i64 0, .int .i64 0, .slice none 0 0, .int .i64 0, .int .i64 0] := HK_r_7.out.old hb8
      have zr : w.heap.size + 1 + 1 < w8.heap.size := r.lt
      have r_0 : w8.cell? ⟨w.heap.size + 1 + 1, 0, none⟩ = some (.int .i64 0) := r.cell 0
      have r_1 : w8.cell? ⟨w.heap.size + 1 + 1, 1, none⟩ = some (.int .i64 0) := r.cell 1
      have r_2 : w8.cell? ⟨w.heap.size + 1 + 1, 2, none⟩ = some (.slice none 0 0) := r.cell 2
      have r_3 : w8.cell? ⟨w.heap.size + 1 + 1, 3, none⟩ = some (.int .i64 0) := r.cell 3
      have r_4 : w8.cell? ⟨w.heap.size + 1 + 1, 4, none⟩ = some (.int .i64 0) := r.cell 4
      have rf := r.free
      have Hr := Lib.hid r
      clear r
      have o : Bk w8 (w2.heap.size) 30 #[.int .i64 li, .int .i64 by_, .slice A_y (n - k + 1) cap_y, .int .i64 se, .int .i64 (dr + (k : Int))] := HK_o_7.out.old hb8
      have zo : w2.heap.size < w8.heap.size := o.lt
      have o_0 : w8.cell? ⟨w2.heap.size, 0, none⟩ = some (.int .i64 li) := o.cell 0
      have o_1 : w8.cell? ⟨w2.heap.size, 1, none⟩ = some (.int .i64 by_) := o.cell 1
      have o_2 : w8.cell? ⟨w2.heap.size, 2, none⟩ = some (.slice A_y (n - k + 1) cap_y) := o.cell 2
      have o_3 : w8.cell? ⟨w2.heap.size, 3, none⟩ = some (.int .i64 se) := o.cell 3
      have o_4 : w8.cell? ⟨w2.heap.size, 4, none⟩ = some (.int .i64 (dr + (k : Int))) := o.cell 4
      have of := o.free
      have Ho := Lib.hid o
      clear o
      clear hb8 cb_r_0 cb_r_1 cb_r_2 cb_r_3 cb_r_4 cb_o_0 cb_o_1 cb_o_2 cb_o_3 cb_o_4 of7 rf7
      go_wp2_with fail
      exact bodyPost_ret (v := .tuple #[.agg #[.int .i64 0, .int .i64 0, .slice none 0 0, .int .i64 0, .int .i64 0], .slice none 0 0, .bool false]) (by simp [results, Try.results13, go_sem, r_0, r_1, r_2, r_3, r_4]) rfl (by rw [HPD.out]; exact NewQI.none_ rfl (by repeat (first | (with_reducible exact HB_8.out) | (with_reducible refine ba ?_ _) | (with_reducible refine bsB ?_ (by omega)) | (with_reducible refine bd ?_ _) | (with_reducible refine Below.drew ?_))))
    have HPD := Lib.hid (PdP_fit (w := w) HDK.out HQ.out hb hc)
    have HI := Lib.hid (HQI.out.trans hc)
    clear hc
    go_wp2_with fail
    refine (quIf_yes _ _ _ (n - k + 1) _ _ _ (L.drop k ++ [p]) _ HLP.out HO_y_7.out.row (by omega) HI.out).mono ?_
    rintro e w8 ⟨rfl, hb8⟩
    have HB_8 := Lib.hid (bt HB_7.out hb8)
    have HO_y_8 := Lib.hid (HO_y_7.out.old hb8)
    have HO_i_8 := Lib.hid (HO_i_7.out.old hb8)
    have z8 := hb8.size
    have r : Bk w8 (w.heap.size + 1 + 1) 30 #[.int .i64 0, .int .i64 0, .slice none 0 0, .int .i64 0, .int .i64 0] := HK_r_7.out.old hb8
    have zr : w.heap.size + 1 + 1 < w8.heap.size := r.lt
    have r_0 : w8.cell? ⟨w.heap.size + 1 + 1, 0, none⟩ = some (.int .i64 0) := r.cell 0
    have r_1 : w8.cell? ⟨w.heap.size + 1 + 1, 1, none⟩ = some (.int .i64 0) := r.cell 1
    have r_2 : w8.cell? ⟨w.heap.size + 1 + 1, 2, none⟩ = some (.slice none 0 0) := r.cell 2
    have r_3 : w8.cell? ⟨w.heap.size + 1 + 1, 3, none⟩ = some (.int .i64 0) := r.cell 3
    have r_4 : w8.cell? ⟨w.heap.size + 1 + 1, 4, none⟩ = some (.int .i64 0) := r.cell 4
    have rf := r.free
    have Hr := Lib.hid r
    clear r
    have o : Bk w8 (w2.heap.size) 30 #[.int .i64 li, .int .i64 by_, .slice A_y (n - k + 1) cap_y, .int .i64 se, .int .i64 (dr + (k : Int))] := HK_o_7.out.old hb8
    have zo : w2.heap.size < w8.heap.size := o.lt
    have o_0 : w8.cell? ⟨w2.heap.size, 0, none⟩ = some (.int .i64 li) := o.cell 0
    have o_1 : w8.cell? ⟨w2.heap.size, 1, none⟩ = some (.int .i64 by_) := o.cell 1
    have o_2 : w8.cell? ⟨w2.heap.size, 2, none⟩ = some (.slice A_y (n - k + 1) cap_y) := o.cell 2
    have o_3 : w8.cell? ⟨w2.heap.size, 3, none⟩ = some (.int .i64 se) := o.cell 3
    have o_4 : w8.cell? ⟨w2.heap.size, 4, none⟩ = some (.int .i64 (dr + (k : Int))) := o.cell 4
    have of := o.free
    have Ho := Lib.hid o
    clear o
    clear hb8 cb_r_0 cb_r_1 cb_r_2 cb_r_3 cb_r_4 cb_o_0 cb_o_1 cb_o_2 cb_o_3 cb_o_4 of7 rf7
    go_wp2_with fail
    refine bodyPost_ret (v := .tuple #[.agg #[.int .i64 li, .int .i64 by_, .slice A_y (n - k + 1) cap_y, .int .i64 se, .int .i64 (dr + (k : Int))], .slice A_i m_i cap_i, .bool true]) (by simp [results, Try.results13, go_sem, r_0, r_1, r_2, r_3, r_4]) rfl (by rw [HPD.out, HLP.out]; exact NewQI.mk rfl (by refine IOwn.lo_le (lo := w6.heap.size) (IOwn.here (hi := w7.heap.size) ?_) (by omega); repeat (first | (with_reducible exact HO_y_8.out) | (with_reducible refine IOwn.alloc ?_ _) | (with_reducible refine IOwn.farC ?_ (by omega)) | (with_reducible refine IOwn.drew ?_))) (by refine IOwn.lo_le (lo := w5.heap.size) (IOwn.here (hi := w6.heap.size) ?_) (by omega); repeat (first | (with_reducible exact HO_i_8.out) | (with_reducible refine IOwn.alloc ?_ _) | (with_reducible refine IOwn.farC ?_ (by omega)) | (with_reducible refine IOwn.drew ?_))) (by repeat (first | (with_reducible exact HB_8.out) | (with_reducible refine ba ?_ _) | (with_reducible refine bsB ?_ (by omega)) | (with_reducible refine bd ?_ _) | (with_reducible refine Below.drew ?_))))
theorem specPutDropHead_any (li by_ : Int) (A : Option Addr) (n cap : Nat) (se dr : Int) (L : List Pk) (p : Pk) (w : World) (hl : L.length = n) (hr : IRow w A (fl L)) (hn : n ≤ 1048576) (hcap : n ≤ cap) (hA : A = none → cap = 0) :
    Calls Try.prog 13 #[.agg #[.int .i64 li, .int .i64 by_, .slice A n cap, .int .i64 se, .int .i64 dr], .agg #[.int .i64 (p.id), .int .i64 (p.so), .int .i64 (p.de), .int .i64 (p.po), .int .i64 (p.ma), .int .i64 (p.si)]] w (PdP w li by_ L se dr p) := by
  rcases h : askd li by_ L se dr p with _ | _
  · exact specPdh_bad li by_ A n cap se dr L p w hl hr hn hcap hA h
  by_cases hb : p.si ≤ by_
  · exact specPdh_fit li by_ A n cap se dr L p w hl hr hn hcap hA h hb
  rcases hc : cnt (dr + 1) with _ | _
  · exact specPdh_bigover li by_ A n cap se dr L p w hl hr hn hcap hA h hb hc
  · exact specPdh_big li by_ A n cap se dr L p w hl hr hn hcap hA h hb hc
end Go.Proofs.Ytgdldmeeaejjpaa
