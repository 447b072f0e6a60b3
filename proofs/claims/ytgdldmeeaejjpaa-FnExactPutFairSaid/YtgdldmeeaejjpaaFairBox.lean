/- The contracts of the laws' helpers on Fair: size, copy, comparison, marking, looking at the marks. -/
import Derived.Test.YtgdldmeeaejjpaaFairRows
namespace Go.Proofs.Ytgdldmeeaejjpaa
open Go.ChangeShapes Go.WideShapes Go.ChangeAt Go.RowKit
set_option linter.unusedVariables false
/-- A scheduler's two slices: where they lie, how long they are. -/
structure Fm where
  A : Option Addr
  n : Nat
  cap : Nat
  B : Option Addr
  m : Nat
  capd : Nat
structure FRow (w : World) (M : Fm) (G : List (List Int)) (D : List Int) : Prop where
  q : NRow w M.A G
  qn : G.length = M.n
  qc : M.n ≤ M.cap
  q0 : M.A = none → M.cap = 0
  d : IRow w M.B D
  dn : D.length = M.m
  dc : M.m ≤ M.capd
  d0 : M.B = none → M.capd = 0
theorem FRow.below {w w' : World} {M : Fm} {G : List (List Int)} {D : List Int} (h : FRow w M G D) (hb : Below w.heap.size w w') : FRow w' M G D := ⟨h.q.below hb, h.qn, h.qc, h.q0, h.d.below hb, h.dn, h.dc, h.d0⟩
structure FOwn (w : World) (lo hi : Nat) (M : Fm) (G : List (List Int)) (D : List Int) : Prop where
  q : NOwn w lo hi M.A M.n M.cap G
  d : IOwn w lo hi 3 1 M.B M.m M.capd D
section
variable {w w' : World} {lo hi : Nat} {M : Fm} {G : List (List Int)} {D : List Int}
theorem FOwn.row (h : FOwn w lo hi M G D) : FRow w M G D := ⟨h.q.row, h.q.len, h.q.cap, h.q.none_cap, h.d.row, by have := h.d.len; omega, h.d.cap, h.d.none_cap⟩
theorem FOwn.len (h : FOwn w lo hi M G D) : G.length = M.n ∧ D.length = M.m := ⟨h.q.len, by have := h.d.len; omega⟩
theorem FOwn.old (h : FOwn w lo hi M G D) (hb : Below w.heap.size w w') : FOwn w' lo hi M G D := ⟨h.q.old hb, h.d.old hb⟩
theorem FOwn.alloc (h : FOwn w lo hi M G D) (o : Obj) : FOwn (w.alloc o) lo hi M G D := ⟨h.q.alloc o, h.d.alloc o⟩
theorem FOwn.drew (h : FOwn w lo hi M G D) : FOwn w.drew lo hi M G D := ⟨h.q.drew, h.d.drew⟩
theorem FOwn.chg {lo' hi' : Nat} (h : FOwn w lo hi M G D) (hc : Chg lo' hi' w w') (hd : hi ≤ lo' ∨ hi' ≤ lo) : FOwn w' lo hi M G D := ⟨h.q.chg hc hd, h.d.chg hc hd⟩
theorem FOwn.farC (h : FOwn w lo hi M G D) {g o : Nat} {u : Value} (hp : g < lo ∨ hi ≤ g) : FOwn (w.setCell ⟨g, o, none⟩ u) lo hi M G D := ⟨h.q.farC hp, h.d.farC hp⟩
theorem FOwn.lo_le {lo' : Nat} (h : FOwn w lo hi M G D) (hl : lo' ≤ lo) : FOwn w lo' hi M G D := ⟨h.q.lo_le hl, h.d.lo_le hl⟩
theorem FOwn.more {hi' : Nat} (h : FOwn w lo hi M G D) (hh : hi ≤ hi') : FOwn w lo hi' M G D := ⟨h.q.more hh, h.d.more hh⟩
theorem FOwn.here (h : FOwn w lo hi M G D) : FOwn w lo w.heap.size M G D := ⟨h.q.here, h.d.here⟩
theorem FOwn.none_ (w : World) (lo hi : Nat) : FOwn w lo hi ⟨none, 0, 0, none, 0, 0⟩ [] [] := ⟨NOwn.none_ _ _ _, IOwn.none_ _ _ _ _ _⟩
end
/-- A scheduler whose slices are the call's own. -/
def NewFa (w : World) (qu li nx : Int) (op : Bool) (G : List (List Int)) (D : List Int) (e : Ending) (w' : World) : Prop :=
  ∃ M : Fm, e = .returned (.agg #[.int .i64 qu, .int .i64 li, .slice M.A M.n M.cap, .slice M.B M.m M.capd, .int .i64 nx, .bool op]) ∧ FOwn w' w.heap.size w'.heap.size M G D ∧ Below w.heap.size w w'
theorem szFair_any (qu li : Int) (M : Fm) (nx : Int) (op : Bool) (G : List (List Int)) (D : List Int) (w : World) (hr : FRow w M G D) (hG : ∀ (i : Nat) (l : List Int), G[i]? = some l → l.length ≤ 55340232221128654842) (hn : M.n ≤ 9223372036854775807) (hm : M.m ≤ 9223372036854775807) :
    Calls Try.prog 29 #[.agg #[.int .i64 qu, .int .i64 li, .slice M.A M.n M.cap, .slice M.B M.m M.capd, .int .i64 nx, .bool op], .int .i64 1048576] w fun e w' => (∃ v, e = .returned (.int .i64 v) ∧ (v = -1 ∨ 0 ≤ v ∧ gsum G + 6 * M.n + 6 * M.m ≤ 6291456)) ∧ Below w.heap.size w w' := by
  have HR := Lib.hid (fun (o : Obj) => hr.below (ba (b0 w) o))
  clear hr
  have HG := Lib.hid hG
  clear hG
  go_enter Try.func29, Try.ntmps29
  go_wp2_with fail
  refine (szPacketSS_any _ _ _ G _ _ (HR.out (.cells #[] 0)).qn (HR.out _).q HG.out hn (by omega) (by omega)).mono ?_
  rintro e w1 ⟨⟨v, rfl, hv⟩, hg⟩
  have zhg := hg.size; (try simp at zhg); have c0hg := fun o => bkeep hg (w.heap.size) o (by first | omega | (simp; done) | (simp; omega)); have f0hg := fun o => bfree hg (w.heap.size) o (by first | omega | (simp; done) | (simp; omega))
  have HB := Lib.hid hg
  have HV := Lib.hid hv
  by_cases h0 : 0 ≤ v
  rotate_left
  · obtain rfl : v = -1 := by rcases hv with h | h <;> omega
    clear hv
    go_wp2_with fail
    go_ret
    exact ⟨⟨_, rfl, .inl rfl⟩, (by repeat (first | (with_reducible exact b0 _) | (with_reducible refine ba ?_ _) | (with_reducible refine bd ?_ _) | (with_reducible refine Below.drew ?_) | (with_reducible refine bs ?_ (by first | exact Nat.le_refl _ | exact Nat.le_add_right _ _ | omega) _) | (with_reducible refine bt ?_ (by assumption))))⟩
  have hv1 : v ≤ 1048576 := by rcases hv with h | h <;> omega
  clear hv
  rcases hd : decide ((M.m : Int) ≤ v) with _ | _
  · have HD := Lib.hid (of_decide_eq_false hd)
    go_wp2_with fail
    refine (szIntS_any _ _ _ _ _ hm h0 hv1 (if_neg (show ¬ ((M.m : Int) ≤ v) from by have := HD.out; omega))).mono ?_
    rintro e w2 ⟨rfl, hg2⟩
    go_wp2_with fail
    go_ret
    exact ⟨⟨_, rfl, .inl rfl⟩, (by repeat (first | (with_reducible exact b0 _) | (with_reducible refine ba ?_ _) | (with_reducible refine bd ?_ _) | (with_reducible refine Below.drew ?_) | (with_reducible refine bs ?_ (by first | exact Nat.le_refl _ | exact Nat.le_add_right _ _ | omega) _) | (with_reducible refine bt ?_ (by assumption))))⟩
  · have hd' := of_decide_eq_true hd
    have HD := Lib.hid hd'
    go_wp2_with fail
    refine (szIntS_any _ _ _ _ _ hm h0 hv1 (if_pos HD.out)).mono ?_
    rintro e w2 ⟨rfl, hg2⟩
    go_wp2_with fail
    go_ret
    exact ⟨⟨_, rfl, .inr ⟨by omega, by rcases HV.out with h | h <;> omega⟩⟩, (by repeat (first | (with_reducible exact b0 _) | (with_reducible refine ba ?_ _) | (with_reducible refine bd ?_ _) | (with_reducible refine Below.drew ?_) | (with_reducible refine bs ?_ (by first | exact Nat.le_refl _ | exact Nat.le_add_right _ _ | omega) _) | (with_reducible refine bt ?_ (by assumption))))⟩
set_option maxHeartbeats 1000000 in
theorem toFair_any (qu li : Int) (M : Fm) (nx : Int) (op : Bool) (G : List (List Int)) (D : List Int) (w : World) (hr : FRow w M G D) (hG : ∀ (i : Nat) (l : List Int), G[i]? = some l → l.length ≤ 6291456) (hn : M.n ≤ 1048576) (hm : M.m ≤ 1048576) :
    Calls Try.prog 31 #[.agg #[.int .i64 qu, .int .i64 li, .slice M.A M.n M.cap, .slice M.B M.m M.capd, .int .i64 nx, .bool op]] w (NewFa w qu li nx op G D) := by
  have HR := Lib.hid (fun (W : World) (hb : Below w.heap.size w W) => hr.below hb)
  have HG := Lib.hid hG
  clear hr hG
  go_enter Try.func31, Try.ntmps31
  go_wp2_with fail
  refine (toPacketSS_any _ _ _ G _ (HR.out w (b0 w)).qn (HR.out _ (ba (ba (ba (b0 w) _) _) _)).q hn HG.out).mono ?_
  rintro e w1 ⟨A_v, cap_v, rfl, ho_v, hb1⟩
  have HN_v := Lib.hid ho_v.len
  have HO_v_1 := Lib.hid ho_v
  clear ho_v
  have z1 := hb1.size
  (try simp at z1)
  have HK_q_1 : Hid (Bk w1 (w.heap.size) 51 #[.int .i64 qu, .int .i64 li, .slice M.A M.n M.cap, .slice M.B M.m M.capd, .int .i64 nx, .bool op]) := Lib.hid ((((Bk.new_ (by simp) : Bk _ (w.heap.size) 51 #[.int .i64 qu, .int .i64 li, .slice M.A M.n M.cap, .slice M.B M.m M.capd, .int .i64 nx, .bool op]).alloc _).alloc _).old hb1)
  have zb_q : w.heap.size < w1.heap.size := HK_q_1.out.lt
  have cb_q_0 : w1.cell? ⟨w.heap.size, 0, none⟩ = some (.int .i64 qu) := HK_q_1.out.cell 0
  have cb_q_1 : w1.cell? ⟨w.heap.size, 1, none⟩ = some (.int .i64 li) := HK_q_1.out.cell 1
  have cb_q_2 : w1.cell? ⟨w.heap.size, 2, none⟩ = some (.slice M.A M.n M.cap) := HK_q_1.out.cell 2
  have cb_q_3 : w1.cell? ⟨w.heap.size, 3, none⟩ = some (.slice M.B M.m M.capd) := HK_q_1.out.cell 3
  have cb_q_4 : w1.cell? ⟨w.heap.size, 4, none⟩ = some (.int .i64 nx) := HK_q_1.out.cell 4
  have cb_q_5 : w1.cell? ⟨w.heap.size, 5, none⟩ = some (.bool op) := HK_q_1.out.cell 5
  have HK_r_1 : Hid (Bk w1 (w.heap.size + 1) 56 #[.int .i64 0, .int .i64 0, .slice none 0 0, .slice none 0 0, .int .i64 0, .bool false]) := Lib.hid (((Bk.new_ (by simp) : Bk _ (w.heap.size + 1) 56 #[.int .i64 0, .int .i64 0, .slice none 0 0, .slice none 0 0, .int .i64 0, .bool false]).alloc _).old hb1)
  have zb_r : w.heap.size + 1 < w1.heap.size := HK_r_1.out.lt
  have cb_r_0 : w1.cell? ⟨w.heap.size + 1, 0, none⟩ = some (.int .i64 0) := HK_r_1.out.cell 0
  have cb_r_1 : w1.cell? ⟨w.heap.size + 1, 1, none⟩ = some (.int .i64 0) := HK_r_1.out.cell 1
  have cb_r_2 : w1.cell? ⟨w.heap.size + 1, 2, none⟩ = some (.slice none 0 0) := HK_r_1.out.cell 2
  have cb_r_3 : w1.cell? ⟨w.heap.size + 1, 3, none⟩ = some (.slice none 0 0) := HK_r_1.out.cell 3
  have cb_r_4 : w1.cell? ⟨w.heap.size + 1, 4, none⟩ = some (.int .i64 0) := HK_r_1.out.cell 4
  have cb_r_5 : w1.cell? ⟨w.heap.size + 1, 5, none⟩ = some (.bool false) := HK_r_1.out.cell 5
  have HK_o_1 : Hid (Bk w1 (w.heap.size + 1 + 1) 56 #[.int .i64 qu, .int .i64 li, .slice none 0 0, .slice none 0 0, .int .i64 0, .bool false]) := Lib.hid ((Bk.new_ (by simp) : Bk _ (w.heap.size + 1 + 1) 56 #[.int .i64 qu, .int .i64 li, .slice none 0 0, .slice none 0 0, .int .i64 0, .bool false]).old hb1)
  have zb_o : w.heap.size + 1 + 1 < w1.heap.size := HK_o_1.out.lt
  have cb_o_0 : w1.cell? ⟨w.heap.size + 1 + 1, 0, none⟩ = some (.int .i64 qu) := HK_o_1.out.cell 0
  have cb_o_1 : w1.cell? ⟨w.heap.size + 1 + 1, 1, none⟩ = some (.int .i64 li) := HK_o_1.out.cell 1
  have cb_o_2 : w1.cell? ⟨w.heap.size + 1 + 1, 2, none⟩ = some (.slice none 0 0) := HK_o_1.out.cell 2
  have cb_o_3 : w1.cell? ⟨w.heap.size + 1 + 1, 3, none⟩ = some (.slice none 0 0) := HK_o_1.out.cell 3
  have cb_o_4 : w1.cell? ⟨w.heap.size + 1 + 1, 4, none⟩ = some (.int .i64 0) := HK_o_1.out.cell 4
  have cb_o_5 : w1.cell? ⟨w.heap.size + 1 + 1, 5, none⟩ = some (.bool false) := HK_o_1.out.cell 5
  have HB_1 := Lib.hid (bt (ba (ba (ba (b0 w) _) _) _) hb1)
  clear hb1
  have HV1 := Lib.hid (HO_v_1.out.lo_le (lo' := w.heap.size + 1 + 1 + 1) (by simp))
  have of := HK_o_1.out.free
  go_wp2_with fail
  refine (toIntS_any _ _ _ D _ (HR.out w (b0 w)).dn (HR.out _ (bsB HB_1.out (by omega))).d hm).mono ?_
  rintro e w2 ⟨A_d, m_d, cap_d, rfl, ho_d, hb2⟩
  have z2 := hb2.size
  simp only [setCell_size] at z2 ho_d
  obtain rfl : m_d = M.m := by have := ho_d.len; have := (HR.out w (b0 w)).dn; omega
  have HV2 := Lib.hid ((HV1.out.farC (.inl (by omega))).old hb2)
  have HD2 := Lib.hid ho_d
  have HB2 := Lib.hid (bt (bsB HB_1.out (by omega)) hb2)
  have q : Bk w2 (w.heap.size) 51 #[.int .i64 qu, .int .i64 li, .slice M.A M.n M.cap, .slice M.B M.m M.capd, .int .i64 nx, .bool op] := (HK_q_1.out.farB (by omega)).old hb2
  have zq : w.heap.size < w2.heap.size := q.lt
  have q_0 : w2.cell? ⟨w.heap.size, 0, none⟩ = some (.int .i64 qu) := q.cell 0
  have q_1 : w2.cell? ⟨w.heap.size, 1, none⟩ = some (.int .i64 li) := q.cell 1
  have q_2 : w2.cell? ⟨w.heap.size, 2, none⟩ = some (.slice M.A M.n M.cap) := q.cell 2
  have q_3 : w2.cell? ⟨w.heap.size, 3, none⟩ = some (.slice M.B M.m M.capd) := q.cell 3
  have q_4 : w2.cell? ⟨w.heap.size, 4, none⟩ = some (.int .i64 nx) := q.cell 4
  have q_5 : w2.cell? ⟨w.heap.size, 5, none⟩ = some (.bool op) := q.cell 5
  have qf := q.free
  have Hq := Lib.hid q
  clear q
  have r : Bk w2 (w.heap.size + 1) 56 #[.int .i64 0, .int .i64 0, .slice none 0 0, .slice none 0 0, .int .i64 0, .bool false] := (HK_r_1.out.farB (by omega)).old hb2
  have zr : w.heap.size + 1 < w2.heap.size := r.lt
  have r_0 : w2.cell? ⟨w.heap.size + 1, 0, none⟩ = some (.int .i64 0) := r.cell 0
  have r_1 : w2.cell? ⟨w.heap.size + 1, 1, none⟩ = some (.int .i64 0) := r.cell 1
  have r_2 : w2.cell? ⟨w.heap.size + 1, 2, none⟩ = some (.slice none 0 0) := r.cell 2
  have r_3 : w2.cell? ⟨w.heap.size + 1, 3, none⟩ = some (.slice none 0 0) := r.cell 3
  have r_4 : w2.cell? ⟨w.heap.size + 1, 4, none⟩ = some (.int .i64 0) := r.cell 4
  have r_5 : w2.cell? ⟨w.heap.size + 1, 5, none⟩ = some (.bool false) := r.cell 5
  have rf := r.free
  have Hr := Lib.hid r
  clear r
  have o : Bk w2 (w.heap.size + 1 + 1) 56 #[.int .i64 qu, .int .i64 li, .slice A_v M.n cap_v, .slice none 0 0, .int .i64 0, .bool false] := (by have h := (HK_o_1.out.set 2 (.slice A_v M.n cap_v)).old hb2; simpa using h)
  have zo : w.heap.size + 1 + 1 < w2.heap.size := o.lt
  have o_0 : w2.cell? ⟨w.heap.size + 1 + 1, 0, none⟩ = some (.int .i64 qu) := o.cell 0
  have o_1 : w2.cell? ⟨w.heap.size + 1 + 1, 1, none⟩ = some (.int .i64 li) := o.cell 1
  have o_2 : w2.cell? ⟨w.heap.size + 1 + 1, 2, none⟩ = some (.slice A_v M.n cap_v) := o.cell 2
  have o_3 : w2.cell? ⟨w.heap.size + 1 + 1, 3, none⟩ = some (.slice none 0 0) := o.cell 3
  have o_4 : w2.cell? ⟨w.heap.size + 1 + 1, 4, none⟩ = some (.int .i64 0) := o.cell 4
  have o_5 : w2.cell? ⟨w.heap.size + 1 + 1, 5, none⟩ = some (.bool false) := o.cell 5
  have of := o.free
  have Ho := Lib.hid o
  clear o
  clear hb2 ho_d cb_q_0 cb_q_1 cb_q_2 cb_q_3 cb_q_4 cb_q_5 cb_r_0 cb_r_1 cb_r_2 cb_r_3 cb_r_4 cb_r_5 cb_o_0 cb_o_1 cb_o_2 cb_o_3 cb_o_4 cb_o_5
  go_wp2_with fail
  refine bodyPost_ret (v := .agg #[.int .i64 qu, .int .i64 li, .slice A_v M.n cap_v, .slice A_d M.m cap_d, .int .i64 nx, .bool op]) (by simp [results, Try.results31, go_sem, r_0, r_1, r_2, r_3, r_4, r_5]) rfl ⟨⟨A_v, M.n, cap_v, A_d, M.m, cap_d⟩, rfl, ?_, ?_⟩
  · refine (FOwn.lo_le (lo := w.heap.size + 1 + 1 + 1) (FOwn.here (hi := w2.heap.size) ?_) (by omega))
    repeat (refine FOwn.farC ?_ (.inl (by omega)))
    exact ⟨HV2.out.more (by omega), HD2.out.lo_le (by omega)⟩
  · exact (by repeat (first | (with_reducible exact HB2.out) | (with_reducible refine ba ?_ _) | (with_reducible refine bsB ?_ (by omega)) | (with_reducible refine bd ?_ _) | (with_reducible refine Below.drew ?_)))
set_option maxHeartbeats 1000000 in
theorem eqFair_any (qu li : Int) (M : Fm) (nx : Int) (op : Bool) (G : List (List Int)) (D : List Int) (M' : Fm) (w : World) (hr : FRow w M G D) (hs : FRow w M' G D) (hG : ∀ (i : Nat) (l : List Int), G[i]? = some l → l.length ≤ 6597069766656) (hn : M.n ≤ 1099511627776) (hm : M.m ≤ 1099511627776) :
    Calls Try.prog 33 #[.agg #[.int .i64 qu, .int .i64 li, .slice M.A M.n M.cap, .slice M.B M.m M.capd, .int .i64 nx, .bool op], .agg #[.int .i64 qu, .int .i64 li, .slice M'.A M'.n M'.cap, .slice M'.B M'.m M'.capd, .int .i64 nx, .bool op]] w fun e w' => e = .returned (.bool true) ∧ Below w.heap.size w w' := by
  obtain ⟨A, n, cap, B, m, capd⟩ := M
  obtain ⟨A', n', cap', B', m', capd'⟩ := M'
  obtain rfl : n' = n := by have h1 := hr.qn; have h2 := hs.qn; simp only at h1 h2; omega
  obtain rfl : m' = m := by have h1 := hr.dn; have h2 := hs.dn; simp only at h1 h2; omega
  have HR := Lib.hid (fun (W : World) (hb : Below w.heap.size w W) => hr.below hb)
  have HS := Lib.hid (fun (W : World) (hb : Below w.heap.size w W) => hs.below hb)
  have HG := Lib.hid hG
  clear hr hs hG
  simp only at hn hm
  go_enter Try.func33, Try.ntmps33
  go_wp2_with fail
  refine (eqPacketSS_any _ _ _ _ _ G _ (HR.out w (b0 w)).qn hn (HR.out _ (ba (ba (b0 w) _) _)).q (HS.out _ (ba (ba (b0 w) _) _)).q HG.out).mono ?_
  rintro e w1 ⟨rfl, hg⟩
  have zhg := hg.size; (try simp at zhg); have c0hg := fun o => bkeep hg (w.heap.size) o (by first | omega | (simp; done) | (simp; omega)); have f0hg := fun o => bfree hg (w.heap.size) o (by first | omega | (simp; done) | (simp; omega)); have c1hg := fun o => bkeep hg (w.heap.size + 1) o (by first | omega | (simp; done) | (simp; omega)); have f1hg := fun o => bfree hg (w.heap.size + 1) o (by first | omega | (simp; done) | (simp; omega))
  go_wp2_with fail
  refine (eqIntS_any _ _ _ _ _ D _ (HR.out w (b0 w)).dn (Nat.le_trans hm (by omega)) (HR.out _ (bt (ba (ba (b0 w) _) _) hg)).d (HS.out _ (bt (ba (ba (b0 w) _) _) hg)).d).mono ?_
  rintro e w2 ⟨rfl, hg2⟩
  have zhg2 := hg2.size; (try simp at zhg2); have c0hg2 := fun o => bkeep hg2 (w.heap.size) o (by first | omega | (simp; done) | (simp; omega)); have f0hg2 := fun o => bfree hg2 (w.heap.size) o (by first | omega | (simp; done) | (simp; omega)); have c1hg2 := fun o => bkeep hg2 (w.heap.size + 1) o (by first | omega | (simp; done) | (simp; omega)); have f1hg2 := fun o => bfree hg2 (w.heap.size + 1) o (by first | omega | (simp; done) | (simp; omega))
  go_wp2_with fail
  go_ret
  exact ⟨rfl, (by repeat (first | (with_reducible exact b0 _) | (with_reducible refine ba ?_ _) | (with_reducible refine bd ?_ _) | (with_reducible refine Below.drew ?_) | (with_reducible refine bs ?_ (by first | exact Nat.le_refl _ | exact Nat.le_add_right _ _ | omega) _) | (with_reducible refine bt ?_ (by assumption))))⟩
def MarkedFa (w : World) (lo hi : Nat) (M : Fm) (G : List (List Int)) (k : Int) (e : Ending) (w' : World) : Prop :=
  e = .returned (.int .i64 (k + (gsum G : Nat) + (M.m : Int))) ∧ FOwn w' lo hi M (mrks k G) (marks (k + (gsum G : Nat)) M.m) ∧ Chg lo hi w w'
theorem Chg.keepT {a b T : Nat} {w w' : World} (hc : Chg a b w w') (ht : ∀ k, a ≤ k → k < b → ∃ cs f, w.heap[k]? = some (.cells cs T f)) : KeepT T w w' := fun g cs t f hg hne => by
  refine hc.block g (Array.getElem?_eq_some_iff.1 hg).1 ?_
  rcases Nat.lt_or_ge g a with h' | h'
  · exact .inl h'
  rcases Nat.lt_or_ge g b with h2 | h2
  · obtain ⟨cs', f', e'⟩ := ht g h' h2
    rw [hg] at e'
    injection e' with e'
    injection e' with _ e'
    exact absurd e' hne
  · exact .inr h2
theorem NOwn.keepT {w w' : World} {T lo hi : Nat} {A : Option Addr} {n cap : Nat} {G : List (List Int)} (h : NOwn w lo hi A n cap G) (hk : KeepT T w w') (h1 : 28 ≠ T) (h2 : 35 ≠ T) : NOwn w' lo hi A n cap G := by
  obtain ⟨S, h⟩ := h
  refine ⟨S, ⟨⟨h.1.1.1, ?_⟩, h.1.2⟩, h.2.1, fun i s l hs hl => (h.2.2.1 i s l hs hl).keepT hk h2, h.2.2.2⟩
  rcases h.1.1.2 with hn | ⟨g, cap', cur, hv, hb, hg, rest⟩
  · exact .inl hn
  · exact .inr ⟨g, cap', cur, hv, hb, (hk g cur _ _ hg h1).trans hg, rest⟩
theorem markFair_any (qu li : Int) (M : Fm) (nx : Int) (op : Bool) (G : List (List Int)) (D : List Int) (k : Int) (lo hi : Nat) (w : World) (ho : FOwn w lo hi M G D) (hn : M.n ≤ 1099511627776) (hm : M.m ≤ 1099511627776) (k0 : 0 ≤ k) (k1 : k + (gsum G : Nat) ≤ 1099511627776) (hhi : hi ≤ w.heap.size) (hlo : lo ≤ hi) :
    Calls Try.prog 38 #[.agg #[.int .i64 qu, .int .i64 li, .slice M.A M.n M.cap, .slice M.B M.m M.capd, .int .i64 nx, .bool op], .int .i64 k] w (MarkedFa w lo hi M G k) := by
  have HO := Lib.hid (fun (o : Obj) => ho.alloc o)
  clear ho
  go_enter Try.func38, Try.ntmps38
  go_wp2_with fail
  refine (markPacketSS_any _ _ _ G _ lo hi _ (HO.out _).q hn k0 k1).mono ?_
  rintro e w1 ⟨rfl, ho, hc, ht⟩
  have HQ := Lib.hid ho
  have HC := Lib.hid hc
  have hd := (HO.out (.cells #[.int .i64 qu, .int .i64 li, .slice M.A M.n M.cap, .slice M.B M.m M.capd, .int .i64 nx, .bool op] 56)).d.keepT ht (by decide)
  obtain ⟨a, b, q1, q2, q3, q4, q5⟩ := hd.slim hlo
  have HD := Lib.hid q4
  have HT := Lib.hid (fun k h1 h2 => (q5 k h1 h2).2)
  have hz := hc.size
  have c0 := fun o => chkeep hc w.heap.size o (by simp) (.inr hhi)
  simp at hz
  clear ho hc ht hd q4 q5
  go_wp2_with fail
  refine (markIntS_any _ _ _ D _ a b _ HD.out hm (by omega) (by omega)).mono ?_
  rintro e w2 ⟨rfl, ho, hc⟩
  have HD2 := Lib.hid (ho.lo_le q1 |>.more q3)
  have HQ2 := Lib.hid (HQ.out.keepT (hc.keepT HT.out) (by decide) (by decide))
  have HC2 := Lib.hid (hc.widen q1 q3)
  clear ho hc
  go_wp2_with fail
  go_ret
  exact ⟨rfl, ⟨HQ2.out, HD2.out⟩, ((Chg.of_below (ba (b0 w) _)).trans HC.out).trans HC2.out⟩
theorem heldFair_any (qu li : Int) (M : Fm) (nx : Int) (op : Bool) (G : List (List Int)) (D : List Int) (k : Int) (w : World) (hl : G.length = M.n) (hr : FRow w M (mrks k G) (marks (k + (gsum G : Nat)) M.m)) (hn : M.n ≤ 1099511627776) (hm : M.m ≤ 1099511627776) (k0 : 0 ≤ k) (k1 : k + (gsum G : Nat) ≤ 1099511627776) :
    Calls Try.prog 39 #[.agg #[.int .i64 qu, .int .i64 li, .slice M.A M.n M.cap, .slice M.B M.m M.capd, .int .i64 nx, .bool op], .int .i64 k] w fun e w' => e = .returned (.int .i64 (k + (gsum G : Nat) + (M.m : Int))) ∧ Below w.heap.size w w' := by
  have HR := Lib.hid (fun (W : World) (hb : Below w.heap.size w W) => hr.below hb)
  clear hr
  go_enter Try.func39, Try.ntmps39
  go_wp2_with fail
  refine (heldPacketSS_any _ _ _ G _ _ hl (HR.out _ (ba (b0 w) _)).q hn k0 k1).mono ?_
  rintro e w1 ⟨rfl, hg⟩
  have zhg := hg.size; (try simp at zhg); have c0hg := fun o => bkeep hg (w.heap.size) o (by first | omega | (simp; done) | (simp; omega)); have f0hg := fun o => bfree hg (w.heap.size) o (by first | omega | (simp; done) | (simp; omega))
  have k2 : 0 ≤ k + (gsum G : Nat) := by omega
  generalize hS : k + (gsum G : Nat) = s at *
  go_wp2_with fail
  refine (heldIntS_any _ _ _ _ _ (HR.out _ (bt (ba (b0 w) _) hg)).d hm (by omega) (by omega)).mono ?_
  rintro e w2 ⟨rfl, hg2⟩
  go_wp2_with fail
  go_ret
  exact ⟨by rw [hS]; rfl, (by repeat (first | (with_reducible exact b0 _) | (with_reducible refine ba ?_ _) | (with_reducible refine bd ?_ _) | (with_reducible refine Below.drew ?_) | (with_reducible refine bs ?_ (by first | exact Nat.le_refl _ | exact Nat.le_add_right _ _ | omega) _) | (with_reducible refine bt ?_ (by assumption))))⟩
end Go.Proofs.Ytgdldmeeaejjpaa
