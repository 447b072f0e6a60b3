/- The contract of slices.Delete(s, 0, 1) on packets of the call's own. -/
import Derived.Test.YtgdldmeeaejjpaaCopy
import Derived.Deep.RegionLaw
import Derived.Laws.IdiomCopy
import Derived.BigFrame
namespace Go.Proofs.Ytgdldmeeaejjpaa
open Go.ChangeShapes Go.WideShapes Go.ChangeAt Go.RowKit
set_option linter.unusedVariables false
theorem heap_setCells (g : Nat) : ∀ (vs : List Value) (o : Nat) (w : World) (cur : Array Value) (e : TypeId), w.heap[g]? = some (.cells cur e (0, 0)) →
    ∃ cur', (w.setCells g o vs).heap[g]? = some (.cells cur' e (0, 0)) ∧ cur'.size = cur.size ∧ ∀ i, cur'[i]? = if o ≤ i ∧ i < o + vs.length ∧ i < cur.size then vs[i - o]? else cur[i]?
  | [], o, w, cur, e, h => ⟨cur, h, rfl, fun i => by rw [if_neg (by simp; omega)]⟩
  | v :: r, o, w, cur, e, h => by
    have h1 := heap_setCell_same w g o cur e v h
    obtain ⟨cur', h2, h3, h4⟩ := heap_setCells g r (o + 1) _ _ _ h1
    refine ⟨cur', h2, by rw [h3]; simp, fun i => ?_⟩
    rw [h4 i]
    simp only [Array.size_setIfInBounds, List.length_cons, Array.getElem?_setIfInBounds]
    by_cases hi : i = o
    · subst hi
      by_cases hs : i < cur.size
      · rw [if_neg (by omega), if_pos rfl, if_pos hs, if_pos (by omega)]
        simp
      · rw [if_neg (by omega), if_pos rfl, if_neg hs, if_neg (by omega)]
        rw [Array.getElem?_eq_none (by omega)]
    · by_cases hb : o + 1 ≤ i ∧ i < o + 1 + r.length ∧ i < cur.size
      · rw [if_pos hb, if_pos (by omega)]
        obtain ⟨j, rfl⟩ : ∃ j, i = o + 1 + j := ⟨i - (o + 1), by omega⟩
        rw [show o + 1 + j - (o + 1) = j by omega, show o + 1 + j - o = j + 1 by omega]
        simp
      · rw [if_neg hb, if_neg (fun h => hi h.symm), if_neg (by omega)]
theorem IOwn.relaid {w w' : World} {lo hi e s g n cap : Nat} {l l' : List Int} (h : IOwn w lo hi e s (some ⟨g, 0, none⟩) n cap l) {m : Nat} (hm : m ≤ cap) (hl : l'.length = m * s)
    (hh : ∀ cur, w.heap[g]? = some (.cells cur e (0, 0)) → cur.size = cap * s → cur.toList.take (n * s) = l.map (Value.int .i64) → ∃ cur', w'.heap[g]? = some (.cells cur' e (0, 0)) ∧ cur'.size = cap * s ∧ ∀ i, i < m * s → cur'[i]? = some (.int .i64 (l'[i]?.getD 0))) : IOwn w' lo hi e s (some ⟨g, 0, none⟩) m cap l' := by
  rcases h.1.2 with ⟨hv, _⟩ | ⟨g', cap', cur, hv, hb, hg, hn, hc, hs, ht⟩
  · cases hv
  · injection hv with hv1 _ hv3
    injection hv1 with hv1
    injection hv1 with hv1
    subst hv1 hv3
    obtain ⟨cur', h1, h2, h3⟩ := hh cur hg hs ht
    refine ⟨⟨by simpa using hl, .inr ⟨g, cap, cur', rfl, hb, h1, hm, hc, h2, ?_⟩⟩, fun k hk => h.2 k hk⟩
    apply List.ext_getElem?
    intro i
    rw [List.getElem?_take, List.getElem?_map]
    by_cases hi : i < m * s
    · rw [if_pos hi, Array.getElem?_toList, h3 i hi, List.getElem?_eq_getElem (by omega)]
      rfl
    · rw [if_neg hi, List.getElem?_eq_none (by omega)]
      rfl
theorem fl_tail (L : List Pk) : fl L.tail = (fl L).drop 6 := by
  have := fl_drop L 1
  rw [List.drop_one] at this
  rw [← this]
def zero6 : List Value := [.int .i64 0, .int .i64 0, .int .i64 0, .int .i64 0, .int .i64 0, .int .i64 0]
theorem clear_pk (w : World) (ty : TypeId) (b o c : Nat) (hc : ∀ j, j < 6 → (w.cell? ⟨b, o + j, none⟩).isSome = true) (hf : ∀ j, j < 6 → w.frozen? ⟨b, o + j, none⟩ = false) :
    (Builtin.clear_ #[28] ty #[.slice (some ⟨b, o, none⟩) 1 c]).run Try.prog w = .ok (.tuple #[]) (w.setCells b o zero6) := by
  have hst := run_storeCells_cells (P := Try.prog) b o zero6 0 w (by simpa [zero6] using hc) (by simpa [zero6] using hf) (by intro v hv'; simp [zero6] at hv'; subst hv'; rfl)
  have hz : (Builtin.zeroCells (Value.agg #[.int .i64 0, .int .i64 0, .int .i64 0, .int .i64 0, .int .i64 0, .int .i64 0] : Value).cells 1).toList = zero6 := by kernel_rfl
  simp only [Nat.add_zero] at hst
  simp [Builtin.clear_, run_underlying Try.underlying28, hz, hst]
/-- What Delete leaves of the slice. -/
def Cut1 (w : World) (lo hi g m cap : Nat) (L : List Pk) (e : Ending) (w' : World) : Prop :=
  e = .returned (.slice (some ⟨g, 0, none⟩) m cap) ∧ IOwn w' lo hi 35 6 (some ⟨g, 0, none⟩) m cap (fl L.tail) ∧ Chg lo hi w w'
theorem chg_setCells {lo hi : Nat} {a : World} (g : Nat) (h1 : lo ≤ g) (h2 : g < hi) : ∀ (vs : List Value) (o : Nat) (w : World), Chg lo hi a w → Chg lo hi a (w.setCells g o vs)
  | [], _, _, h => h
  | v :: r, o, w, h => chg_setCells g h1 h2 r (o + 1) _ (h.setCell (p := ⟨g, o, none⟩) h1 h2 v)
theorem chgd {lo hi : Nat} {a w : World} (h : Chg lo hi a w) : Chg lo hi a w.drew := ⟨h.os, h.tape, h.output, h.size, h.block⟩
theorem cut_ends {w : World} {lo hi g m cap : Nat} {L : List Pk} (h : IOwn w lo hi 35 6 (some ⟨g, 0, none⟩) (m + 1) cap (fl L)) (hcap : m + 1 ≤ cap) :
    IOwn ((w.setCells g 0 ((fl L.tail).map (Value.int .i64))).setCells g (m * 6) zero6) lo hi 35 6 (some ⟨g, 0, none⟩) m cap (fl L.tail) := by
  have hlen := h.len
  have hl2 : (fl L.tail).length = m * 6 := by rw [fl_tail]; simp; omega
  refine h.relaid (by omega) hl2 fun cur h1 h2 h3 => ?_
  obtain ⟨c1, a1, a2, a3⟩ := heap_setCells g ((fl L.tail).map (Value.int .i64)) 0 w _ _ h1
  obtain ⟨c2, b1, b2, b3⟩ := heap_setCells g zero6 (m * 6) _ _ _ a1
  refine ⟨c2, b1, by omega, fun i hi => ?_⟩
  rw [b3 i, if_neg (by omega), a3 i, if_pos (by simp; omega), Nat.sub_zero, List.getElem?_map, List.getElem?_eq_getElem (by omega)]
  rfl
theorem setCells_zero (w : World) (g o : Nat) : w.setCells g o [] = w := rfl
theorem isSome_setCells {w : World} {g o k : Nat} {vs : List Value} (h : (w.cell? ⟨g, k, none⟩).isSome = true) : ((w.setCells g o vs).cell? ⟨g, k, none⟩).isSome = true := by
  induction vs generalizing w o with
  | nil => exact h
  | cons v r ih =>
    refine ih ?_
    by_cases hk : k = o
    · subst hk
      obtain ⟨u, hu⟩ := Option.isSome_iff_exists.1 h
      rw [World.cell?_setCell_same _ _ _ hu]
      rfl
    · rw [World.cell?_setCell_other _ _ _ _ (by intro e; injection e with _ e; exact hk e.symm)]
      exact h
set_option maxHeartbeats 1000000 in
theorem delete_any (lo hi g m cap : Nat) (L : List Pk) (w : World) (h : IOwn w lo hi 35 6 (some ⟨g, 0, none⟩) (m + 1) cap (fl L)) (hn2 : m ≤ 1048576) :
    Calls Try.prog 57 #[.slice (some ⟨g, 0, none⟩) (m + 1) cap, .int .i64 0, .int .i64 1] w (Cut1 w lo hi g m cap L) := by
  have hlen := h.len
  obtain ⟨g', hg', hg1, hg2, hg3, hc, hf⟩ := h.at_ (k := 0) (by omega)
  injection hg' with hg'
  injection hg' with hg'
  subst hg'
  obtain ⟨i0, hi, hz0, hz1, hz2⟩ := info_parts tPacket
  have HI := Lib.hid hi
  have HZ1 := Lib.hid hz1
  have HO := Lib.hid h
  obtain ⟨cur, hcur, hsz, hcap⟩ : ∃ cur, w.heap[g]? = some (.cells cur 35 (0, 0)) ∧ cur.size = cap * 6 ∧ m + 1 ≤ cap := by
    rcases h.1.2 with ⟨hv, _⟩ | ⟨g', cap', cur, hv, hb, hg, hn, hcc, hs, ht⟩
    · cases hv
    · injection hv with hv1 _ hv3
      injection hv1 with hv1
      injection hv1 with hv1
      subst hv1 hv3
      exact ⟨cur, hg, hs, hn⟩
  have HCS := Lib.hid (fun (i : Nat) (hi : i < cap * 6) => show (w.cell? ⟨g, i, none⟩).isSome = true by rw [cell_of_row w g i cur 35 (0, 0) hcur]; simp [hsz, hi])
  have HF := Lib.hid hf
  have HC := Lib.hid hc
  have hl2 : (fl L.tail).length = m * 6 := by rw [fl_tail]; simp; omega
  have HL2 := Lib.hid hl2
  have HT := Lib.hid (fun (j : Nat) (hj : j < m * 6) => show (fl L.tail)[j]? = (fl L)[6 + j]? by rw [fl_tail, List.getElem?_drop])
  have HLN := Lib.hid hlen
  clear h hc hf hi hz0 hz1 hz2 hcur hsz hl2 hlen
  have k2 : (m : Int) + 1 ≤ (cap : Int) := by omega
  have k3 : (1 : Int) ≤ (cap : Int) := by omega
  have k4 : (0 : Int) ≤ (cap : Int) := by omega
  have k5 : (0 : Int) ≤ (m : Int) := by omega
  have k6 : (1 : Int) ≤ (m : Int) + 1 := by omega
  have k7 : (0 : Int) ≤ (m : Int) + 1 := by omega
  have k8 : m + 1 ≤ cap := by omega
  have k9 : 1 ≤ cap := by omega
  obtain ⟨A, hA, hnews⟩ : ∃ A, (if cap = 1 then some (⟨g, 0, none⟩ : Addr) else some ⟨g, 6, none⟩) = some A ∧ ∀ j u, ((fl L.tail).map (Value.int .i64))[j]? = some u → w.cell? (A.add j) = some u := by
    by_cases hc1 : cap = 1
    · refine ⟨⟨g, 0, none⟩, by rw [if_pos hc1], fun j u hu => ?_⟩
      have : fl L.tail = [] := List.eq_nil_of_length_eq_zero (by rw [HL2.out]; omega)
      rw [this] at hu
      simp at hu
    · refine ⟨⟨g, 6, none⟩, by rw [if_neg hc1], fun j u hu => ?_⟩
      rw [List.getElem?_map] at hu
      have hj : j < m * 6 := by
        rcases Nat.lt_or_ge j (m * 6) with h' | h'
        · exact h'
        · rw [List.getElem?_eq_none (by rw [HL2.out]; exact h')] at hu; cases hu
      rw [HT.out j hj] at hu
      have := HC.out (6 + j) (by rw [HLN.out]; omega)
      rw [List.getElem?_eq_getElem (by rw [HLN.out]; omega)] at hu this
      rw [add_plain, this]
      simpa using hu
  have HN := Lib.hid hnews
  have hne : ¬ m = cap := by omega
  clear hnews
  go_enter Try.func57, Try.ntmps57
  go_wp2_with fail
  go_region_law (refine step_append_room rfl (.tmp 22) (.tmp 25) 28 rfl 35 i0 6 Try.underlying28 HI.out HZ1.out g 0 0 cap (by simp [Act.eval, Act.put]) A m (cap - 1) ((fl L.tail).map (Value.int .i64)) (by simp [Act.eval, Act.put]) (by rw [List.length_map]; exact HL2.out) HN.out (by intro u hu; obtain ⟨y, _, rfl⟩ := List.mem_map.1 hu; rfl) (by omega) (fun j hj => ⟨HCS.out _ (by have := HL2.out; simp at hj; omega), HF.out _⟩) ?_)
  obtain ⟨W, hW⟩ : ∃ W, W = w.drew.setCells g (0 + 0 * 6) ((fl L.tail).map (Value.int .i64)) := ⟨_, rfl⟩
  rw [← hW]
  have hcl : ∀ ty c, (Builtin.clear_ #[28] ty #[.slice (some ⟨g, m * 6, none⟩) 1 c]).run Try.prog W = .ok (.tuple #[]) (W.setCells g (m * 6) zero6) := fun ty c =>
    clear_pk W ty g (m * 6) c (fun j hj => by rw [hW]; exact isSome_setCells (w := w.drew) (HCS.out _ (by omega))) (fun j hj => by rw [hW, World.frozen?_setCells]; exact HF.out _)
  have HE := Lib.hid (show IOwn (W.setCells g (m * 6) zero6) lo hi 35 6 (some ⟨g, 0, none⟩) m cap (fl L.tail) by rw [hW]; exact cut_ends (w := w.drew) HO.out k8)
  have HC2 := Lib.hid (show Chg lo hi w (W.setCells g (m * 6) zero6) by rw [hW]; exact chg_setCells g hg1 hg2 _ _ _ (chg_setCells g hg1 hg2 _ _ _ (chgd (Chg.refl lo hi w))))
  clear hW
  go_wp2_with (simp only [hcl])
  go_ret
  exact ⟨rfl, HE.out, HC2.out⟩
end Go.Proofs.Ytgdldmeeaejjpaa
