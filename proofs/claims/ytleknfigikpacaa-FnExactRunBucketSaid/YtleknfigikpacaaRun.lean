/- The contracts of what runs a bucket over sends. -/
import Derived.Test.YtleknfigikpacaaCapLaw
import Derived.Test.YtleknfigikpacaaBools
import Derived.Test.YtleknfigikpacaaBlk
namespace Go.Proofs.Ytleknfigikpacaa
open Go.ChangeShapes Go.WideShapes Go.ChangeAt Go.RowKit
set_option linter.unusedVariables false
theorem BOwn.far {w : World} {lo hi e s : Nat} {A : Option Addr} {n cap : Nat} {l : List Bool} (h : BOwn w lo hi e s A n cap l) {p : Addr} (hp : p.block < lo ∨ hi ≤ p.block) (u : Value) : BOwn (w.setCell p u) lo hi e s A n cap l := h.keep fun k h1 h2 _ => Below.heap_setCell w p u k (by omega)
theorem BOwn.alloc {w : World} {lo hi e s : Nat} {A : Option Addr} {n cap : Nat} {l : List Bool} (h : BOwn w lo hi e s A n cap l) (o : Obj) : BOwn (w.alloc o) lo hi e s A n cap l := h.keep fun k _ _ h3 => Below.heap_alloc w o k h3
/-- What a run hands back: the bucket, and a new slice of bools. -/
def NewRun (w : World) (r c t : Int) (n : Nat) (l : List Bool) (e : Ending) (w' : World) : Prop :=
  ∃ A cap, e = .returned (.tuple #[.agg #[.int .i64 r, .int .i64 c, .int .i64 t], .slice A n cap]) ∧ BOwn w' w.heap.size w'.heap.size 4 1 A n cap l ∧ Below w.heap.size w w'
set_option maxHeartbeats 2000000 in
theorem buRun_any (r c t : Int) (A : Option Addr) (n cap : Nat) (l : List Int) (w : World) (hl : l.length = n * 2) (hr : IRow w A l) (hn : n ≤ 60) (hs : Ses l n) (h1 : 0 ≤ r) (h2 : r ≤ 100000) (h3 : 0 ≤ t) (h4 : t ≤ c) (h5 : c ≤ 1000000) :
    Calls Try.prog 66 #[.agg #[.int .i64 r, .int .i64 c, .int .i64 t], .slice A n cap] w (NewRun w r c (tkn r c t l n) n (snts r c t l n)) := by
  have HL := Lib.hid hl
  have HR := Lib.hid hr
  have HS := Lib.hid hs
  clear hl hr hs
  go_enter Try.func66, Try.ntmps66
  go_wp2_with fail
  go_loopw [6, 7, 13] (fun v u i wr => ∃ (k : Nat) (B : Option Addr) (cp : Nat), k ≤ n ∧ i = .int .i64 k ∧ u = .int .i64 (lastT l k) ∧ v = .slice B k cp ∧ Bk wr w.heap.size 25 #[.int .i64 r, .int .i64 c, .int .i64 (tkn r c t l k)] ∧ Bk wr (w.heap.size + 1) 25 #[.int .i64 0, .int .i64 0, .int .i64 0] ∧ BOwn wr (w.heap.size + 2) wr.heap.size 4 1 B k cp (snts r c t l k) ∧ Below w.heap.size w wr) (fun _ _ i _ => n - (intOf i).toNat)
  case atStart => exact ⟨0, none, 0, Nat.zero_le _, rfl, rfl, rfl, (Bk.new w _ _).alloc _, Bk.new_ (by simp), BOwn.none_ _ _ _ _ _, ba (ba (b0 w) _) _⟩
  case round =>
    obtain ⟨k, B, cp, hk, rfl, rfl, rfl, hB0, hB1, hown, hbw⟩ := hrel
    have HO := Lib.hid hown
    clear hown
    have zw : w.heap.size + 1 < wr.heap.size := hB1.lt
    have zw0 : w.heap.size < wr.heap.size := hB0.lt
    by_cases hlt : k < n
    · obtain ⟨g, off, rfl, hg, hc⟩ := (HR.out.below hbw).at_ (k := k * 2) (by have := HL.out; omega)
      have hc0 : wr.cell? ⟨g, off + k * 2, none⟩ = some (.int .i64 (tk l k)) := by have h := hc (k * 2) (by have := HL.out; omega); simpa [Nat.add_assoc, tk, sz] using h
      have hc1 : wr.cell? ⟨g, off + k * 2 + 1, none⟩ = some (.int .i64 (sz l k)) := by have h := hc (k * 2 + 1) (by have := HL.out; omega); simpa [Nat.add_assoc, tk, sz] using h
      clear hc
      have k0 := hB0.cell 0
      have k1 := hB0.cell 1
      have k2 := hB0.cell 2
      simp at k0 k1 k2
      have tb := tkn_b HS.out h1 h3 h4 k hk
      have db := HS.out.dt hlt
      have da := HS.out.lt hk
      have dk := HS.out.tk hlt
      have fb := fil_b HS.out h1 hlt tb.1 tb.2
      have sb := HS.out.sz hlt
      have HF := Lib.hid (show fil r c t l k = least c (tkn r c t l k + r * (tk l k - lastT l k)) from rfl)
      have HT := Lib.hid (show tkn r c t l (k + 1) = spend (fil r c t l k) (sz l k) from rfl)
      have HN := Lib.hid (show snt r c t l k = decide (sz l k ≤ fil r c t l k) from rfl)
      have HLT := Lib.hid (show lastT l (k + 1) = tk l k from rfl)
      have HSN := Lib.hid (snts_succ r c t l k)
      generalize tkn r c t l k = t1 at *
      generalize lastT l k = a at *
      generalize tk l k = b at *
      generalize sz l k = s at *
      generalize fil r c t l k = f at *
      generalize snt r c t l k = sn at *
      have HB0 := Lib.hid hB0
      have HB1 := Lib.hid hB1
      clear hB0 hB1
      go_wp2_with fail
      refine (buFill_any _ _ _ _ _ (by omega) (by omega) (by omega) (by omega) (by omega) (by omega)).mono ?_
      rw [← HF.out]
      rintro e w2 ⟨rfl, hb2⟩
      have z2 := hb2.size
      simp at z2
      have HB02 := Lib.hid ((HB0.out.alloc _).old hb2)
      have HB12 := Lib.hid ((HB1.out.alloc _).old hb2)
      have HO2 := Lib.hid ((HO.out.alloc _).below hb2 (by simp))
      have m0 := HB02.out.cell 0
      have m1 := HB02.out.cell 1
      have m2 := HB02.out.cell 2
      simp at m0 m1 m2
      have fr := HB02.out.free
      have x0 := bkeep hb2 wr.heap.size 0 (by simp)
      have x1 := bkeep hb2 wr.heap.size 1 (by simp)
      simp at x0 x1
      by_cases hsn : s ≤ f
      · have hsn' : sn = true := by rw [HN.out]; simp [hsn]
        subst hsn'
        have hT := Lib.hid (show tkn r c t l (k + 1) = f - s by rw [HT.out, spend, if_pos hsn])
        go_wp2_with (at_builtin; refine append_bool rfl _ _ rfl (lo := w.heap.size + 2) (hh := w2.heap.size + 1) (l := snts r c t l k) rfl ((((((HO2.out.more (by omega)).far (.inl (show w.heap.size < w.heap.size + 2 by omega)) _).far (.inl (show w.heap.size < w.heap.size + 2 by omega)) _).far (.inl (show w.heap.size < w.heap.size + 2 by omega)) _).far (.inl (show w.heap.size < w.heap.size + 2 by omega)) _).alloc _) w2.heap.size true rfl ((Bk.new_ (by simp)).cell 0) (by omega) (by simp; omega) ?_; intro B' c' w4 ho3 hb3; rw [← HSN.out] at ho3; have HO3 := Lib.hid ho3; clear ho3)
        go_roundw
        case rel => exact ⟨k + 1, B', c', by omega, by go_num, by rw [HLT.out], rfl, by rw [hT.out]; exact (((((HB02.out.set 0 _).set 1 _).set 2 _).set 2 _).alloc _).below hb3 (by omega), (((((HB12.out.far (by simp) _).far (by simp) _).far (by simp) _).far (by simp) _).alloc _).below hb3 (by omega), HO3.out, (ba (bs (bs (bs (bs (bt (ba hbw _) hb2) (Nat.le_refl _) _) (Nat.le_refl _) _) (Nat.le_refl _) _) (Nat.le_refl _) _) _).trans (hb3.mono (by omega))⟩
        case measure => simp [intOf]; omega
      · have hsn' : sn = false := by rw [HN.out]; simp [hsn]
        subst hsn'
        have hd : decide (s ≤ f) = false := decide_eq_false hsn
        have hT := Lib.hid (show tkn r c t l (k + 1) = f by rw [HT.out, spend, if_neg hsn])
        go_wp2_with (at_builtin; refine append_bool rfl _ _ rfl (lo := w.heap.size + 2) (hh := w2.heap.size + 1) (l := snts r c t l k) rfl (((((HO2.out.more (by omega)).far (.inl (show w.heap.size < w.heap.size + 2 by omega)) _).far (.inl (show w.heap.size < w.heap.size + 2 by omega)) _).far (.inl (show w.heap.size < w.heap.size + 2 by omega)) _).alloc _) w2.heap.size false rfl ((Bk.new_ (by simp)).cell 0) (by omega) (by simp; omega) ?_; intro B' c' w4 ho3 hb3; rw [← HSN.out] at ho3; have HO3 := Lib.hid ho3; clear ho3)
        go_roundw
        case rel => exact ⟨k + 1, B', c', by omega, by go_num, by rw [HLT.out], rfl, by rw [hT.out]; exact ((((HB02.out.set 0 _).set 1 _).set 2 _).alloc _).below hb3 (by omega), ((((HB12.out.far (by simp) _).far (by simp) _).far (by simp) _).alloc _).below hb3 (by omega), HO3.out, (ba (bs (bs (bs (bt (ba hbw _) hb2) (Nat.le_refl _) _) (Nat.le_refl _) _) (Nat.le_refl _) _) _).trans (hb3.mono (by omega))⟩
        case measure => simp [intOf]; omega
    · obtain rfl : k = n := by omega
      have k0 := hB0.cell 0
      have k1 := hB0.cell 1
      have k2 := hB0.cell 2
      have l0 := hB1.cell 0
      have l1 := hB1.cell 1
      have l2 := hB1.cell 2
      simp at k0 k1 k2 l0 l1 l2
      have lf := hB1.free
      have HB0 := Lib.hid hB0
      have HB1 := Lib.hid hB1
      clear hB0 hB1
      go_wp2_with fail
      refine bodyPost_ret (v := .tuple #[.agg #[.int .i64 r, .int .i64 c, .int .i64 (tkn r c t l k)], .slice B k cp]) (by simp [results, Try.results66, go_sem, l0, l1, l2]) rfl ⟨B, cp, rfl, ?_, ?_⟩
      · exact ((((HO.out.far (by simp) _).far (by simp) _).far (by simp) _).lo_le (by omega)).here
      · exact bs (bs (bs hbw (Nat.le_add_right _ _) _) (Nat.le_add_right _ _) _) (Nat.le_add_right _ _) _
theorem blendB_same {l m : List Bool} (h : m.length = l.length) {k : Nat} (hk : k < l.length) (e : l[k]?.getD false = m[k]?.getD false) : blendB (k + 1) l m = blendB k l m := by
  have hm : k < m.length := by omega
  rw [List.getElem?_eq_getElem hk, List.getElem?_eq_getElem hm] at e
  simp only [Option.getD_some] at e
  unfold blendB
  rw [List.drop_eq_getElem_cons hm, List.take_succ_eq_append_getElem hk, e]
  simp
set_option maxHeartbeats 2000000 in
theorem runSends_any (r c t : Int) (A : Option Addr) (n cap : Nat) (l : List Int) (w : World) (hl : l.length = n * 2) (hr : IRow w A l) (hn : n ≤ 60) (hs : Ses l n) (h1 : 0 ≤ r) (h2 : r ≤ 100000) (h3 : 0 ≤ t) (h4 : t ≤ c) (h5 : c ≤ 1000000) :
    Calls Try.prog 67 #[.agg #[.int .i64 r, .int .i64 c, .int .i64 t], .slice A n cap] w (NewRun w r c (tkn r c t l n) n (snts r c t l n)) := by
  have HL := Lib.hid hl
  have HR := Lib.hid hr
  have HS := Lib.hid hs
  clear hl hr hs
  obtain ⟨w1, hmk, ho, hb⟩ := make_bools n (by omega) ((w.alloc (.cells #[.int .i64 r, .int .i64 c, .int .i64 t] 25)).alloc (.cells #[.int .i64 0, .int .i64 0, .int .i64 0] 25))
  rw [show ((w.alloc (.cells #[.int .i64 r, .int .i64 c, .int .i64 t] 25)).alloc (.cells #[.int .i64 0, .int .i64 0, .int .i64 0] 25)).heap.size = w.heap.size + 1 + 1 by simp] at hmk ho hb
  have HO := Lib.hid ho
  have HM := Lib.hid (snts_len r c t l n)
  clear ho
  go_enter Try.func67, Try.ntmps67
  go_wp2_with fail
  clear hmk
  go_loopw [7, 15] (fun u i wr => ∃ k : Nat, k ≤ n ∧ i = .int .i64 k ∧ u = .int .i64 (lastT l k) ∧ Bk wr w.heap.size 25 #[.int .i64 r, .int .i64 c, .int .i64 (tkn r c t l k)] ∧ Bk wr (w.heap.size + 1) 25 #[.int .i64 0, .int .i64 0, .int .i64 0] ∧ BOwn wr (w.heap.size + 1 + 1) w1.heap.size 4 1 (some ⟨w.heap.size + 1 + 1, 0, none⟩) n n (blendB k (snts r c t l n) (List.replicate n false)) ∧ Below w.heap.size w wr ∧ w1.heap.size ≤ wr.heap.size) (fun _ i _ => n - (intOf i).toNat)
  case atStart => exact ⟨0, Nat.zero_le _, rfl, rfl, ((Bk.new w _ _).alloc _).below hb (by omega), (Bk.new_ (by simp)).below hb (by omega), by rw [blendB_zero]; exact HO.out, (ba (ba (b0 w) _) _).trans (hb.mono (by omega)), Nat.le_refl _⟩
  case round =>
    obtain ⟨k, hk, rfl, rfl, hB0, hB1, hown, hbw, hsz⟩ := hrel
    have zw : w.heap.size + 1 < wr.heap.size := hB1.lt
    have zw0 : w.heap.size < wr.heap.size := hB0.lt
    by_cases hlt : k < n
    · obtain ⟨g, off, rfl, hg, hc⟩ := (HR.out.below hbw).at_ (k := k * 2) (by have := HL.out; omega)
      have hc0 : wr.cell? ⟨g, off + k * 2, none⟩ = some (.int .i64 (tk l k)) := by have h := hc (k * 2) (by have := HL.out; omega); simpa [Nat.add_assoc, tk, sz] using h
      have hc1 : wr.cell? ⟨g, off + k * 2 + 1, none⟩ = some (.int .i64 (sz l k)) := by have h := hc (k * 2 + 1) (by have := HL.out; omega); simpa [Nat.add_assoc, tk, sz] using h
      clear hc
      have k0 := hB0.cell 0
      have k1 := hB0.cell 1
      have k2 := hB0.cell 2
      simp at k0 k1 k2
      have fr := hB0.free
      have hbl := blendB_len (l := snts r c t l n) (m := List.replicate n false) (by simp [HM.out]) (k := k) (by rw [HM.out]; omega)
      obtain ⟨g', hg', _, hg2, hg3, hc2, hf2⟩ := hown.at_ (k := k) (by rw [hbl, HM.out]; omega)
      injection hg' with hg'
      injection hg' with hg'
      subst hg'
      have q0 := hc2 k (by rw [hbl, HM.out]; omega)
      have f0 := hf2 k
      clear hc2 hf2 hbl
      have HOW := Lib.hid hown
      clear hown
      have tb := tkn_b HS.out h1 h3 h4 k hk
      have db := HS.out.dt hlt
      have da := HS.out.lt hk
      have dk := HS.out.tk hlt
      have fb := fil_b HS.out h1 hlt tb.1 tb.2
      have sb := HS.out.sz hlt
      have HF := Lib.hid (show fil r c t l k = least c (tkn r c t l k + r * (tk l k - lastT l k)) from rfl)
      have HT := Lib.hid (show tkn r c t l (k + 1) = spend (fil r c t l k) (sz l k) from rfl)
      have HN := Lib.hid (show (snts r c t l n)[k]?.getD false = decide (sz l k ≤ fil r c t l k) by rw [snts_get hlt]; rfl)
      have HLT := Lib.hid (show lastT l (k + 1) = tk l k from rfl)
      generalize tkn r c t l k = t1 at *
      generalize lastT l k = a at *
      generalize tk l k = b at *
      generalize sz l k = s at *
      generalize fil r c t l k = f at *
      have HB0 := Lib.hid hB0
      have HB1 := Lib.hid hB1
      clear hB0 hB1
      by_cases hsn : s ≤ f
      · have hT := Lib.hid (show tkn r c t l (k + 1) = f - s by rw [HT.out, spend, if_pos hsn])
        have hN := Lib.hid (show (snts r c t l n)[k]?.getD false = true by rw [HN.out]; simp [hsn])
        go_wp2_with (go_at_call 54; refine (filled_any _ _ _ _ _ (by omega) (by omega) (by omega) (by omega) (by omega) (by omega)).mono ?_; rw [← HF.out]; rintro e w' ⟨rfl, rfl⟩)
        go_roundw
        case rel =>
          refine ⟨k + 1, by omega, by go_num, by rw [HLT.out], by rw [hT.out]; exact ((((HB0.out.set 2 _).set 2 _).far (show w.heap.size ≠ w.heap.size + 1 + 1 by omega) _).alloc _), ((((HB1.out.far (by simp) _).far (by simp) _).far (by simp) _).alloc _), ?_, ba (bs (bs (bs hbw (Nat.le_refl _) _) (Nat.le_refl _) _) (show w.heap.size ≤ w.heap.size + 1 + 1 by omega) _) _, by simp; omega⟩
          rw [← blendB_set (by simp [HM.out]) (by rw [HM.out]; exact hlt), hN.out]
          exact (((HOW.out.far (.inl (show w.heap.size < w.heap.size + 1 + 1 by omega)) _).far (.inl (show w.heap.size < w.heap.size + 1 + 1 by omega)) _).set_ k true).alloc _
        case measure => simp [intOf]; omega
      · have hd : decide (s ≤ f) = false := decide_eq_false hsn
        have hT := Lib.hid (show tkn r c t l (k + 1) = f by rw [HT.out, spend, if_neg hsn])
        have hN := Lib.hid (show (snts r c t l n)[k]?.getD false = false by rw [HN.out, hd])
        go_wp2_with (go_at_call 54; refine (filled_any _ _ _ _ _ (by omega) (by omega) (by omega) (by omega) (by omega) (by omega)).mono ?_; rw [← HF.out]; rintro e w' ⟨rfl, rfl⟩)
        go_roundw
        case rel =>
          refine ⟨k + 1, by omega, by go_num, by rw [HLT.out], by rw [hT.out]; exact ((HB0.out.set 2 _).alloc _), ((HB1.out.far (by simp) _).alloc _), ?_, ba (bs hbw (Nat.le_refl _) _) _, by simp; omega⟩
          rw [blendB_same (by simp [HM.out]) (by rw [HM.out]; exact hlt) (by rw [hN.out]; simp [hlt])]
          exact (HOW.out.far (.inl (show w.heap.size < w.heap.size + 1 + 1 by omega)) _).alloc _
        case measure => simp [intOf]; omega
    · obtain rfl : k = n := by omega
      have k0 := hB0.cell 0
      have k1 := hB0.cell 1
      have k2 := hB0.cell 2
      have l0 := hB1.cell 0
      have l1 := hB1.cell 1
      have l2 := hB1.cell 2
      simp at k0 k1 k2 l0 l1 l2
      have lf := hB1.free
      have HOW := Lib.hid hown
      have HB0 := Lib.hid hB0
      have HB1 := Lib.hid hB1
      clear hB0 hB1 hown
      go_wp2_with fail
      refine bodyPost_ret (v := .tuple #[.agg #[.int .i64 r, .int .i64 c, .int .i64 (tkn r c t l k)], .slice (some ⟨w.heap.size + 1 + 1, 0, none⟩) k k]) (by simp [results, Try.results67, go_sem, l0, l1, l2]) rfl ⟨_, _, rfl, ?_, ?_⟩
      · have h := HOW.out
        rw [blendB_all (by simp [HM.out]) (by rw [HM.out]; exact Nat.le_refl _)] at h
        exact ((((h.far (by simp) _).far (by simp) _).far (by simp) _).lo_le (by omega)).here
      · exact bs (bs (bs hbw (Nat.le_add_right _ _) _) (Nat.le_add_right _ _) _) (Nat.le_add_right _ _) _
end Go.Proofs.Ytleknfigikpacaa
