/- The contracts of the ways up, on both sides. -/
import Derived.Test.YtjajddhedahpnaaDoorCfgD
import Derived.Test.YtjajddhedahpnaaDoorCfgWay
namespace Go.Proofs.YtjajddhedahpnaaDoor
open Go.ChangeShapes Go.WideShapes Go.ChangeAt Go.RowKit
set_option linter.unusedVariables false
def eqD (D : List Nat) (c k : Nat) : Bool := decide (c = D[k]?.getD 0)
theorem eqD_mem (D : List Nat) (c : Nat) : decide (0 ≤ fstI D.length (eqD D c)) = decide (c ∈ D) := by
  rw [decide_eq_decide]
  rcases fstI_cases D.length (eqD D c) with ⟨k, hk, h1, _, h⟩ | ⟨h1, h⟩
  · rw [h]
    have e : c = D[k] := by
      have := of_decide_eq_true h1
      rwa [List.getElem?_eq_getElem hk] at this
    exact ⟨fun _ => e ▸ List.getElem_mem hk, fun _ => by omega⟩
  · rw [h]
    refine ⟨fun h => by omega, fun hm => ?_⟩
    obtain ⟨k, hk, e⟩ := List.mem_iff_getElem.1 hm
    have h2 := of_decide_eq_false (h1 k hk)
    rw [List.getElem?_eq_getElem hk] at h2
    exact absurd e.symm h2
set_option maxHeartbeats 1000000 in
theorem indexInt_any (A : Option Addr) (n cap : Nat) (D : List Nat) (c : Nat) (w : World) (hl : D.length = n) (hr : IRow w A (nI D)) (hn : n ≤ 1048576) :
    Calls Tryd.prog 95 #[.slice A n cap, .int .i64 (c : Int)] w fun e w' => e = .returned (.int .i64 (fstI n (eqD D c))) ∧ w = w' := by
  have HL := Lib.hid hl
  have HR := Lib.hid hr
  clear hl hr
  go_enter Tryd.func95, Tryd.ntmps95
  go_wp2_with fail
  go_loopw [8] (fun z wr => ∃ k : Nat, k ≤ n ∧ z = .int .i64 k ∧ (∀ j, j < k → eqD D c j = false) ∧ w = wr) (fun z _ => n - (intOf z).toNat)
  case atStart => exact ⟨0, Nat.zero_le _, rfl, none_zero, rfl⟩
  case round =>
    obtain ⟨k, hk, rfl, hall, rfl⟩ := hrel
    have HA := Lib.hid hall
    clear hall
    by_cases hlt : k < n
    · obtain ⟨g, off, rfl, hg, hcs⟩ := HR.out.at_ (k := k) (by rw [nI_len, HL.out]; exact hlt)
      have hck := hcs k (by rw [nI_len, HL.out]; exact hlt)
      rw [nI_get (by rw [HL.out]; exact hlt)] at hck
      clear hcs
      by_cases hh : c = D[k]?.getD 0
      · have hR := Lib.hid (show fstI n (eqD D c) = k from fstI_hit hlt HA.out (decide_eq_true hh))
        have hhi : (c : Int) = ((D[k]?.getD 0 : Nat) : Int) := by omega
        clear hh
        generalize D[k]?.getD 0 = d at *
        go_wp2_with fail
        go_ret
        exact ⟨by rw [hR.out]; rfl, rfl⟩
      · have hR := Lib.hid (none_succ HA.out (show eqD D c k = false from decide_eq_false hh))
        have hhi : ¬ (c : Int) = ((D[k]?.getD 0 : Nat) : Int) := by omega
        clear hh
        generalize D[k]?.getD 0 = d at *
        go_wp2_with fail
        go_roundw
        case rel => exact ⟨k + 1, by omega, by go_num, hR.out, trivial⟩
        case measure => simp [intOf]; omega
    · obtain rfl : k = n := by omega
      have hR := Lib.hid (show fstI k (eqD D c) = -1 from fstI_none HA.out)
      go_wp2_with fail
      go_ret
      exact ⟨by rw [hR.out]; rfl, rfl⟩
theorem contains_any (A : Option Addr) (n cap : Nat) (D : List Nat) (c : Nat) (w : World) (hl : D.length = n) (hr : IRow w A (nI D)) (hn : n ≤ 1048576) :
    Calls Tryd.prog 92 #[.slice A n cap, .int .i64 (c : Int)] w fun e w' => e = .returned (.bool (decide (c ∈ D))) ∧ w = w' := by
  have HC := Lib.hid (indexInt_any A n cap D c w hl hr hn)
  have HM := Lib.hid (show decide (0 ≤ fstI n (eqD D c)) = decide (c ∈ D) from by rw [← hl]; exact eqD_mem D c)
  clear hr hl
  generalize fstI n (eqD D c) = q at *
  go_enter Tryd.func92, Tryd.ntmps92
  go_wp2_with fail
  refine HC.out.mono ?_
  rintro e w1 ⟨rfl, rfl⟩
  go_wp2_with fail
  go_ret
  exact ⟨ret_b HM.out, rfl⟩
def vlen : Value → Nat
  | .slice _ l _ => l
  | _ => 0
/-- What a way under way holds: the classes so far, and the next one (q, or -1). -/
structure WayS (L : List Cl) (i : Nat) (D : List Nat) (q : Int) : Prop where
  way : Way L i D
  lt : ∀ x ∈ D, x < L.length
  lo : -1 ≤ q
  hi : q < L.length
  at_ : it L i D.length = if 0 ≤ q then some q.toNat else none
  ne : D.length = 0 → 0 ≤ q
theorem WayS.start {L : List Cl} {i : Nat} (hi : i < L.length) : WayS L i [] (i : Int) := ⟨Way.nil L i, by simp, by omega, by omega, by simp [it], fun _ => by omega⟩
theorem WayS.next {L : List Cl} {i c : Nat} {D : List Nat} (h : WayS L i D (c : Int)) : WayS L i (D ++ [c]) (fnd L (cat L c).pa) := by
  have hc : it L i D.length = some c := by rw [h.at_, if_pos (by omega), Int.toNat_natCast]
  have hb := fnd_b L (cat L c).pa
  have hlt := h.hi
  refine ⟨h.way.snoc hc, fun x hx => ?_, hb.1, hb.2, ?_, fun h0 => by simp at h0⟩
  · rcases List.mem_append.1 hx with hx | hx
    · exact h.lt x hx
    · simp at hx; omega
  · rw [List.length_append, List.length_singleton, it, hc]
    exact nx_of rfl
theorem WayS.none_ {L : List Cl} {i : Nat} {D : List Nat} {q : Int} (h : WayS L i D q) (h0 : ¬ 0 ≤ q) : 1 ≤ D.length ∧ (upk L 8 i = true ↔ D.length ≤ 8 ∧ (cat L (lastD D)).pa = 0) := by
  have h1 : 1 ≤ D.length := by
    rcases Nat.eq_zero_or_pos D.length with e | e
    · exact absurd (h.ne e) h0
    · exact e
  exact ⟨h1, h.way.ended h1 (by rw [h.at_, if_neg h0])⟩
theorem nI_snoc (D : List Nat) (c : Nat) : nI (D ++ [c]) = nI D ++ [(c : Int)] := by simp [nI]
theorem lastD_lt {L : List Cl} {D : List Nat} (h : ∀ x ∈ D, x < L.length) (h1 : 1 ≤ D.length) : lastD D < L.length := by
  unfold lastD
  rw [List.getElem?_eq_getElem (by omega)]
  exact h _ (List.getElem_mem (by omega))
def UpE (w : World) (L : List Cl) (i : Nat) (e : Ending) (w' : World) : Prop := ∃ (D : List Nat) (C : Option Addr) (c : Nat), e = .returned (.slice C D.length c) ∧ IRow w' C (nI D) ∧ 1 ≤ D.length ∧ D.length ≤ 9 ∧ (∀ x ∈ D, x < L.length) ∧ (upk L 8 i = true ↔ D.length ≤ 8 ∧ (cat L (lastD D)).pa = 0) ∧ Below w.heap.size w w'
set_option maxHeartbeats 2000000 in
theorem cfUp_any (i : Nat) (nm : ByteArray) (A : Option Addr) (n cap : Nat) (B : Option Addr) (m capb : Nat) (df : Int) (L : List Cl) (w : World) (hl : L.length = n) (hr : IRow w A (flc L)) (hn : n ≤ 1000) (hi : i < n) : Calls Tryd.prog 61 #[.agg #[.string nm, .slice A n cap, .slice B m capb, .int .i64 df], .int .i64 (i : Int)] w (UpE w L i) := by
  have HL := Lib.hid hl
  have HR := Lib.hid hr
  have HI := Lib.hid hi
  clear hl hr hi
  go_enter Tryd.func61, Tryd.ntmps61
  go_wp2_with fail
  go_loopw [1, 5] (fun z v wr => ∃ (D : List Nat) (q : Int) (C : Option Addr) (c : Nat), D.length ≤ 9 ∧ z = .int .i64 q ∧ v = .slice C D.length c ∧ WayS L i D q ∧ IOwn wr (w.heap.size + 1) wr.heap.size 3 1 C D.length c (nI D) ∧ Bk wr w.heap.size 34 #[.string nm, .slice A n cap, .slice B m capb, .int .i64 df] ∧ Below w.heap.size w wr) (fun _ v _ => 10 - vlen v)
  case atStart => exact ⟨[], (i : Int), none, 0, by simp, rfl, rfl, WayS.start (by rw [HL.out]; exact HI.out), IOwn.none_ _ _ _ _ _, Bk.new _ _ _, ba (b0 _) _⟩
  case round =>
    obtain ⟨D, q, C, c, hD, rfl, rfl, hs, ho, hbx, hbw⟩ := hrel
    have HO := Lib.hid ho
    have HX := Lib.hid hbx
    have HW := Lib.hid hbw
    have HS := Lib.hid hs
    have zx := hbx.lt
    clear ho hbx hbw hs
    by_cases hlt : 0 ≤ q ∧ D.length ≤ 8
    · obtain ⟨k, rfl⟩ : ∃ k : Nat, q = (k : Int) := ⟨q.toNat, by omega⟩
      have hkn : k < L.length := by have := HS.out.hi; omega
      have g0 : (0 : Int) ≤ (k : Int) := by omega
      have g1 : ((D.length : Nat) : Int) ≤ 8 := by omega
      have g2 : (k : Int) < (n : Int) := by have := HL.out; omega
      have HN := Lib.hid HS.out.next
      have HNI := Lib.hid (nI_snoc D k)
      have HLN := Lib.hid (show (D ++ [k]).length = D.length + 1 by simp)
      go_wp2_with (at_builtin; refine append_int rfl _ _ rfl (lo := w.heap.size + 1) (hh := wr.heap.size) (l := nI D) rfl (HO.out.alloc _) _ (k : Int) rfl ((Bk.new_ (by simp)).cell 0) (by omega) (by simp; omega) ?_; intro C' c' w5 ho5 hb5)
      rw [← HNI.out] at ho5
      have HO5 := Lib.hid ho5
      have HX5 := Lib.hid ((HX.out.alloc _).below hb5 (by omega))
      have HB5 := Lib.hid ((ba HW.out _).trans (hb5.mono (by omega)))
      clear ho5 hb5
      obtain ⟨g, off, rfl, hg, hcs⟩ := crow (HR.out.below HB5.out) hkn
      obtain ⟨c0, c1, c2, c3, c4, c5, c6, c7⟩ := hcs k hkn
      have p0 := fun (u : Gr w5) => gr_cell (HX5.out.cell 0) u
      have p1 := fun (u : Gr w5) => gr_cell (HX5.out.cell 1) u
      have p2 := fun (u : Gr w5) => gr_cell (HX5.out.cell 2) u
      have p3 := fun (u : Gr w5) => gr_cell (HX5.out.cell 3) u
      have pp := fun (u : Gr w5) => gr_cell c1 u
      have HF := Lib.hid (fun (u : Gr w5) => cfFind_any (cat L k).pa nm (some ⟨g, off, none⟩) n cap B m capb df L u.v HL.out (HR.out.below (bt HB5.out u.h)) hn)
      clear hcs c0 c1 c2 c3 c4 c5 c6 c7
      generalize fnd L (cat L k).pa = q1 at *
      generalize (cat L k).pa = x at *
      go_wp2_with fail
      refine wp_region_gr (by kernel_rfl) (by kernel_rfl) ?_
      repeat (go_big_quiet_step ((go_at_call 48; (with_reducible exact gr_of (HF.out _)))))
      refine wpQuiet_nil ?_
      intro _ hw'
      obtain ⟨pq, hw''⟩ := hw'
      subst hw''
      go_wp2_with fail
      go_roundw
      case rel => exact ⟨D ++ [k], q1, C', c', by rw [HLN.out]; omega, rfl, by rw [HLN.out], HN.out, by rw [HLN.out]; exact IOwn.here (HO5.out.old pq.h), HX5.out.old pq.h, bt HB5.out pq.h⟩
      case measure => simp [vlen]; omega
    · have HE := Lib.hid (show 1 ≤ D.length ∧ (upk L 8 i = true ↔ D.length ≤ 8 ∧ (cat L (lastD D)).pa = 0) from by
        by_cases h0 : 0 ≤ q
        · have h9 : 9 ≤ D.length := by omega
          refine ⟨by omega, ?_⟩
          rw [HS.out.way.long h9]
          exact ⟨fun h => (by cases h), fun h => (by omega)⟩
        · exact HS.out.none_ h0)
      have fin : ∃ b1 b2 : Bool, decide (0 ≤ q) = b1 ∧ decide (((D.length : Nat) : Int) ≤ 8) = b2 ∧ (b1 && b2) = false := ⟨_, _, rfl, rfl, by
        rw [Bool.and_eq_false_iff, decide_eq_false_iff_not, decide_eq_false_iff_not]
        omega⟩
      by_cases h0 : 0 ≤ q
      · have h8 : ¬ ((D.length : Nat) : Int) ≤ 8 := by omega
        clear fin
        go_wp2_with fail
        go_ret
        exact ⟨D, C, c, rfl, HO.out.row, HE.out.1, hD, HS.out.lt, HE.out.2, HW.out⟩
      · clear fin
        go_wp2_with fail
        go_ret
        exact ⟨D, C, c, rfl, HO.out.row, HE.out.1, hD, HS.out.lt, HE.out.2, HW.out⟩
def RwE (w : World) (L : List Cl) (i : Nat) (e : Ending) (w' : World) : Prop := ∃ (D : List Nat) (C : Option Addr) (c : Nat) (b : Bool), e = .returned (.tuple #[.slice C D.length c, .bool b]) ∧ IRow w' C (nI D) ∧ 1 ≤ D.length ∧ D.length ≤ L.length ∧ (∀ x ∈ D, x < L.length) ∧ (upk L 8 i = true ↔ b = true ∧ D.length ≤ 8 ∧ (cat L (lastD D)).pa = 0) ∧ Below w.heap.size w w'
set_option maxHeartbeats 2000000 in
theorem rawWay_any (i : Nat) (nm : ByteArray) (A : Option Addr) (n cap : Nat) (B : Option Addr) (m capb : Nat) (df : Int) (L : List Cl) (w : World) (hl : L.length = n) (hr : IRow w A (flc L)) (hn : n ≤ 1000) (hi : i < n) : Calls Tryd.prog 87 #[.agg #[.string nm, .slice A n cap, .slice B m capb, .int .i64 df], .int .i64 (i : Int)] w (RwE w L i) := by
  have HL := Lib.hid hl
  have HR := Lib.hid hr
  have HI := Lib.hid hi
  clear hl hr hi
  go_enter Tryd.func87, Tryd.ntmps87
  go_wp2_with fail
  go_loopw [1, 6] (fun z v wr => ∃ (D : List Nat) (q : Int) (C : Option Addr) (c : Nat), D.Nodup ∧ z = .int .i64 q ∧ v = .slice C D.length c ∧ WayS L i D q ∧ IOwn wr (w.heap.size + 1) wr.heap.size 3 1 C D.length c (nI D) ∧ Bk wr w.heap.size 34 #[.string nm, .slice A n cap, .slice B m capb, .int .i64 df] ∧ Below w.heap.size w wr) (fun _ v _ => n + 1 - vlen v)
  case atStart => exact ⟨[], (i : Int), _, 0, List.nodup_nil, rfl, rfl, WayS.start (by rw [HL.out]; exact HI.out), (by have h := IOwn.lit0 (w.alloc (.cells #[.string nm, .slice A n cap, .slice B m capb, .int .i64 df] 34)) (w.heap.size + 1) 3 1 (by simp); simp only [World.size_alloc] at h; exact IOwn.here h), (Bk.new _ _ _).alloc _, ba (ba (b0 _) _) _⟩
  case round =>
    obtain ⟨D, q, C, c, hD, rfl, rfl, hs, ho, hbx, hbw⟩ := hrel
    have HO := Lib.hid ho
    have HX := Lib.hid hbx
    have HW := Lib.hid hbw
    have HS := Lib.hid hs
    have zx := hbx.lt
    have HDN := Lib.hid (show D.length ≤ n from by have := nodup_le _ _ hD hs.lt; have := HL.out; omega)
    clear ho hbx hbw hs
    by_cases h0 : 0 ≤ q
    · obtain ⟨k, rfl⟩ : ∃ k : Nat, q = (k : Int) := ⟨q.toNat, by omega⟩
      have hkn : k < L.length := by have := HS.out.hi; omega
      have g2 : (k : Int) < (n : Int) := by have := HL.out; omega
      have HCT := Lib.hid (contains_any C D.length c D k wr rfl HO.out.row (by have := HDN.out; omega))
      by_cases hm : k ∈ D
      · have HCY := Lib.hid (HS.out.way.cycle (c := k) (by rw [HS.out.at_, if_pos (by omega), Int.toNat_natCast]) hm)
        have HLE := Lib.hid (show 1 ≤ D.length from List.length_pos_of_mem hm)
        rw [decide_eq_true hm] at HCT
        have HLN := Lib.hid (show D.length ≤ L.length from by have := HDN.out; have := HL.out; omega)
        clear hm hD
        go_wp2_with fail
        refine HCT.out.mono ?_
        rintro e w1 ⟨rfl, rfl⟩
        go_wp2_with fail
        go_ret2
        exact ⟨D, C, c, false, rfl, HO.out.row, HLE.out, HLN.out, HS.out.lt, ⟨fun h => (by rw [HCY.out] at h; cases h), fun h => (by cases h.1)⟩, HW.out⟩
      · rw [decide_eq_false hm] at HCT
        have HN := Lib.hid HS.out.next
        have HNI := Lib.hid (nI_snoc D k)
        have HLN := Lib.hid (show (D ++ [k]).length = D.length + 1 by simp)
        have HND := Lib.hid (show (D ++ [k]).Nodup from List.nodup_append.2 ⟨hD, by simp, fun a ha b hb => by simp at hb; subst hb; exact fun e => hm (e ▸ ha)⟩)
        have HNL := Lib.hid (show D.length + 1 ≤ n from by have h := nodup_le _ _ HND.out HN.out.lt; rw [HLN.out, HL.out] at h; exact h)
        clear hm hD
        go_wp2_with fail
        refine HCT.out.mono ?_
        rintro e w1 ⟨rfl, rfl⟩
        go_wp2_with (at_builtin; refine append_int rfl _ _ rfl (lo := w.heap.size + 1) (hh := wr.heap.size) (l := nI D) rfl (HO.out.alloc _) _ (k : Int) rfl ((Bk.new_ (by simp)).cell 0) (by have := HDN.out; omega) (by simp; omega) ?_; intro C' c' w5 ho5 hb5)
        rw [← HNI.out] at ho5
        have HO5 := Lib.hid ho5
        have HX5 := Lib.hid ((HX.out.alloc _).below hb5 (by omega))
        have HB5 := Lib.hid ((ba HW.out _).trans (hb5.mono (by omega)))
        clear ho5 hb5
        obtain ⟨g, off, rfl, hg, hcs⟩ := crow (HR.out.below HB5.out) hkn
        obtain ⟨c0, c1, c2, c3, c4, c5, c6, c7⟩ := hcs k hkn
        have p0 := fun (u : Gr w5) => gr_cell (HX5.out.cell 0) u
        have p1 := fun (u : Gr w5) => gr_cell (HX5.out.cell 1) u
        have p2 := fun (u : Gr w5) => gr_cell (HX5.out.cell 2) u
        have p3 := fun (u : Gr w5) => gr_cell (HX5.out.cell 3) u
        have pp := fun (u : Gr w5) => gr_cell c1 u
        have HF := Lib.hid (fun (u : Gr w5) => indexOf_any (cat L k).pa nm (some ⟨g, off, none⟩) n cap B m capb df L u.v HL.out (HR.out.below (bt HB5.out u.h)) hn)
        clear hcs c0 c1 c2 c3 c4 c5 c6 c7
        generalize fnd L (cat L k).pa = q1 at *
        generalize (cat L k).pa = x at *
        go_wp2_with fail
        refine wp_region_gr (by kernel_rfl) (by kernel_rfl) ?_
        repeat (go_big_quiet_step ((go_at_call 34; (with_reducible exact gr_of (HF.out _)))))
        refine wpQuiet_nil ?_
        intro _ hw'
        obtain ⟨pq, hw''⟩ := hw'
        subst hw''
        go_wp2_with fail
        go_roundw
        case rel => exact ⟨D ++ [k], q1, C', c', HND.out, rfl, by rw [HLN.out], HN.out, by rw [HLN.out]; exact IOwn.here (HO5.out.old pq.h), HX5.out.old pq.h, bt HB5.out pq.h⟩
        case measure => have := HNL.out; simp [vlen]; omega
    · have HE := Lib.hid (HS.out.none_ h0)
      have HLN := Lib.hid (show D.length ≤ L.length from by have := HDN.out; have := HL.out; omega)
      clear hD
      go_wp2_with fail
      go_ret2
      exact ⟨D, C, c, true, rfl, HO.out.row, HE.out.1, HLN.out, HS.out.lt, ⟨fun h => ⟨rfl, HE.out.2.1 h⟩, fun h => HE.out.2.2 h.2⟩, HW.out⟩
end Go.Proofs.YtjajddhedahpnaaDoor
