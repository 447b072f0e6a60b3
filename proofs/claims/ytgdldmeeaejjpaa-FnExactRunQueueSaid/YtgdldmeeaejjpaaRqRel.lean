/- What a run of a queue holds in memory. No program in sight, no condition. -/
import Derived.Test.YtgdldmeeaejjpaaRqLaw
import Derived.Test.YtgdldmeeaejjpaaTakeAll
import Derived.Test.YtgdldmeeaejjpaaPdLaw
import Derived.Test.YtgdldmeeaejjpaaDbox
import Derived.Test.YtgdldmeeaejjpaaConcat
namespace Go.Proofs.Ytgdldmeeaejjpaa
open Go.ChangeShapes Go.WideShapes Go.ChangeAt Go.RowKit
set_option linter.unusedVariables false
/-- A row's block lies outside a range. -/
def OutB (A : Option Addr) (l : List Int) (lo hi : Nat) : Prop := 0 < l.length → ∀ g off, A = some ⟨g, off, none⟩ → g < lo ∨ hi ≤ g
theorem OutB.old {w : World} {A : Option Addr} {l : List Int} {lo hi : Nat} (h : IRow w A l) (hl : w.heap.size ≤ lo) : OutB A l lo hi := fun hp g off e => by
  obtain ⟨g', off', rfl, hg, _⟩ := h.at_ hp
  injection e with e
  injection e with e1 e2
  subst e1
  exact .inl (by omega)
theorem IRow.chg {w w' : World} {A : Option Addr} {l : List Int} {lo hi : Nat} (h : IRow w A l) (hc : Chg lo hi w w') (ho : OutB A l lo hi) : IRow w' A l := fun hp => by
  obtain ⟨g, off, rfl, hg, hcs⟩ := h.at_ hp
  exact ⟨g, off, rfl, fun i hi => (chkeep hc g _ hg (ho hp g off rfl)).trans (hcs i hi)⟩
theorem IOwn.outB {w : World} {lo hi e s : Nat} {A : Option Addr} {n cap : Nat} {l : List Int} (h : IOwn w lo hi e s A n cap l) {a b : Nat} (hd : hi ≤ a ∨ b ≤ lo) : OutB A l a b := fun hp g off e' => by
  have hl := h.len
  obtain ⟨g', e1, h1, h2, _⟩ := h.at_ (k := 0) (by omega)
  rw [e'] at e1
  injection e1 with e1
  injection e1 with e1 e2
  omega
/-- The reference's run: the queue's row is read, the two rows of ids are owned, each in its own range; the call's boxes lie in [b0, s0). -/
structure RqS (b0 s0 : Nat) (w : World) (L : List Pk) (T D : List Int) (A : Option Addr) (cap : Nat) (TA : Option Addr) (tn tc : Nat) (DA : Option Addr) (dn dc : Nat) (tl th dl dh : Nat) : Prop where
  l : IRow w A (fl L)
  la : OutB A (fl L) tl th
  lb : OutB A (fl L) dl dh
  lq : OutB A (fl L) b0 s0
  l0 : A = none → cap = 0
  lc : L.length ≤ cap
  t : IOwn w tl th 3 1 TA tn tc T
  d : IOwn w dl dh 3 1 DA dn dc D
  r : s0 ≤ tl ∧ tl ≤ w.heap.size ∧ th ≤ w.heap.size ∧ s0 ≤ dl ∧ dl ≤ w.heap.size ∧ dh ≤ w.heap.size
  s : th ≤ dl ∨ dh ≤ tl
section
variable {b0 s0 : Nat} {w w' : World} {L : List Pk} {T D : List Int} {A : Option Addr} {cap : Nat} {TA : Option Addr} {tn tc : Nat} {DA : Option Addr} {dn dc tl th dl dh : Nat}
theorem RqS.old (h : RqS b0 s0 w L T D A cap TA tn tc DA dn dc tl th dl dh) (hb : Below w.heap.size w w') : RqS b0 s0 w' L T D A cap TA tn tc DA dn dc tl th dl dh :=
  ⟨h.l.below hb, h.la, h.lb, h.lq, h.l0, h.lc, h.t.old hb, h.d.old hb, by have := hb.size; have := h.r; omega, h.s⟩
theorem RqS.alloc (h : RqS b0 s0 w L T D A cap TA tn tc DA dn dc tl th dl dh) (o : Obj) : RqS b0 s0 (w.alloc o) L T D A cap TA tn tc DA dn dc tl th dl dh := h.old (ba (Go.Proofs.Ytgdldmeeaejjpaa.b0 w) o)
theorem RqS.drew (h : RqS b0 s0 w L T D A cap TA tn tc DA dn dc tl th dl dh) : RqS b0 s0 w.drew L T D A cap TA tn tc DA dn dc tl th dl dh := h.old (Go.Proofs.Ytgdldmeeaejjpaa.b0 w).drew
/-- One of the call's boxes is written. -/
theorem RqS.farC (h : RqS b0 s0 w L T D A cap TA tn tc DA dn dc tl th dl dh) {g o : Nat} {u : Value} (h1 : b0 ≤ g) (h2 : g < s0) : RqS b0 s0 (w.setCell ⟨g, o, none⟩ u) L T D A cap TA tn tc DA dn dc tl th dl dh := by
  have hr := h.r
  refine ⟨fun hp => ?_, h.la, h.lb, h.lq, h.l0, h.lc, h.t.farC (.inl (by omega)), h.d.farC (.inl (by omega)), by simp only [setCell_size]; exact hr, h.s⟩
  obtain ⟨g', off, rfl, hg, hc⟩ := h.l.at_ hp
  have hq := h.lq hp g' off rfl
  exact ⟨g', off, rfl, fun i hi => (World.cell?_of_block (a := ⟨g', off + i, none⟩) (Below.heap_setCell w ⟨g, o, none⟩ u g' (show g' ≠ g by omega))).trans (hc i hi)⟩
/-- Another id taken. -/
theorem RqS.addT (h : RqS b0 s0 w L T D A cap TA tn tc DA dn dc tl th dl dh) {TA' : Option Addr} {tc' tl' th' : Nat} {T' : List Int} (ho : IOwn w' tl' th' 3 1 TA' (tn + 1) tc' T') (hc : Chg tl th w w') (hr : tl' = tl ∧ th' = th ∨ tl' = w.heap.size ∧ th' = w'.heap.size) : RqS b0 s0 w' L T' D A cap TA' (tn + 1) tc' DA dn dc tl' th' dl dh := by
  have g := h.r
  have z := hc.size
  have gs := h.s
  refine ⟨h.l.chg hc h.la, ?_, h.lb, h.lq, h.l0, h.lc, ho, h.d.chg hc (by omega), by omega, by omega⟩
  rcases hr with ⟨rfl, rfl⟩ | ⟨rfl, rfl⟩
  · exact h.la
  · exact OutB.old h.l (Nat.le_refl _)
/-- Another id dropped. -/
theorem RqS.addD (h : RqS b0 s0 w L T D A cap TA tn tc DA dn dc tl th dl dh) {DA' : Option Addr} {dc' dl' dh' : Nat} {D' : List Int} (ho : IOwn w' dl' dh' 3 1 DA' (dn + 1) dc' D') (hc : Chg dl dh w w') (hr : dl' = dl ∧ dh' = dh ∨ dl' = w.heap.size ∧ dh' = w'.heap.size) : RqS b0 s0 w' L T D' A cap TA tn tc DA' (dn + 1) dc' tl th dl' dh' := by
  have g := h.r
  have z := hc.size
  have gs := h.s
  refine ⟨h.l.chg hc h.lb, h.la, ?_, h.lq, h.l0, h.lc, h.t.chg hc (by omega), ho, by omega, by omega⟩
  rcases hr with ⟨rfl, rfl⟩ | ⟨rfl, rfl⟩
  · exact h.lb
  · exact OutB.old h.l (Nat.le_refl _)
/-- Another queue's row, behind all. -/
theorem RqS.newL (h : RqS b0 s0 w L T D A cap TA tn tc DA dn dc tl th dl dh) (hb : Below w.heap.size w w') {L' : List Pk} {n' : Nat} {A' : Option Addr} {cap' lo hi : Nat} (ho : IOwn w' lo hi 35 6 A' n' cap' (fl L')) (hl : w.heap.size ≤ lo) : RqS b0 s0 w' L' T D A' cap' TA tn tc DA dn dc tl th dl dh := by
  have g := h.r
  have z := hb.size
  have hn : L'.length ≤ cap' := by have h1 := ho.len; have h2 := ho.cap; rw [fl_len] at h1; omega
  exact ⟨ho.row, ho.outB (.inr (by omega)), ho.outB (.inr (by omega)), ho.outB (.inr (by omega)), ho.none_cap, hn, h.t.old hb, h.d.old hb, by omega, h.s⟩
end
/-- The program's run: the queue's row is owned too; Bn is the block of the queue itself. -/
structure RqO (s0 Bn : Nat) (w : World) (L : List Pk) (T D : List Int) (A : Option Addr) (cap : Nat) (TA : Option Addr) (tn tc : Nat) (DA : Option Addr) (dn dc : Nat) (ll lh tl th dl dh : Nat) : Prop where
  l : IOwn w ll lh 35 6 A L.length cap (fl L)
  t : IOwn w tl th 3 1 TA tn tc T
  d : IOwn w dl dh 3 1 DA dn dc D
  r : s0 ≤ ll ∧ lh ≤ w.heap.size ∧ s0 ≤ tl ∧ tl ≤ w.heap.size ∧ th ≤ w.heap.size ∧ s0 ≤ dl ∧ dl ≤ w.heap.size ∧ dh ≤ w.heap.size ∧ Bn < w.heap.size
  s : (th ≤ dl ∨ dh ≤ tl) ∧ (th ≤ ll ∨ lh ≤ tl) ∧ (dh ≤ ll ∨ lh ≤ dl)
  b : (lh ≤ Bn ∨ Bn < ll) ∧ (th ≤ Bn ∨ Bn < tl) ∧ (dh ≤ Bn ∨ Bn < dl)
section
variable {s0 Bn : Nat} {w w' : World} {L : List Pk} {T D : List Int} {A : Option Addr} {cap : Nat} {TA : Option Addr} {tn tc : Nat} {DA : Option Addr} {dn dc ll lh tl th dl dh : Nat}
theorem RqO.old (h : RqO s0 Bn w L T D A cap TA tn tc DA dn dc ll lh tl th dl dh) (hb : Below w.heap.size w w') : RqO s0 Bn w' L T D A cap TA tn tc DA dn dc ll lh tl th dl dh :=
  ⟨h.l.old hb, h.t.old hb, h.d.old hb, by have := hb.size; have := h.r; omega, h.s, h.b⟩
theorem RqO.alloc (h : RqO s0 Bn w L T D A cap TA tn tc DA dn dc ll lh tl th dl dh) (o : Obj) : RqO s0 Bn (w.alloc o) L T D A cap TA tn tc DA dn dc ll lh tl th dl dh := h.old (ba (Go.Proofs.Ytgdldmeeaejjpaa.b0 w) o)
theorem RqO.drew (h : RqO s0 Bn w L T D A cap TA tn tc DA dn dc ll lh tl th dl dh) : RqO s0 Bn w.drew L T D A cap TA tn tc DA dn dc ll lh tl th dl dh := h.old (Go.Proofs.Ytgdldmeeaejjpaa.b0 w).drew
theorem RqO.farC (h : RqO s0 Bn w L T D A cap TA tn tc DA dn dc ll lh tl th dl dh) {o : Nat} {u : Value} : RqO s0 Bn (w.setCell ⟨Bn, o, none⟩ u) L T D A cap TA tn tc DA dn dc ll lh tl th dl dh := by
  have hr := h.r
  have hb := h.b
  exact ⟨h.l.farC (by omega), h.t.farC (by omega), h.d.farC (by omega), by simp only [setCell_size]; exact hr, h.s, h.b⟩
theorem RqO.addT (h : RqO s0 Bn w L T D A cap TA tn tc DA dn dc ll lh tl th dl dh) {TA' : Option Addr} {tc' tl' th' : Nat} {T' : List Int} (ho : IOwn w' tl' th' 3 1 TA' (tn + 1) tc' T') (hc : Chg tl th w w') (hr : tl' = tl ∧ th' = th ∨ tl' = w.heap.size ∧ th' = w'.heap.size) : RqO s0 Bn w' L T' D A cap TA' (tn + 1) tc' DA dn dc ll lh tl' th' dl dh := by
  have g := h.r
  have z := hc.size
  have gs := h.s
  have gb := h.b
  exact ⟨h.l.chg hc (by omega), ho, h.d.chg hc (by omega), by omega, by omega, by omega⟩
theorem RqO.addD (h : RqO s0 Bn w L T D A cap TA tn tc DA dn dc ll lh tl th dl dh) {DA' : Option Addr} {dc' dl' dh' : Nat} {D' : List Int} (ho : IOwn w' dl' dh' 3 1 DA' (dn + 1) dc' D') (hc : Chg dl dh w w') (hr : dl' = dl ∧ dh' = dh ∨ dl' = w.heap.size ∧ dh' = w'.heap.size) : RqO s0 Bn w' L T D' A cap TA tn tc DA' (dn + 1) dc' ll lh tl th dl' dh' := by
  have g := h.r
  have z := hc.size
  have gs := h.s
  have gb := h.b
  exact ⟨h.l.chg hc (by omega), h.t.chg hc (by omega), ho, by omega, by omega, by omega⟩
theorem RqO.newL (h : RqO s0 Bn w L T D A cap TA tn tc DA dn dc ll lh tl th dl dh) (hb : Below w.heap.size w w') {L' : List Pk} {A' : Option Addr} {n' cap' : Nat} (ho : IOwn w' w.heap.size w'.heap.size 35 6 A' n' cap' (fl L')) (hn : L'.length = n') : RqO s0 Bn w' L' T D A' cap' TA tn tc DA dn dc w.heap.size w'.heap.size tl th dl dh := by
  subst hn
  have g := h.r
  have z := hb.size
  have gs := h.s
  have gb := h.b
  exact ⟨ho, h.t.old hb, h.d.old hb, by omega, by omega, by omega⟩
end
/-- Two rows of packets laid side by side. -/
theorem nrow_two {w : World} {g : Nat} {A B : Option Addr} {n cap m capp : Nat} {L P : List Pk} (h : Bk w g 28 #[.slice A n cap, .slice B m capp]) (hl : L.length = n) (hr : IRow w A (fl L)) (hc : n ≤ cap) (hA : A = none → cap = 0) (hl2 : P.length = m) (hr2 : IRow w B (fl P)) (hc2 : m ≤ capp) (hB : B = none → capp = 0) : NRow w (some ⟨g, 0, none⟩) ([L, P].map fl) := fun _ => by
  refine ⟨g, 0, rfl, fun i l hi => ?_⟩
  rcases i with _ | _ | i
  · simp at hi
    subst hi
    exact ⟨⟨A, n, cap⟩, h.cell 0, by rw [fl_len, hl], hc, hA, hr⟩
  · simp at hi
    subst hi
    exact ⟨⟨B, m, capp⟩, h.cell 1, by rw [fl_len, hl2], hc2, hB, hr2⟩
  · simp at hi
/-- A queue and two rows of ids of the call's own, and a bool. -/
def NewRQ (w : World) (li by_ : Int) (n : Nat) (L : List Pk) (se dr : Int) (T D : List Int) (b : Bool) (e : Ending) (w' : World) : Prop :=
  ∃ A cap TA tn tc DA dn dc, ∃ a1 b1 a2 b2 a3 b3 : Nat, e = .returned (.tuple #[.agg #[.int .i64 li, .int .i64 by_, .slice A n cap, .int .i64 se, .int .i64 dr], .slice TA tn tc, .slice DA dn dc, .bool b]) ∧
    IOwn w' a1 b1 35 6 A n cap (fl L) ∧ IOwn w' a2 b2 3 1 TA tn tc T ∧ IOwn w' a3 b3 3 1 DA dn dc D ∧
    (w.heap.size ≤ a1 ∧ b1 ≤ w'.heap.size ∧ w.heap.size ≤ a2 ∧ b2 ≤ w'.heap.size ∧ w.heap.size ≤ a3 ∧ b3 ≤ w'.heap.size) ∧ ((b1 ≤ a2 ∨ b2 ≤ a1) ∧ (b1 ≤ a3 ∨ b3 ≤ a1) ∧ (b2 ≤ a3 ∨ b3 ≤ a2)) ∧ Below w.heap.size w w'
theorem NewRQ.none_ {w w' : World} {e : Ending} (he : e = .returned (.tuple #[.agg #[.int .i64 0, .int .i64 0, .slice none 0 0, .int .i64 0, .int .i64 0], .slice none 0 0, .slice none 0 0, .bool false])) (hb : Below w.heap.size w w') : NewRQ w 0 0 0 [] 0 0 [] [] false e w' :=
  ⟨none, 0, none, 0, 0, none, 0, 0, w.heap.size, w.heap.size, w.heap.size, w.heap.size, w.heap.size, w.heap.size, he, IOwn.none_ _ _ _ _ _, IOwn.none_ _ _ _ _ _, IOwn.none_ _ _ _ _ _, by have := hb.size; omega, by omega, hb⟩
/-- What both functions return. -/
def RqP (w : World) (li by_ : Int) (L : List Pk) (se dr : Int) (P : List Pk) (t : Int) : Ending → World → Prop :=
  NewRQ w (ifz (rqOk li by_ L se dr P t) li) (ifz (rqOk li by_ L se dr P t) by_) (ifL (rqOk li by_ L se dr P t) (rqE li by_ L se dr P t).L).length (ifL (rqOk li by_ L se dr P t) (rqE li by_ L se dr P t).L) (ifz (rqOk li by_ L se dr P t) (rqE li by_ L se dr P t).se) (ifz (rqOk li by_ L se dr P t) (rqE li by_ L se dr P t).dr) (ifl (rqOk li by_ L se dr P t) (rqE li by_ L se dr P t).T) (ifl (rqOk li by_ L se dr P t) (rqE li by_ L se dr P t).D) (rqOk li by_ L se dr P t)
theorem RqP_no {w : World} {li by_ : Int} {L : List Pk} {se dr : Int} {P : List Pk} {t : Int} (h : rqOk li by_ L se dr P t = false) : RqP w li by_ L se dr P t = NewRQ w 0 0 0 [] 0 0 [] [] false := by simp [RqP, h, ifz, ifL, ifl]
theorem RqP_yes {w : World} {li by_ : Int} {L : List Pk} {se dr : Int} {P : List Pk} {t : Int} (h : rqOk li by_ L se dr P t = true) : RqP w li by_ L se dr P t = NewRQ w li by_ (rqE li by_ L se dr P t).L.length (rqE li by_ L se dr P t).L (rqE li by_ L se dr P t).se (rqE li by_ L se dr P t).dr (rqE li by_ L se dr P t).T (rqE li by_ L se dr P t).D true := by simp [RqP, h, ifz, ifL, ifl]
end Go.Proofs.Ytgdldmeeaejjpaa
