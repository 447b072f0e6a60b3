/- A call that only reads may be taken first in a region that draws its order. No program in sight, no condition. -/
import Derived.Test.YtmkmcobomlchfaaDoorGrow
import Derived.Deep.RegionHeld3
namespace Go.Proofs.YtmkmcobomlchfaaDoor
open Go.ChangeShapes Go.WideShapes Go.ChangeAt Go.RowKit
set_option linter.unusedVariables false
section
variable {P : Program} {md : Region.Mode} {ops : Array Oper} {Q : Exit → Act → World → Prop} {S : World → Prop}
/-- What an act says of an operation's own work: it is asked for, and gives v in every world of S, which it leaves as it was. -/
def Reads (P : Program) (ops : Array Oper) (S : World → Prop) (o : Oper) (v : Value) (a : Act) : Prop :=
  Region.wanted o (yielded ops a.tmps) = true ∧ ∀ w, S w → o.quietAt P a (fun u => u = w) w v
theorem Reads.now {i : Nat} {o : Oper} {v : Value} {a : Act} {w : World} {K : Act → World → Prop} (hi : ops[i]? = some o) (h : Reads P ops S o v a) (hS : S w) (hK : K (a.put o.dst v) w) : wpOp P ops Q i K a w := by
  unfold wpOp
  simp only [hi, h.1, if_true]
  exact .inl (Oper.wp_of_quiet (C := fun u => u = w) (K := fun b => b = a.put o.dst v) rfl (fun b u hu hb => by rw [hu, hb]; exact hK) ⟨v, fun u hu => by rw [hu]; exact h.2 w hS, rfl⟩)
theorem Reads.like {o : Oper} {v : Value} {a b : Act} (h : Reads P ops S o v a) (he : execOp b.eval o = execOp a.eval o) (hw : Region.wanted o (yielded ops b.tmps) = Region.wanted o (yielded ops a.tmps)) : Reads P ops S o v b := by
  unfold Reads Oper.quietAt at *
  rw [he, hw]
  exact h
/-- What the operation's own slots do not tell stays true behind it. -/
theorem wpOp_keep {j : Nat} {o : Oper} {Y : Act → Prop} {K : Act → World → Prop} {a : Act} {w : World} (hj : ops[j]? = some o) (h1 : ∀ b u, Y b → Y (b.put o.dst u)) (h2 : ∀ (b : Act) d, Y b → Y { b with defers := d :: b.defers }) (hY : Y a)
    (h : wpOp P ops Q j K a w) : wpOp P ops Q j (fun b u => Y b ∧ K b u) a w := by
  unfold wpOp at *
  simp only [hj] at *
  split
  · rename_i hw
    rw [if_pos hw] at h
    refine h.imp (fun h => ?_) id
    unfold Oper.wp at *
    generalize (execOp a.eval o).run P w = r at *
    rcases r with ⟨n, u⟩ | ⟨x, u⟩
    · cases n <;> simp only [Oper.upon] at h ⊢
      case value v => exact ⟨h1 _ _ hY, h⟩
      case skip => exact ⟨h1 _ _ hY, h⟩
      case defer => exact ⟨h1 _ _ (h2 _ _ hY), h⟩
      case enter f args =>
        refine Calls.mono h fun e u' he => ?_
        cases e with
        | returned v => exact ⟨h1 _ _ hY, he⟩
        | panicked c => exact he
        | outgrown => exact he
      case row r args => exact Rows.mono h fun v u' he => ⟨h1 _ _ hY, he⟩
    · cases x <;> simp only [Oper.upon] at h ⊢
      all_goals exact h
  · rename_i hw
    rw [if_neg hw] at h
    exact ⟨h1 _ _ hY, h⟩
theorem take_read {i : Nat} {oi : Oper} {v : Value} (hi : ops[i]? = some oi) (hs : Region.noSelect ops = true) (hQ : ∀ c a w, Q (.panic c) (a.put oi.dst v) w → Q (.panic c) a w) :
    ∀ (fuel : Nat) (listed : Array Bool) (a : Act) (w : World),
      (∀ j oj, ops[j]? = some oj → j ≠ i → listed.getD j true = false → (∀ e ∈ oj.after, Region.binds md e = true → e.on ≠ i) → oi.apart ops oj = true) →
      i ∈ Region.ready md ops listed → Reads P ops S oi v a → S w →
      wpAnyH P md ops Q S fuel (listed.setIfInBounds i true) (a.put oi.dst v) w → wpAnyH P md ops Q S (fuel + 1) listed a w := by
  intro fuel
  induction fuel with
  | zero =>
    intro listed a w _ hr hy hS H
    refine ⟨fun h => (by rw [h] at hr; cases hr), fun j hj => ?_⟩
    rcases Decidable.em (j = i) with rfl | hne
    · exact hy.now hi hS ⟨hS, H⟩
    · have hm := ready_mono hj hne
      rw [H.1] at hm
      cases hm
  | succ fuel ih =>
    intro listed a w hfr hr hy hS H
    refine ⟨fun h => (by rw [h] at hr; cases hr), fun j hj => ?_⟩
    rcases Decidable.em (j = i) with rfl | hne
    · exact hy.now hi hS ⟨hS, H⟩
    obtain ⟨hun, oj, hoj, haf⟩ := mem_ready.1 hj
    have hno : ∀ e ∈ oj.after, Region.binds md e = true → e.on ≠ i := fun e he hb e1 => by
      have a1 := haf e he hb
      have a0 := (mem_ready.1 hr).1
      rw [e1] at a1
      by_cases hb : i < listed.size
      · simp [hb] at a0 a1
        rw [a0] at a1
        cases a1
      · simp [Array.getElem?_eq_none (Nat.le_of_not_lt hb)] at a1
    have hap := hfr j oj hoj hne hun hno
    have hap3 := (Oper.apart_spec hap).2.2
    have si := Region.noSelect_spec hs i oi
    have sj := Region.noSelect_spec hs j oj
    have g0 : wpOp P ops Q j (fun b u => S u ∧ wpAnyH P md ops Q S fuel ((listed.setIfInBounds i true).setIfInBounds j true) b u) (a.put oi.dst v) w := H.2 j (ready_mono hj hne)
    have hyf : YieldsIf P ops (fun _ => False) oi v a := .inl ⟨hy.1, fun _ h => h.elim⟩
    have g1 := wpOp_putIf hoj hap (fun cs b => si cs b hi) (fun cs b => sj cs b hoj) hQ hyf g0
    have g2 := wpOp_keep (Y := fun b => Reads P ops S oi v b) hoj (fun b u hb => hb.like (execOp_put oi (fun cs c => si cs c hi) b oj.dst u hap3) (wanted_put oi b oj.dst u hap3)) (fun b d hb => hb.like rfl rfl) hy g1
    refine wpOp_mono (fun b u h3 => ?_) g2
    obtain ⟨y, _, su, hu⟩ := h3
    refine ⟨su, ih (listed.setIfInBounds j true) b u (fun k ok hk hki hku hkn => ?_) (ready_mono hr (Ne.symm hne)) y su (by rw [Array.setIfInBounds_comm _ _ hne]; exact hu)⟩
    refine hfr k ok hk hki ?_ hkn
    rcases Decidable.em (j = k) with rfl | hjk
    · exact hun
    · rw [getD_set_ne true hjk] at hku
      exact hku
/-- Take the call number i first. -/
theorem wpAnyH_read {i : Nat} {oi : Oper} {v : Value} {fuel : Nat} {listed : Array Bool} {a : Act} {w : World} (hi : ops[i]? = some oi)
    (hs : Region.noSelect ops = true) (hf : Region.free md ops listed i = true) (hr : (Region.ready md ops listed).contains i = true)
    (hQ : ∀ c a w, Q (.panic c) (a.put oi.dst v) w → Q (.panic c) a w) (hy : Reads P ops S oi v a) (hS : S w)
    (h : wpAnyH P md ops Q S fuel (listed.setIfInBounds i true) (a.put oi.dst v) w) : wpAnyH P md ops Q S (fuel + 1) listed a w :=
  take_read hi hs hQ fuel listed a w (Region.free_spec hi hf) (by simpa using hr) hy hS h
end
end Go.Proofs.YtmkmcobomlchfaaDoor
