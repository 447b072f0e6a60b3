/- The statement FnExactPacketTextCardSaid: for every packet the law FnExactPacketText returns true, and its argument reads as before; the listed tables of the library are tied to the program's text. -/
import Derived.Test.YtmkmcobomlchfaaDoorPtLaw
import Derived.Test.YtmkmcobomlchfaaDoorChecked
import Derived.Test.YtmkmcobomlchfaaDoorCards
import Derived.Test.YtmkmcobomlchfaaDoorTie
import Derived.SevenTiedAt
import Derived.LaidMore
namespace Go.Proofs.YtmkmcobomlchfaaDoor.lawPacketText
open Go.ChangeShapes Go.WideShapes Go.ChangeAt Go.RowKit
set_option linter.unusedVariables false
set_option maxRecDepth 100000
def laidL : List (String × DataW Unit) := Rows.fnExactPacketTextRow.laid
theorem walk (p0 : Int) (_ : IB p0) (p1 : Int) (_ : IB p1) (p2 : Int) (_ : IB p2) (p3 : Int) (_ : IB p3) (p4 : Int) (_ : IB p4) (p5 : Int) (_ : IB p5) (w : World) (htab : Lib.TabIs Tryd.prog w "internal/strconv.uint64pow10" .u64 Lib.pow10Tab) :
    Calls Tryd.prog 3 #[.agg #[.int .i64 p0, .int .i64 p1, .int .i64 p2, .int .i64 p3, .int .i64 p4, .int .i64 p5]] w fun e w' => e = .returned (.bool true) ∧ Below w.heap.size w w' :=
  lawPt_walk w p0 p1 p2 p3 p4 p5 (Lib.tabBelow_of_tabIs htab)
theorem door_met (os : Os) (args : Array Value) : laidMetH Tryd.prog laidL ((World.doorLaid Tryd.prog 400 os).forCall (fun _ _ => 0) ⟨#[], args, []⟩).memory :=
  laidMet_of_run' 8 (by kernel_rfl) (by kernel_rfl)
theorem tab {W : World} (h : laidMetH Tryd.prog laidL W) : Lib.TabIs Tryd.prog W "internal/strconv.uint64pow10" .u64 Lib.pow10Tab := by
  have h' : laidMet Tryd.prog laidL W := h
  obtain ⟨ps, ⟨g0, t0, cs0, f0, a0, b0, hg0, ht0, hv0, hd0, ⟨g1, t1, cs1, f1, a1, b1, hg1, ht1, hv1, hd1, ⟨g2, t2, cs2, f2, a2, b2, hg2, ht2, hv2, hd2, _, _⟩, _⟩, _⟩, _, _⟩ := h'
  obtain rfl : t2 = 102 := by
    have e : Tryd.prog.globalNamed "internal/strconv.uint64pow10" = some 5 := by kernel_rfl
    have e2 : (Tryd.prog.globals[5]?).map (·.type) = some 102 := by kernel_rfl
    obtain rfl := Option.some.inj (e.symm.trans hg2)
    exact (Option.some.inj (e2.symm.trans ht2)).symm
  unfold Lib.TabIs
  rw [hv2, ← Lib.cells_of_tab (k := .u64) (zs := Lib.pow10Tab) (n := 20) Tryd.underlying102 Tryd.underlying71 (by kernel_rfl) (by kernel_rfl) hd2]
theorem own : ownKnob Tryd.prog.godebug = none := by kernel_rfl
theorem laidOut : laidOutB Tryd.prog = true := by kernel_rfl
set_option maxRecDepth 100000 in
theorem lifted (os : Os) (started : os.Started) (H : Type) (enc : TypeId × Value → H) :
    ReturnsInHanded {} Tryd.checked os 3 .any (fun w args => (Rows.fnExactPacketTextSpec.pre enc Tryd.prog Tryd.f3 [] false w args ∧ laidMetH Tryd.prog laidL w) ∧ sizedMet enc Tryd.prog Tryd.f3 (OpenSpec.ofChange Rows.fnExactPacketTextSpec) false w args) (Rows.fnExactPacketTextSpec.post enc Tryd.prog Tryd.f3 false true false false) := by
  refine returnsInHanded_of_change_and (C := Tryd.checked) (X := fun w _ => laidMetH Tryd.prog laidL w) (fun _ _ _ hh h => h.of_heap hh) own started (by kernel_rfl) Tryd.func3
    (ChangeSpec.witness_shaped (enc := enc) (C := Tryd.checked) (os := os) (X := fun w _ => laidMetH Tryd.prog laidL w) false (World.doorLaid Tryd.prog 400 os) #[.agg #[.int .i64 0, .int .i64 0, .int .i64 0, .int .i64 0, .int .i64 0, .int .i64 0]] 8 rfl (World.shaped_of_RefB (by kernel_rfl) (by kernel_rfl)) (by kernel_rfl) (by kernel_rfl) (by kernel_rfl) (door_met os _)) ?_
  intro W base args ds gs before hval0 hW _ _ hL _
  have hval : ∀ (j : Nat) t v, Tryd.f3.params[j]? = some t → args[j]? = some v → Value.okWide Tryd.prog W .any base t v := hval0
  have hW' := hW
  obtain ⟨p, q, hA0, hV, rfl, hfz, hnd⟩ := hW
  have hA : DataW.TrodAll enc Tryd.prog W 0 (fun _ => true) true Tryd.f3.params.toList args.toList ds p := hA0
  rw [Tryd.params3] at hA hval
  obtain ⟨v0, vs0, d0, ds0, p0, q0, hargs, rfl, rfl, h0, r0⟩ := trodAll_cons hA
  obtain ⟨rfl, rfl, rfl⟩ := trodAll_nil r0
  obtain rfl : args = #[v0] := by cases args; simp_all
  obtain ⟨rfl, rfl⟩ := trodVars_none hV
  have k0 := h0
  have lt0 : ∀ x ∈ p0, x.block < W.heap.size := by obtain ⟨m, hm⟩ := k0; exact DataW.trod_lt m _ _ _ hm
  obtain ⟨cs0, rfl, hsz0⟩ := okWide_struct Tryd.underlying23 (hval 0 23 v0 rfl rfl)
  obtain ⟨c0_0, c0_1, c0_2, c0_3, c0_4, c0_5, rfl⟩ := arr6 (hsz0.trans (by kernel_rfl))
  have hf0 := h0
  obtain ⟨fu0, hf0⟩ := hf0
  simp only [Value.cells] at hf0
  obtain ⟨a0_0, ea0_0⟩ := leaf_int Tryd.underlying23 hf0 0 _ rfl Tryd.underlying3 (by kernel_rfl) rfl
  obtain ⟨ea0_0, wa0_0⟩ := ea0_0
  subst ea0_0
  obtain ⟨a0_1, ea0_1⟩ := leaf_int Tryd.underlying23 hf0 1 _ rfl Tryd.underlying3 (by kernel_rfl) rfl
  obtain ⟨ea0_1, wa0_1⟩ := ea0_1
  subst ea0_1
  obtain ⟨a0_2, ea0_2⟩ := leaf_int Tryd.underlying23 hf0 2 _ rfl Tryd.underlying3 (by kernel_rfl) rfl
  obtain ⟨ea0_2, wa0_2⟩ := ea0_2
  subst ea0_2
  obtain ⟨a0_3, ea0_3⟩ := leaf_int Tryd.underlying23 hf0 3 _ rfl Tryd.underlying3 (by kernel_rfl) rfl
  obtain ⟨ea0_3, wa0_3⟩ := ea0_3
  subst ea0_3
  obtain ⟨a0_4, ea0_4⟩ := leaf_int Tryd.underlying23 hf0 4 _ rfl Tryd.underlying3 (by kernel_rfl) rfl
  obtain ⟨ea0_4, wa0_4⟩ := ea0_4
  subst ea0_4
  obtain ⟨a0_5, ea0_5⟩ := leaf_int Tryd.underlying23 hf0 5 _ rfl Tryd.underlying3 (by kernel_rfl) rfl
  obtain ⟨ea0_5, wa0_5⟩ := ea0_5
  subst ea0_5
  clear hA0 hval0
  refine (walk a0_0 (ibounds wa0_0) a0_1 (ibounds wa0_1) a0_2 (ibounds wa0_2) a0_3 (ibounds wa0_3) a0_4 (ibounds wa0_4) a0_5 (ibounds wa0_5) W (tab hL)).mono fun e W' ⟨he, bel⟩ => ?_
  subst he
  exact ⟨_, rfl, _, _, _, [], _, [], hW', trodAll_mk1 (shut_bool Tryd.underlying4 _), (trodAll_cons_mk (Below.trod laidOut (by kernel_rfl) (of_decide_eq_true (by kernel_rfl)) k0 bel lt0) trodAll_mk0), rfl, bel.frame _, fun h => by cases h⟩
theorem over : Rows.fnExactPacketTextRow.holds Tryd.pinned (OpenSpec.ofChange Rows.fnExactPacketTextSpec) :=
  OpenClaim.holds_of_wide 3 Tryd.f3 rfl rfl rfl rfl rfl rfl rfl ⟨rfl, rfl, rfl, rfl, rfl⟩ rfl rfl rfl rfl rfl (by kernel_rfl) Tryd.func3 (by kernel_rfl)
    (of_decide_eq_true (by kernel_rfl)) (by unfold Func.isWrapper; first | (rw [if_pos (by decide +kernel)]; kernel_rfl) | (rw [if_neg (by decide +kernel)]; exact ⟨rfl, rfl⟩))
    (fun os started H enc _ => lifted os started H enc)

/-- The given statement: the card. -/
theorem proved : Rows.FnExactPacketTextCardSaid :=
  Claim7.holds_tied_plain_at .later [] [.data, .data, .data] true (true, "c5e9850a9ba4741e8493e9131f5c90b60ec5c51e0f3b9494fe6df1957001e9c3") true
    over (fun _ h => by cases h) (by kernel_rfl) (fun _ h => by cases h) fnExactPacketText_row_tie rfl ⟨rfl, rfl⟩ (by kernel_rfl) rfl
    (fun f fn hf hfn => by
      obtain rfl : f = 3 := Option.some.inj ((show Tryd.prog.funcNamed "loop.example/g00838/laws.FnExactPacketText" = some 3 by kernel_rfl).symm.trans hf) |>.symm
      obtain rfl : fn = Tryd.f3 := (Option.some.inj (Tryd.func3.symm.trans hfn)).symm
      exact ⟨by kernel_rfl, fun j t ht => by
        rw [Tryd.params3] at ht
        have h3 : t = 23 := by
          rcases j with _ | j
          · simpa using ht.symm
          · simp at ht
        subst h3
        exact (show Tryd.prog.wantsStandIn 23 = false by kernel_rfl)⟩)
    (by kernel_rfl)
#print axioms proved
end Go.Proofs.YtmkmcobomlchfaaDoor.lawPacketText
