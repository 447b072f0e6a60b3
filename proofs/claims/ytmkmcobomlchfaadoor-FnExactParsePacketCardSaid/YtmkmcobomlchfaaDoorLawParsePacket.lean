/- The statement FnExactParsePacketCardSaid: for every string the law FnExactParsePacket returns true, and its argument reads as before; the listed variables of the library are tied to the program's text. -/
import Derived.Test.YtmkmcobomlchfaaDoorPpImpl
import Derived.Test.YtmkmcobomlchfaaDoorShaped
import Derived.Test.YtmkmcobomlchfaaDoorChecked
import Derived.Test.YtmkmcobomlchfaaDoorCards
import Derived.Test.YtmkmcobomlchfaaDoorTie
import Derived.SevenTiedAt
import Derived.LaidMore
import Derived.Lay
import Derived.Stop.LaidErr
import Derived.ChangeMaps5
namespace Go.Proofs.YtmkmcobomlchfaaDoor.lawParsePacket
open Go.ChangeShapes Go.WideShapes Go.ChangeAt Go.RowKit
open Go.ChangeMaps (open_string shut_string)
set_option linter.unusedVariables false
set_option maxRecDepth 100000
def laidL : List (String × DataW Unit) := Rows.fnExactParsePacketRow.laid
theorem specPp_any (s : ByteArray) (hs : s.size ≤ 1048576) (w : World) : Calls Tryd.prog 8 #[.string s] w (PpEnd w s.data.toList) := by
  go_enter Tryd.func8, Tryd.ntmps8
  go_wp2_with fail
  refine (pkParse_any s hs _).mono ?_
  rintro e w1 ⟨p, b, rfl, hR, hb1⟩
  have HB1 := Lib.hid (bt (ba (b0 w) _) hb1)
  have HR := Lib.hid hR
  have r : Bk w1 (w.heap.size) 26 #[.int .i64 0, .int .i64 0, .int .i64 0, .int .i64 0, .int .i64 0, .int .i64 0] := (Bk.new w _ _).old hb1
  have zr : w.heap.size < w1.heap.size := r.lt
  have r_0 : w1.cell? ⟨w.heap.size, 0, none⟩ = some (.int .i64 0) := r.cell 0
  have r_1 : w1.cell? ⟨w.heap.size, 1, none⟩ = some (.int .i64 0) := r.cell 1
  have r_2 : w1.cell? ⟨w.heap.size, 2, none⟩ = some (.int .i64 0) := r.cell 2
  have r_3 : w1.cell? ⟨w.heap.size, 3, none⟩ = some (.int .i64 0) := r.cell 3
  have r_4 : w1.cell? ⟨w.heap.size, 4, none⟩ = some (.int .i64 0) := r.cell 4
  have r_5 : w1.cell? ⟨w.heap.size, 5, none⟩ = some (.int .i64 0) := r.cell 5
  have rf := r.free
  have Hr := Lib.hid r
  clear r
  clear hb1 hR
  go_wp2_with fail
  exact bodyPost_ret (v := .tuple #[.agg #[.int .i64 (p.id), .int .i64 (p.so), .int .i64 (p.de), .int .i64 (p.po), .int .i64 (p.ma), .int .i64 (p.si)], .bool b]) (by simp [results, Tryd.results8, go_sem, r_0, r_1, r_2, r_3, r_4, r_5]) rfl ⟨p, b, rfl, HR.out, (by repeat (first | (with_reducible exact HB1.out) | (with_reducible refine ba ?_ _) | (with_reducible refine bsB ?_ (by omega)) | (with_reducible refine bd ?_ _) | (with_reducible refine Below.drew ?_)))⟩
set_option maxHeartbeats 2000000 in
theorem walk (w : World) (s : ByteArray) (hs : s.size ≤ maxLen) (hL : LibOk w) :
    Calls Tryd.prog 4 #[.string s] w fun e w' => e = .returned (.bool true) ∧ Below w.heap.size w w' := by
  by_cases hbig : (s.size : Int) ≤ 1048576
  rotate_left
  · have h1 : (1048576 : Int) < (s.size : Int) := by omega
    go_enter Tryd.func4, Tryd.ntmps4
    go_wp2_with fail
    go_ret
    exact ⟨rfl, (by repeat (first | (with_reducible exact b0 _) | (with_reducible refine ba ?_ _) | (with_reducible refine bd ?_ _) | (with_reducible refine Below.drew ?_) | (with_reducible refine bs ?_ (by first | exact Nat.le_refl _ | exact Nat.le_add_right _ _ | omega) _) | (with_reducible refine bt ?_ (by assumption))))⟩
  have h1 : ¬ (1048576 : Int) < (s.size : Int) := by omega
  have HSZ := Lib.hid (show s.size ≤ 1048576 from by omega)
  have HL := Lib.hid hL
  clear hL
  go_enter Tryd.func4, Tryd.ntmps4
  go_wp2_with fail
  refine (specPp_any s HSZ.out _).mono ?_
  rintro e w1 ⟨p, b, rfl, hR1, hb1⟩
  have HR1 := Lib.hid hR1
  clear hR1
  go_wp2_with fail
  refine (parsePacket_any s HSZ.out _ (HL.out.below (ba hb1 _))).mono ?_
  rintro e w2 ⟨p', b', rfl, hR2, hb2⟩
  obtain ⟨rfl, rfl⟩ := PpR_one HR1.out hR2
  have HB2 := Lib.hid (bt (ba hb1 (.cells #[.int .i64 p.id, .int .i64 p.so, .int .i64 p.de, .int .i64 p.po, .int .i64 p.ma, .int .i64 p.si] 26)) hb2)
  have b : Bk w2 (w1.heap.size) 26 #[.int .i64 p.id, .int .i64 p.so, .int .i64 p.de, .int .i64 p.po, .int .i64 p.ma, .int .i64 p.si] := (Bk.new_ rfl).old hb2
  have zb : w1.heap.size < w2.heap.size := b.lt
  have b_0 : w2.cell? ⟨w1.heap.size, 0, none⟩ = some (.int .i64 p.id) := b.cell 0
  have b_1 : w2.cell? ⟨w1.heap.size, 1, none⟩ = some (.int .i64 p.so) := b.cell 1
  have b_2 : w2.cell? ⟨w1.heap.size, 2, none⟩ = some (.int .i64 p.de) := b.cell 2
  have b_3 : w2.cell? ⟨w1.heap.size, 3, none⟩ = some (.int .i64 p.po) := b.cell 3
  have b_4 : w2.cell? ⟨w1.heap.size, 4, none⟩ = some (.int .i64 p.ma) := b.cell 4
  have b_5 : w2.cell? ⟨w1.heap.size, 5, none⟩ = some (.int .i64 p.si) := b.cell 5
  have bf := b.free
  have Hb := Lib.hid b
  clear b
  clear hb1 hb2 hR2
  go_wp2_with fail
  refine (eqPacket_any _ _ _ _ _ _ _).mono ?_
  rintro e w3 ⟨rfl, hb3⟩
  have HB3 := Lib.hid (bt (ba HB2.out _) hb3)
  clear hb3
  go_wp2_with fail
  go_ret
  exact ⟨rfl, HB3.out⟩
theorem door_met (os : Os) (args : Array Value) : laidMetH Tryd.prog laidL ((World.laidAll Tryd.prog os laidL).forCall (fun _ _ => 0) ⟨#[], args, []⟩).memory :=
  laidMet_laidAll args (by kernel_rfl) (by kernel_rfl)
theorem tab {W : World} (h : laidMetH Tryd.prog laidL W) : Lib.TabIs Tryd.prog W "internal/strconv.uint64pow10" .u64 Lib.pow10Tab := by
  have h' : laidMet Tryd.prog laidL W := h
  obtain ⟨ps, ⟨g0, t0, cs0, f0, a0, b0, hg0, ht0, hv0, hd0, ⟨g1, t1, cs1, f1, a1, b1, hg1, ht1, hv1, hd1, ⟨g2, t2, cs2, f2, a2, b2, hg2, ht2, hv2, hd2, _, _⟩, _⟩, _⟩, _, _⟩ := h'
  obtain rfl : t2 = 102 := by
    have e : Tryd.prog.globalNamed "internal/strconv.uint64pow10" = some 5 := by kernel_rfl
    have e2 : (Tryd.prog.globals[5]?).map (·.type) = some 102 := by kernel_rfl
    obtain rfl := Option.some.inj (e.symm.trans hg2)
    exact (Option.some.inj (e2.symm.trans ht2)).symm
  unfold Lib.TabIs
  rw [hv2, ← Lib.cells_of_tab (k := .u64) (zs := Lib.pow10Tab) (n := 20) Tryd.underlying102 Tryd.underlying71 (by kernel_rfl) (by kernel_rfl) hd2]
theorem star : "*" ++ "errors.errorString" = "*errors.errorString" := by decide
theorem rowPtr (u : TypeId) (h : Tryd.prog.typeName? 3 u = some "*errors.errorString") : u = 83 :=
  typeName_ptr_named (nm := "errors.errorString") (by rw [star]; kernel_rfl) (by kernel_rfl) (by decide) u (by rw [star]; exact h)
theorem libOk {W : World} (h : laidMetH Tryd.prog laidL W) (hs : W.ShapedOpen Tryd.prog) : LibOk W := by
  have h' : laidMet Tryd.prog laidL W := h
  have h4 := h'.tail.tail.tail.tail
  obtain ⟨a1, s1, hv1, -, -, -⟩ := laid_sentinel h4 (show Tryd.prog.globalNamed "strconv.ErrRange" = some 1 by kernel_rfl) (show (Tryd.prog.globals[1]?).map (·.type) = some 39 by kernel_rfl) Tryd.underlying39 rowPtr Tryd.underlying83 Tryd.underlying85 rfl rfl Tryd.underlying9 (by kernel_rfl) (by kernel_rfl)
  obtain ⟨a0, s0, hv0, -, -, -⟩ := laid_sentinel h4.tail (show Tryd.prog.globalNamed "strconv.ErrSyntax" = some 0 by kernel_rfl) (show (Tryd.prog.globals[0]?).map (·.type) = some 39 by kernel_rfl) Tryd.underlying39 rowPtr Tryd.underlying83 Tryd.underlying85 rfl rfl Tryd.underlying9 (by kernel_rfl) (by kernel_rfl)
  refine ⟨Lib.tabBelow_of_tabIs (tab h), ⟨83, .pointer (some a0), ?_⟩, ⟨83, .pointer (some a1), ?_⟩, ?_⟩
  · have c := World.var?_cell (show Tryd.prog.globalNamed "strconv.ErrSyntax" = some 0 by kernel_rfl) hv0 0
    simpa using c
  · have c := World.var?_cell (show Tryd.prog.globalNamed "strconv.ErrRange" = some 1 by kernel_rfl) hv1 0
    simpa using c
  · exact cell_of_shapedOpen_int (zero := #[.int .i64 0]) (t := 3) hs (of_decide_eq_true (by kernel_rfl)) (by kernel_rfl) rfl (by kernel_rfl) (by kernel_rfl) Tryd.underlying3
theorem own : ownKnob Tryd.prog.godebug = none := by kernel_rfl
theorem laidOut : laidOutB Tryd.prog = true := by kernel_rfl
set_option maxRecDepth 100000 in
theorem lifted (os : Os) (started : os.Started) (H : Type) (enc : TypeId × Value → H) :
    ReturnsInHanded {} Tryd.checked os 4 .any (fun w args => (Rows.fnExactParsePacketSpec.pre enc Tryd.prog Tryd.f4 [] false w args ∧ laidMetH Tryd.prog laidL w) ∧ sizedMet enc Tryd.prog Tryd.f4 (OpenSpec.ofChange Rows.fnExactParsePacketSpec) false w args) (Rows.fnExactParsePacketSpec.post enc Tryd.prog Tryd.f4 false true false false) := by
  refine handed_laid_shaped (C := Tryd.checked) (X := fun w _ => laidMetH Tryd.prog laidL w) (fun _ _ _ hh h => h.of_heap hh) own started (by kernel_rfl) Tryd.func4
    (ChangeSpec.witness_shaped (enc := enc) (C := Tryd.checked) (os := os) (X := fun w _ => laidMetH Tryd.prog laidL w) false (World.laidAll Tryd.prog os laidL) #[.string ByteArray.empty] 8 (World.laidAll_os _ _ _) (World.shaped_of_ZipB (by kernel_rfl) (by kernel_rfl)) (by kernel_rfl) (by kernel_rfl) (by kernel_rfl) (door_met os _)) ?_
  intro W base args ds gs before hval0 hW hSh hL
  have hval : ∀ (j : Nat) t v, Tryd.f4.params[j]? = some t → args[j]? = some v → Value.okWide Tryd.prog W .any base t v := hval0
  have hW' := hW
  obtain ⟨p, q, hA0, hV, rfl, hfz, hnd⟩ := hW
  have hA : DataW.TrodAll enc Tryd.prog W 0 (fun _ => true) true Tryd.f4.params.toList args.toList ds p := hA0
  rw [Tryd.params4] at hA hval
  obtain ⟨v0, vs0, d0, ds0, p0, q0, hargs, rfl, rfl, h0, r0⟩ := trodAll_cons hA
  obtain ⟨rfl, rfl, rfl⟩ := trodAll_nil r0
  obtain rfl : args = #[v0] := by cases args; simp_all
  obtain ⟨rfl, rfl⟩ := trodVars_none hV
  have k0 := h0
  have lt0 : ∀ x ∈ p0, x.block < W.heap.size := by obtain ⟨m, hm⟩ := k0; exact DataW.trod_lt m _ _ _ hm
  obtain ⟨s0, rfl, rfl, rfl, hs0⟩ := open_string Tryd.underlying9 (hval 0 9 v0 rfl rfl) h0
  clear hA0 hval0
  refine (walk W s0 hs0 (libOk hL hSh)).mono fun e W' ⟨he, bel⟩ => ?_
  subst he
  exact ⟨_, rfl, _, _, _, [], _, [], hW', trodAll_mk1 (shut_bool Tryd.underlying4 _), (trodAll_cons_mk (Below.trod laidOut (by kernel_rfl) (of_decide_eq_true (by kernel_rfl)) k0 bel lt0) trodAll_mk0), rfl, bel.frame _, fun h => by cases h⟩
theorem over : Rows.fnExactParsePacketRow.holds Tryd.pinned (OpenSpec.ofChange Rows.fnExactParsePacketSpec) :=
  OpenClaim.holds_of_wide 4 Tryd.f4 rfl rfl rfl rfl rfl rfl rfl ⟨rfl, rfl, rfl, rfl, rfl⟩ rfl rfl rfl rfl rfl (by kernel_rfl) Tryd.func4 (by kernel_rfl)
    (of_decide_eq_true (by kernel_rfl)) (by unfold Func.isWrapper; first | (rw [if_pos (by decide +kernel)]; kernel_rfl) | (rw [if_neg (by decide +kernel)]; exact ⟨rfl, rfl⟩))
    (fun os started H enc _ => lifted os started H enc)

/-- The given statement: the card. -/
theorem proved : Rows.FnExactParsePacketCardSaid :=
  Claim7.holds_tied_plain_at .later [] [.data, .data, .data, .data, .sentinel, .sentinel, .pinned] true (true, "c5e9850a9ba4741e8493e9131f5c90b60ec5c51e0f3b9494fe6df1957001e9c3") true
    over (fun _ h => by cases h) (by kernel_rfl) (fun _ h => by cases h) fnExactParsePacket_row_tie rfl ⟨rfl, rfl⟩ (by kernel_rfl) rfl
    (fun f fn hf hfn => by
      obtain rfl : f = 4 := Option.some.inj ((show Tryd.prog.funcNamed "loop.example/g00838/laws.FnExactParsePacket" = some 4 by kernel_rfl).symm.trans hf) |>.symm
      obtain rfl : fn = Tryd.f4 := (Option.some.inj (Tryd.func4.symm.trans hfn)).symm
      exact ⟨by kernel_rfl, fun j t ht => by
        rw [Tryd.params4] at ht
        have h3 : t = 9 := by
          rcases j with _ | j
          · simpa using ht.symm
          · simp at ht
        subst h3
        exact (show Tryd.prog.wantsStandIn 9 = false by kernel_rfl)⟩)
    (by kernel_rfl)
#print axioms proved
end Go.Proofs.YtmkmcobomlchfaaDoor.lawParsePacket
