/- The contracts of the laws' helpers on []Packet: copy, comparison, marking. -/
import Derived.Test.YtmkmcobomlchfaaDoorRows
import Derived.Test.YtmkmcobomlchfaaDoorFlat
import Derived.Deep.RegionHeld3
namespace Go.Proofs.YtmkmcobomlchfaaDoor
open Go.ChangeShapes Go.WideShapes Go.ChangeAt Go.RowKit
set_option linter.unusedVariables false
theorem toPacket_any (v0 v1 v2 v3 v4 v5 : Int) (w : World) :
    Calls Tryd.prog 6 #[.agg #[.int .i64 v0, .int .i64 v1, .int .i64 v2, .int .i64 v3, .int .i64 v4, .int .i64 v5]] w fun e w' => e = .returned (.agg #[.int .i64 v0, .int .i64 v1, .int .i64 v2, .int .i64 v3, .int .i64 v4, .int .i64 v5]) ∧ Below w.heap.size w w' := by
  go_enter Tryd.func6, Tryd.ntmps6
  go_wp2
  exact bodyPost_ret (v := .agg #[.int .i64 v0, .int .i64 v1, .int .i64 v2, .int .i64 v3, .int .i64 v4, .int .i64 v5]) (by simp [results, Tryd.results6, go_sem]) rfl ⟨rfl, (by repeat (first | (with_reducible exact b0 _) | (with_reducible refine ba ?_ _) | (with_reducible refine bd ?_ _) | (with_reducible refine Below.drew ?_) | (with_reducible refine bs ?_ (by first | exact Nat.le_refl _ | exact Nat.le_add_right _ _ | omega) _) | (with_reducible refine bt ?_ (by assumption))))⟩
theorem eqPacket_any (v0 v1 v2 v3 v4 v5 : Int) (w : World) :
    Calls Tryd.prog 10 #[.agg #[.int .i64 v0, .int .i64 v1, .int .i64 v2, .int .i64 v3, .int .i64 v4, .int .i64 v5], .agg #[.int .i64 v0, .int .i64 v1, .int .i64 v2, .int .i64 v3, .int .i64 v4, .int .i64 v5]] w fun e w' => e = .returned (.bool true) ∧ Below w.heap.size w w' := by
  go_enter Tryd.func10, Tryd.ntmps10
  go_wp2
  go_ret
  exact ⟨rfl, (by repeat (first | (with_reducible exact b0 _) | (with_reducible refine ba ?_ _) | (with_reducible refine bd ?_ _) | (with_reducible refine Below.drew ?_) | (with_reducible refine bs ?_ (by first | exact Nat.le_refl _ | exact Nat.le_add_right _ _ | omega) _) | (with_reducible refine bt ?_ (by assumption))))⟩
theorem tPacket : (Tryd.prog.info? 26).map (fun i => (i.zero, i.size, i.bytes)) = some (some (.agg #[.int .i64 0, .int .i64 0, .int .i64 0, .int .i64 0, .int .i64 0, .int .i64 0]), 6, 48) := by kernel_rfl
theorem madePacket (n : Nat) : (madeCells (.agg #[.int .i64 0, .int .i64 0, .int .i64 0, .int .i64 0, .int .i64 0, .int .i64 0] : Value).cells (n * 6)).toList = (List.replicate (n * 6) (0 : Int)).map (Value.int .i64) := by
  apply List.ext_getElem?
  intro j
  by_cases hj : j < n * 6
  · have hm : j % 6 < 6 := Nat.mod_lt _ (by omega)
    have : (#[.int .i64 0, .int .i64 0, .int .i64 0, .int .i64 0, .int .i64 0, .int .i64 0] : Array Value)[j % 6]? = some (.int .i64 0) := by
      generalize j % 6 = m at hm
      obtain rfl | rfl | rfl | rfl | rfl | rfl : m = 0 ∨ m = 1 ∨ m = 2 ∨ m = 3 ∨ m = 4 ∨ m = 5 := by omega
      all_goals rfl
    simp only [Array.getElem?_toList] 
    simp [madeCells, Value.cells, hj]
    simpa using congrArg (fun x => x.getD default) this
  · simp [madeCells, hj]
def NewPacketS (w : World) (l : List Int) (e : Ending) (w' : World) : Prop :=
  ∃ A n cap, e = .returned (.slice A n cap) ∧ IOwn w' w.heap.size w'.heap.size 26 6 A n cap l ∧ Below w.heap.size w w'
theorem flatPacket {H : Type} (enc : TypeId × Value → H) (w : World) : Flat enc Tryd.prog w 23 6 := by
  intro fuel cs x h j hj
  have hl : cs.length = 6 := by
    obtain ⟨xs, n, _, _, hl, _⟩ := DataW.trod_struct Tryd.underlying23 h
    rw [hl]
    kernel_rfl
  obtain rfl | rfl | rfl | rfl | rfl | rfl : j = 0 ∨ j = 1 ∨ j = 2 ∨ j = 3 ∨ j = 4 ∨ j = 5 := by omega
  · obtain ⟨c, hc⟩ : ∃ c, cs[0]? = some c := ⟨_, List.getElem?_eq_getElem (by omega)⟩
    obtain ⟨n, rfl, hw⟩ := leaf_int Tryd.underlying23 h 0 _ rfl Tryd.underlying3 (by kernel_rfl) hc
    exact ⟨n, hc, hw⟩
  · obtain ⟨c, hc⟩ : ∃ c, cs[1]? = some c := ⟨_, List.getElem?_eq_getElem (by omega)⟩
    obtain ⟨n, rfl, hw⟩ := leaf_int Tryd.underlying23 h 1 _ rfl Tryd.underlying3 (by kernel_rfl) hc
    exact ⟨n, hc, hw⟩
  · obtain ⟨c, hc⟩ : ∃ c, cs[2]? = some c := ⟨_, List.getElem?_eq_getElem (by omega)⟩
    obtain ⟨n, rfl, hw⟩ := leaf_int Tryd.underlying23 h 2 _ rfl Tryd.underlying3 (by kernel_rfl) hc
    exact ⟨n, hc, hw⟩
  · obtain ⟨c, hc⟩ : ∃ c, cs[3]? = some c := ⟨_, List.getElem?_eq_getElem (by omega)⟩
    obtain ⟨n, rfl, hw⟩ := leaf_int Tryd.underlying23 h 3 _ rfl Tryd.underlying3 (by kernel_rfl) hc
    exact ⟨n, hc, hw⟩
  · obtain ⟨c, hc⟩ : ∃ c, cs[4]? = some c := ⟨_, List.getElem?_eq_getElem (by omega)⟩
    obtain ⟨n, rfl, hw⟩ := leaf_int Tryd.underlying23 h 4 _ rfl Tryd.underlying3 (by kernel_rfl) hc
    exact ⟨n, hc, hw⟩
  · obtain ⟨c, hc⟩ : ∃ c, cs[5]? = some c := ⟨_, List.getElem?_eq_getElem (by omega)⟩
    obtain ⟨n, rfl, hw⟩ := leaf_int Tryd.underlying23 h 5 _ rfl Tryd.underlying3 (by kernel_rfl) hc
    exact ⟨n, hc, hw⟩
end Go.Proofs.YtmkmcobomlchfaaDoor
