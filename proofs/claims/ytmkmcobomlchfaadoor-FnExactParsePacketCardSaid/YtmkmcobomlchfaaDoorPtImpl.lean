/- The contracts of the program's texts of packets. -/
import Derived.Test.YtmkmcobomlchfaaDoorStrs
import Derived.Test.YtmkmcobomlchfaaDoorShelf
namespace Go.Proofs.YtmkmcobomlchfaaDoor
open Go.ChangeShapes Go.WideShapes Go.ChangeAt Go.RowKit
set_option linter.unusedVariables false
theorem itoa_any (n : Int) (h0 : 0 ≤ n) (h1 : n < 10000000) (w : World) (ht : Lib.TabIs Tryd.prog w "internal/strconv.uint64pow10" .u64 Lib.pow10Tab) :
    Calls Tryd.prog 28 #[.int .i64 n] w fun e w' => e = .returned (.string ⟨(Lib.itoa n).toArray⟩) ∧ Below w.heap.size w w' :=
  (Tryd.strconv_Itoa n (by omega) (by omega) w ht).mono fun e w' h => by
    obtain ⟨he, k, os, rfl⟩ := h
    exact ⟨he, Lib.below_grow _ w (Nat.le_refl _) k os⟩
theorem join_len : ∀ (xs : List (List UInt8)), (∀ x ∈ xs, x.length ≤ 8) → (Lib.join xs [32]).length ≤ 9 * xs.length
  | [], _ => by simp [Lib.join, List.intercalate]
  | [x], h => by
    have := h x (by simp)
    simp [Lib.join, List.intercalate, List.intersperse]
    omega
  | x :: y :: r, h => by
    have h1 := h x (by simp)
    have h2 := join_len (y :: r) (fun z hz => h z (by simp at hz ⊢; exact .inr hz))
    have e : Lib.join (x :: y :: r) [32] = x ++ [32] ++ Lib.join (y :: r) [32] := by simp [Lib.join, List.intercalate, List.intersperse]
    rw [e]
    simp at h2 ⊢
    omega
def txs (l : List Int) : List ByteArray := l.map fun n => ⟨(Lib.itoa n).toArray⟩
theorem txs_succ {l : List Int} {k : Nat} (h : k < l.length) : txs (l.take (k + 1)) = txs (l.take k) ++ [⟨(Lib.itoa (l[k]?.getD 0)).toArray⟩] := by
  rw [List.take_succ_eq_append_getElem h, List.getElem?_eq_getElem h]
  simp only [txs, List.map_append, List.map_cons, List.map_nil, Option.getD_some]
set_option maxRecDepth 100000 in
set_option maxHeartbeats 2000000 in
theorem joinNumbers_any (A : Option Addr) (cap : Nat) (l : List Int) (w : World) (hl : l.length = 6) (hr : IRow w A l) (hb : ∀ (k : Nat), k < 6 → 0 ≤ l[k]?.getD 0 ∧ l[k]?.getD 0 < 10000000) (ht : Lib.TabBelow Tryd.prog w.heap.size w "internal/strconv.uint64pow10" .u64 Lib.pow10Tab) :
    Calls Tryd.prog 22 #[.slice A 6 cap] w fun e w' => e = .returned (.string ⟨(Lib.join (l.map Lib.itoa) [32]).toArray⟩) ∧ Below w.heap.size w w' := by
  obtain ⟨w1, hmk, ho1, hb1⟩ := make_strs 6 (by omega) w
  have HL := Lib.hid hl
  have HR := Lib.hid hr
  have HB := Lib.hid hb
  have HT := Lib.hid ht
  have HO1 := Lib.hid ho1
  have HB1 := Lib.hid hb1
  have z1 := hb1.size
  clear hl hr hb ht ho1 hb1
  have hmk6 : (Instr.makeSlice 35 (.int .i64 0) (.int .i64 6)).run Tryd.prog w = .ok (.slice (some ⟨w.heap.size, 0, none⟩) 0 6) w1 := hmk
  clear hmk
  go_enter Tryd.func22, Tryd.ntmps22
  go_wp2_with fail
  go_loopw [3, 11] (fun v i wr => ∃ (k : Nat) (C : Option Addr) (c : Nat), k ≤ 6 ∧ i = .int .i64 k ∧ v = .slice C k c ∧ SOwn wr w.heap.size C k c (txs (l.take k)) ∧ Below w.heap.size w wr) (fun _ i _ => 6 - (intOf i).toNat)
  case atStart => exact ⟨0, _, 6, by omega, rfl, rfl, by simpa [txs] using HO1.out, HB1.out⟩
  case round =>
    obtain ⟨k, C, c, hk, rfl, rfl, ho, hbw⟩ := hrel
    have HO := Lib.hid ho
    have HW := Lib.hid hbw
    have zw := hbw.size
    clear ho hbw
    by_cases hlt : k < 6
    · obtain ⟨g, off, rfl, hg, hcs⟩ := (HR.out.below HW.out).at_ (k := k) (by have := HL.out; omega)
      have hc := hcs k (by have := HL.out; omega)
      obtain ⟨b1, b2⟩ := HB.out k hlt
      have HX := Lib.hid (txs_succ (l := l) (k := k) (by have := HL.out; omega))
      clear hcs
      generalize l[k]?.getD 0 = x at *
      go_wp2_with fail
      refine (itoa_any x b1 b2 wr (HT.out wr HW.out)).mono ?_
      rintro e w4 ⟨rfl, hb4⟩
      have HO4 := Lib.hid (show SOwn w4 w.heap.size C k c (txs (l.take k)) from World.ownsRow.kept HO.out (row := none) ⟨hb4.os, hb4.tape, hb4.output, hb4.size, fun k h1 _ => hb4.block k h1⟩ (by rcases h : (Value.slice C k c).ownBlock with _ | q <;> simp))
      have HB4 := Lib.hid (bt HW.out hb4)
      have z4 := hb4.size
      clear hb4
      go_wp2_with (at_builtin; refine append_str rfl _ _ rfl (lo := w.heap.size) (l := txs (l.take k)) rfl (World.ownsRow.alloc HO4.out _) w4.heap.size ⟨(Lib.itoa x).toArray⟩ rfl ((Bk.new_ rfl).cell 0) (by omega) (by simp; omega) ?_; intro A' c' w5 ho5 hb5)
      have HO5 := Lib.hid ho5
      have HB5 := Lib.hid ((ba HB4.out _).trans hb5)
      clear ho5 hb5
      go_roundw
      case rel => exact ⟨k + 1, A', c', by omega, by go_num, rfl, by rw [HX.out]; exact HO5.out, HB5.out⟩
      case measure => simp [intOf]; omega
    · obtain rfl : k = 6 := by omega
      have hT : l.take 6 = l := List.take_of_length_le (by have := HL.out; omega)
      have HO2 := Lib.hid (show SOwn wr w.heap.size C 6 c (txs l) from by have h := HO.out; rwa [hT] at h)
      clear hT
      have hx : (txs l).length = 6 := by have := HL.out; simp [txs, this]
      rcases HO2.out.2 with ⟨_, h0⟩ | ⟨gg, cap', cur, hv, _, hgg, hcap, _⟩
      · omega
      obtain rfl : C = some ⟨gg, 0, none⟩ := by injection hv
      obtain rfl : c = cap' := by injection hv
      have HC := Lib.hid (fun (j : Nat) (x : ByteArray) (hj : (txs l)[j]? = some x) => show wr.cell? ⟨gg, 0 + j, none⟩ = some (.string x) from by
        have hjl := (List.getElem?_eq_some_iff.1 hj).1
        rw [Nat.zero_add, HO2.out.cellAt j (by omega), List.getElem?_map, hj]
        rfl)
      have HG := Lib.hid (Array.getElem?_eq_some_iff.1 hgg).1
      have HJ := Lib.hid (show (txs l).map (·.data.toList) = l.map Lib.itoa from by simp [txs])
      have HCP := Lib.hid hcap
      have HLB := Lib.hid (show (Lib.join (l.map Lib.itoa) [32]).length ≤ 140737488355328 from by
        have h := join_len (l.map Lib.itoa) (fun x hx => by
          obtain ⟨n, hn, rfl⟩ := List.mem_map.1 hx
          obtain ⟨j, hj, rfl⟩ := List.mem_iff_getElem.1 hn
          have hb := HB.out j (by have := HL.out; omega)
          rw [List.getElem?_eq_getElem hj] at hb
          exact itoa_len hb.1 hb.2)
        have := HL.out
        rw [List.length_map] at h
        omega)
      clear hgg hv hcap
      have hJN := Tryd.strings_Join gg 0 c (txs l) ⟨#[32]⟩ wr HC.out HG.out (by omega) (by have := HCP.out; omega) (by rw [HJ.out]; exact HLB.out)
      rw [hx, HJ.out] at hJN
      have HJN := Lib.hid hJN
      clear hJN
      go_wp2_with fail
      refine HJN.out.mono ?_
      rintro e w4 ⟨rfl, hb4⟩
      go_wp2_with fail
      go_ret
      exact ⟨rfl, bt HW.out hb4⟩
set_option maxRecDepth 100000 in
set_option maxHeartbeats 2000000 in
theorem packetText_any {p : Pk} (hp : p.ok = true) (w : World) (ht : Lib.TabBelow Tryd.prog w.heap.size w "internal/strconv.uint64pow10" .u64 Lib.pow10Tab) :
    Calls Tryd.prog 14 #[.agg #[.int .i64 (p.id), .int .i64 (p.so), .int .i64 (p.de), .int .i64 (p.po), .int .i64 (p.ma), .int .i64 (p.si)]] w fun e w' => e = .returned (.string ⟨(ptx p).toArray⟩) ∧ Below w.heap.size w w' := by
  have HT := Lib.hid ht
  have HN := Lib.hid (Pk.ok_iff.1 hp)
  clear ht
  go_enter Tryd.func14, Tryd.ntmps14
  go_wp2_with fail
  obtain ⟨W, hW⟩ : ∃ W, W = (w.alloc (.cells #[.int .i64 p.id, .int .i64 p.so, .int .i64 p.de, .int .i64 p.po, .int .i64 p.ma, .int .i64 p.si] 26)).alloc (.cells #[.int .i64 p.id, .int .i64 p.so, .int .i64 p.de, .int .i64 p.po, .int .i64 p.ma, .int .i64 p.si] 3) := ⟨_, rfl⟩
  rw [← hW]
  have HBW := Lib.hid (show Below w.heap.size w W from by rw [hW]; exact ba (ba (b0 w) _) _)
  have hk : Bk W (w.heap.size + 1) 3 #[.int .i64 p.id, .int .i64 p.so, .int .i64 p.de, .int .i64 p.po, .int .i64 p.ma, .int .i64 p.si] := by rw [hW]; exact Bk.new_ (by simp)
  have HR := Lib.hid (show IRow W (some ⟨w.heap.size + 1, 0, none⟩) [p.id, p.so, p.de, p.po, p.ma, p.si] from fun _ => ⟨w.heap.size + 1, 0, rfl, fun i hi => by
    simp only [List.length_cons, List.length_nil] at hi
    rw [Nat.zero_add, hk.cell i]
    obtain rfl | rfl | rfl | rfl | rfl | rfl : i = 0 ∨ i = 1 ∨ i = 2 ∨ i = 3 ∨ i = 4 ∨ i = 5 := by omega
    all_goals rfl⟩)
  clear hW hk
  refine (joinNumbers_any _ 6 [p.id, p.so, p.de, p.po, p.ma, p.si] W rfl HR.out (fun k hk => ?_) (fun w' hb => HT.out w' (HBW.out.trans (hb.mono HBW.out.size)))).mono ?_
  · have g := HN.out
    obtain rfl | rfl | rfl | rfl | rfl | rfl : k = 0 ∨ k = 1 ∨ k = 2 ∨ k = 3 ∨ k = 4 ∨ k = 5 := by omega
    all_goals (simp; omega)
  rintro e w1 ⟨rfl, hb1⟩
  go_wp2_with fail
  go_ret
  exact ⟨rfl, bt HBW.out hb1⟩
theorem implPacketText_any (p : Pk) (w : World) (ht : Lib.TabBelow Tryd.prog w.heap.size w "internal/strconv.uint64pow10" .u64 Lib.pow10Tab) : Calls Tryd.prog 7 #[.agg #[.int .i64 (p.id), .int .i64 (p.so), .int .i64 (p.de), .int .i64 (p.po), .int .i64 (p.ma), .int .i64 (p.si)]] w (PtR w p) := by
  unfold PtR
  have HT := Lib.hid ht
  clear ht
  rcases hp : p.ok with _ | _
  · go_enter Tryd.func7, Tryd.ntmps7
    go_wp2_with fail
    refine (isPacket_b hp _).mono ?_
    rintro e w1 ⟨rfl, hb1⟩
    go_wp2_with fail
    go_ret2
    exact ⟨rfl, bt (ba (b0 w) _) hb1⟩
  · go_enter Tryd.func7, Tryd.ntmps7
    go_wp2_with fail
    refine (isPacket_b hp _).mono ?_
    rintro e w1 ⟨rfl, hb1⟩
    have HB1 := Lib.hid (bt (ba (b0 w) _) hb1)
    have zhb1 := hb1.size; (try simp at zhb1); have c0hb1 := fun o => bkeep hb1 (w.heap.size) o (by first | omega | (simp; done) | (simp; omega)); have f0hb1 := fun o => bfree hb1 (w.heap.size) o (by first | omega | (simp; done) | (simp; omega))
    go_wp2_with fail
    refine (packetText_any hp _ (fun w' hb => HT.out w' (HB1.out.trans (hb.mono HB1.out.size)))).mono ?_
    rintro e w2 ⟨rfl, hb2⟩
    go_wp2_with fail
    go_ret2
    exact ⟨rfl, bt (bt (ba (b0 w) _) hb1) hb2⟩
end Go.Proofs.YtmkmcobomlchfaaDoor
