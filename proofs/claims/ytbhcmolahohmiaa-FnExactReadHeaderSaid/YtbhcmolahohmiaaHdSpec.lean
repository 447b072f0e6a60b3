/- The contracts of the reference's headers. -/
import Derived.Test.YtbhcmolahohmiaaHdImpl
import Derived.Test.YtbhcmolahohmiaaInts
import Derived.Deep.RegionHeld3
namespace Go.Proofs.Ytbhcmolahohmiaa
open Go.ChangeShapes Go.WideShapes Go.ChangeAt Go.RowKit
set_option linter.unusedVariables false
theorem uinfo : (Try.prog.info? 5).map (fun i => (i.zero, i.size, i.bytes)) = some (some (.int .u8 0), 1, 1) := by kernel_rfl
/-- The call owns the bytes. -/
def UOwn (w : World) (lo : Nat) (A : Option Addr) (n cap : Nat) (l : List UInt8) : Prop := w.ownsRow lo 5 1 (.slice A n cap) n (l.map (fun b => Value.int .u8 (b.toNat : Int)))
theorem append_u8 {w : World} {ops : Array Oper} {rest : List Oper} {o : Oper} {a : Act} {Q : Exit → Act → World → Prop} (hgd : o.guard = none) (sO x : Operand)
    (ho : o.op = .call { callee := .builtin .append, args := #[sO, x], argTypes := #[35, 35] }) {lo : Nat} {A : Option Addr} {n cap : Nat} {l : List UInt8} (hs : a.eval sO = .slice A n cap) (hown : UOwn w lo A n cap l)
    (g : Nat) (v : Int) (hx : a.eval x = .slice (some ⟨g, 0, none⟩) 2 2) (hc : Bk w g 5 #[.int .u8 (v / 256 % 256), .int .u8 (v % 256)]) (hn : n ≤ 1048576) (hlo : lo ≤ w.heap.size)
    (h : ∀ A' cap' w', UOwn w' lo A' (n + 2) cap' (l ++ hb v) → Below lo w w' → wpList Try.prog ops Q rest (a.put o.dst (.slice A' (n + 2) cap')) w') : wpList Try.prog ops Q (o :: rest) a w := by
  obtain ⟨i0, hi, hz0, hz1, hz2⟩ := info_parts uinfo
  refine wpList_plain hgd fun _ hK => wp_append_own w sO x 35 ho lo 5 i0 (.int .u8 0) 1 1 Try.underlying35 hi hz0 hz1 hz2 rfl (by decide) _ n _ hs hown ⟨g, 0, none⟩ 2 2 ((hb v).map (fun b => Value.int .u8 (b.toNat : Int))) hx rfl ?_ ?_ ?_ ?_ hlo ?_
  · intro j u hu
    rw [add_plain, Nat.zero_add]
    have hj : j < 2 := by have := (List.getElem?_eq_some_iff.1 hu).1; simpa [hb] using this
    obtain rfl | rfl : j = 0 ∨ j = 1 := by omega
    · rw [hc.cell 0]
      rw [← hu]
      simp [hb]
      omega
    · rw [hc.cell 1]
      rw [← hu]
      simp [hb]
      omega
  · intro u hu
    obtain ⟨y, _, rfl⟩ := List.mem_map.1 hu
    rfl
  · unfold maxLen; omega
  · omega
  · intro v' w' h1 h2 _
    rw [← List.map_append] at h1
    rcases h1.2 with ⟨_, h0⟩ | ⟨g', cap', cur, rfl, _⟩
    · omega
    · refine hK _ _ (h _ _ _ h1 ⟨h2.os, h2.tape, h2.output, h2.size, fun k hk => h2.block k (by omega) (fun e' => ?_)⟩)
      have := (hown.lt k e'.symm).1
      omega
/-- The string of the bytes. -/
theorem conv_all {w : World} {lo : Nat} {A : Option Addr} {n cap : Nat} {l : List UInt8} (h : UOwn w lo A n cap l) (hn : 0 < n) : (convert 35 9 (.slice A n cap)).run Try.prog w = .ok (.string ⟨l.toArray⟩) w := by
  have hl : l.length = n := by have := h.1; simpa using this
  rcases h.2 with ⟨_, h0⟩ | ⟨g, cap', cur, hv, _⟩
  · omega
  · have hA : A = some ⟨g, 0, none⟩ := by injection hv
    subst hA
    subst hl
    refine run_convert_bytes_back w 35 9 5 ⟨g, 0, none⟩ cap l Try.underlying35 Try.underlying5 Try.underlying9 fun j hj => ?_
    rw [add_plain, Nat.zero_add, h.cellAt j (by omega), List.getElem?_map, List.getElem?_eq_getElem hj]
    rfl
def psum (l : List Int) (k : Nat) : Int := (l.take k).sum
theorem psum_succ {l : List Int} {k : Nat} (h : k < l.length) : psum l (k + 1) = psum l k + l[k]?.getD 0 := by
  unfold psum
  rw [List.take_succ_eq_append_getElem h, List.sum_append, List.getElem?_eq_getElem h]
  simp
theorem prs_b {p : Pk} (hp : p.ok = true) {k : Nat} (hk : k < 7) : 0 ≤ (prs p)[k]?.getD 0 ∧ (prs p)[k]?.getD 0 ≤ 65535 := by
  have h := pr8_b hp ((prs p)[k]'(by simp [prs]; omega)) (by unfold pr8; exact List.mem_append_left _ (List.getElem_mem _))
  rw [List.getElem?_eq_getElem (by simp [prs]; omega)]
  exact h
set_option maxHeartbeats 1000000 in
theorem pkPairs_any {p : Pk} (hp : p.ok = true) (w : World) :
    Calls Try.prog 14 #[.agg #[.int .i64 (p.id), .int .i64 (p.so), .int .i64 (p.de), .int .i64 (p.po), .int .i64 (p.ma), .int .i64 (p.si)]] w fun e w' => ∃ A cap, e = .returned (.slice A 8 cap) ∧ IOwn w' w.heap.size w'.heap.size 3 1 A 8 cap (pr8 p) ∧ Below w.heap.size w w' := by
  have g := Pk.ok_iff.1 hp
  have HB := Lib.hid (fun (k : Nat) (hk : k < 7) => prs_b hp hk)
  have hq : Int.tdiv p.id 65536 = p.id / 65536 := Int.tdiv_eq_ediv_of_nonneg (by omega)
  have hm : Int.tmod p.id 65536 = p.id % 65536 := Int.tmod_eq_emod_of_nonneg (by omega)
  have hw1 : IntKind.i64.wrap (p.id / 65536) = p.id / 65536 := IntWalk.i64_in _ (by omega)
  have HS7 := Lib.hid (show psum (prs p) 7 % 65536 = prS p from by simp [psum, prs, prS]; omega)
  clear g
  go_enter Try.func14, Try.ntmps14
  go_wp2_with fail
  obtain ⟨W, hW⟩ : ∃ W, W = (w.alloc (.cells #[.int .i64 p.id, .int .i64 p.so, .int .i64 p.de, .int .i64 p.po, .int .i64 p.ma, .int .i64 p.si] 23)).alloc (.cells #[.int .i64 (p.id / 65536), .int .i64 (p.id % 65536), .int .i64 p.so, .int .i64 p.de, .int .i64 p.po, .int .i64 p.ma, .int .i64 p.si] 3) := ⟨_, rfl⟩
  rw [← hW]
  have HBW := Lib.hid (show Below w.heap.size w W from by rw [hW]; exact ba (ba (b0 w) _) _)
  have zW : W.heap.size = w.heap.size + 1 + 1 := by rw [hW]; simp
  have HO := Lib.hid (show IOwn W w.heap.size W.heap.size 3 1 (some ⟨w.heap.size + 1, 0, none⟩) 7 7 (prs p) from by
    rw [hW]
    have h := World.ownsRow_lit (base := w.heap.size) (e := 3) (size := 1) (w.alloc (.cells #[.int .i64 p.id, .int .i64 p.so, .int .i64 p.de, .int .i64 p.po, .int .i64 p.ma, .int .i64 p.si] 23)) #[.int .i64 (p.id / 65536), .int .i64 (p.id % 65536), .int .i64 p.so, .int .i64 p.de, .int .i64 p.po, .int .i64 p.ma, .int .i64 p.si] 7 (by simp) (by unfold maxLen; omega) rfl
    simp only [World.size_alloc] at h
    exact IOwn.of_owns h)
  have HC := Lib.hid (fun (k : Nat) (hk : k < 7) => show W.cell? ⟨w.heap.size + 1, k, none⟩ = some (.int .i64 ((prs p)[k]?.getD 0)) from by
    obtain ⟨g', e1, -, -, -, h2, -⟩ := HO.out.at_ (k := 0) (by simp [prs])
    injection e1 with e1
    injection e1 with e1
    rw [e1]
    exact h2 k (by simp [prs]; omega))
  clear hW
  go_loopw [4, 26] (fun v i wr => ∃ (k : Nat) (y : Int), k ≤ 7 ∧ i = .int .i64 k ∧ v = .int .i64 y ∧ y = psum (prs p) k ∧ 0 ≤ y ∧ y ≤ 65535 * (k : Int) ∧ wr = W) (fun _ i _ => 7 - (intOf i).toNat)
  case atStart => exact ⟨0, 0, by omega, rfl, rfl, by simp [psum], by omega, by omega, rfl⟩
  case round =>
    obtain ⟨k, y, hk, rfl, rfl, hy, y0, y1, rfl⟩ := hrel
    have HY := Lib.hid hy
    clear hy
    by_cases hlt : k < 7
    · have hc := HC.out k hlt
      obtain ⟨b1, b2⟩ := HB.out k hlt
      have HPS := Lib.hid (psum_succ (l := prs p) (k := k) (by simp [prs]; omega))
      generalize (prs p)[k]?.getD 0 = x at *
      have hkI : (k : Int) < 7 := by omega
      go_wp2_with fail
      go_roundw
      case rel => exact ⟨k + 1, y + x, by omega, by go_num, rfl, by rw [HPS.out, HY.out], by omega, by omega, trivial⟩
      case measure => simp [intOf]; omega
    · obtain rfl : k = 7 := by omega
      have hy7 : Int.tmod y 65536 = y % 65536 := Int.tmod_eq_emod_of_nonneg y0
      have HE := Lib.hid (show y % 65536 = prS p from by rw [HY.out]; exact HS7.out)
      go_wp2_with (at_builtin; refine append_int rfl _ _ rfl (lo := w.heap.size) (hh := wr.heap.size) (l := prs p) rfl (HO.out.alloc _) (w.heap.size + 1 + 1) (y % 65536) rfl ((Bk.new_ zW).cell 0) (by omega) (by simp; omega) ?_; intro A' c' w4 ho4 hb4)
      go_ret
      rw [HE.out] at ho4
      exact ⟨A', c', rfl, ho4, (ba HBW.out _).trans hb4⟩
set_option maxHeartbeats 1000000 in
theorem pkHeader_any {p : Pk} (hp : p.ok = true) (w : World) :
    Calls Try.prog 8 #[.agg #[.int .i64 (p.id), .int .i64 (p.so), .int .i64 (p.de), .int .i64 (p.po), .int .i64 (p.ma), .int .i64 (p.si)]] w fun e w' => e = .returned (.string ⟨(hdr p).toArray⟩) ∧ Below w.heap.size w w' := by
  have HB := Lib.hid (pr8_b hp)
  have HL := Lib.hid (hdrK_len p)
  go_enter Try.func8, Try.ntmps8
  go_wp2_with fail
  refine (pkPairs_any hp _).mono ?_
  rintro e w1 ⟨A, cap, rfl, ho, hb1⟩
  have HO := Lib.hid ho
  have HB1 := Lib.hid (bt (ba (b0 w) _) hb1)
  have z1 := hb1.size
  simp at z1
  clear ho hb1
  go_wp2_with fail
  go_loopw [3, 9] (fun v i wr => ∃ (k : Nat) (C : Option Addr) (c : Nat), k ≤ 8 ∧ i = .int .i64 k ∧ v = .slice C (2 * k) c ∧ UOwn wr w1.heap.size C (2 * k) c (hdrK p k) ∧ Below w1.heap.size w1 wr) (fun _ i _ => 8 - (intOf i).toNat)
  case atStart => exact ⟨0, none, 0, by omega, rfl, rfl, by rw [hdrK_zero]; exact World.ownsRow_nil _ _ _ _, b0 _⟩
  case round =>
    obtain ⟨k, C, c, hk, rfl, rfl, hu, hbw⟩ := hrel
    have HU := Lib.hid hu
    have HBW := Lib.hid hbw
    have zw := hbw.size
    clear hu hbw
    by_cases hlt : k < 8
    · obtain ⟨g, off, rfl, hg, hcs⟩ := (HO.out.row.below HBW.out).at_ (k := k) (by rw [pr8_len]; exact hlt)
      have hc := hcs k (by rw [pr8_len]; exact hlt)
      have hx : (pr8 p)[k]? = some ((pr8 p)[k]'(by rw [pr8_len]; exact hlt)) := List.getElem?_eq_getElem _
      rw [hx, Option.getD_some] at hc
      obtain ⟨b1, b2⟩ := HB.out _ (List.getElem_mem (by rw [pr8_len]; exact hlt) : (pr8 p)[k]'(by rw [pr8_len]; exact hlt) ∈ pr8 p)
      have HE := Lib.hid (hdrK_succ hx)
      generalize (pr8 p)[k]'(by rw [pr8_len]; exact hlt) = x at *
      have hq : Int.tdiv x 256 = x / 256 := Int.tdiv_eq_ediv_of_nonneg b1
      have hm : Int.tmod x 256 = x % 256 := Int.tmod_eq_emod_of_nonneg b1
      have v1 : IntKind.u8.wrap (x / 256) = x / 256 % 256 := IntKind.wrap_u8 _
      have v2 : IntKind.u8.wrap (x % 256) = x % 256 := by rw [IntKind.wrap_u8]; omega
      have wq : IntKind.i64.wrap (x / 256) = x / 256 := IntWalk.i64_in _ (by omega)
      clear hcs hx
      go_wp2_with (at_builtin; refine append_u8 rfl _ _ rfl (lo := w1.heap.size) (l := hdrK p k) rfl (World.ownsRow.alloc HU.out _) wr.heap.size x rfl (Bk.new_ rfl) (by omega) (by simp; omega) ?_; intro A' c' w4 ho4 hb4)
      have HU4 := Lib.hid ho4
      have HB4 := Lib.hid ((ba HBW.out _).trans hb4)
      clear ho4 hb4
      go_roundw
      case rel => exact ⟨k + 1, A', c', by omega, by go_num, rfl, by rw [HE.out]; exact HU4.out, HB4.out⟩
      case measure => simp [intOf]; omega
    · obtain rfl : k = 8 := by omega
      have hcv : (convert 35 9 (.slice C 16 c)).run Try.prog wr = .ok (.string ⟨(hdrK p 8).toArray⟩) wr := conv_all HU.out (by omega)
      go_wp2_with fail
      go_ret
      exact ⟨by rw [← hdrK_all]; rfl, bt HB1.out HBW.out⟩
end Go.Proofs.Ytbhcmolahohmiaa
