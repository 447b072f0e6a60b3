/- The contracts of the program's headers. -/
import Derived.Test.YtbhcmolahohmiaaHdLaw
import Derived.Test.YtbhcmolahohmiaaGrow
import Derived.Test.YtbhcmolahohmiaaBlk
import Derived.BigRegion
import Derived.BigQuiet
namespace Go.Proofs.Ytbhcmolahohmiaa
open Go.ChangeShapes Go.WideShapes Go.ChangeAt Go.RowKit
set_option linter.unusedVariables false
theorem conv_two (n : Int) (w : World) : (convert 35 9 (.slice (some ⟨w.heap.size, 0, none⟩) 2 2)).run Try.prog (w.alloc (.cells #[.int .u8 (n / 256 % 256), .int .u8 (n % 256)] 5)) = .ok (.string ⟨(hb n).toArray⟩) (w.alloc (.cells #[.int .u8 (n / 256 % 256), .int .u8 (n % 256)] 5)) := by
  refine run_convert_bytes_back _ 35 9 5 ⟨w.heap.size, 0, none⟩ 2 (hb n) Try.underlying35 Try.underlying5 Try.underlying9 fun j hj => ?_
  simp only [hb, List.length_cons, List.length_nil] at hj
  rw [add_plain, Nat.zero_add]
  obtain rfl | rfl : j = 0 ∨ j = 1 := by omega
  · rw [(Bk.new w 5 #[.int .u8 (n / 256 % 256), .int .u8 (n % 256)]).cell 0]
    simp only [hb, List.getElem_cons_zero, hb_0]
    rfl
  · rw [(Bk.new w 5 #[.int .u8 (n / 256 % 256), .int .u8 (n % 256)]).cell 1]
    simp only [hb, List.getElem_cons_succ, List.getElem_cons_zero, hb_1]
    rfl
theorem highBytes_any (n : Int) (w : World) :
    Calls Try.prog 16 #[.int .i64 n] w fun e w' => e = .returned (.string ⟨(hb n).toArray⟩) ∧ Below w.heap.size w w' := by
  have v1 : IntKind.u8.wrap (n / 256) = n / 256 % 256 := IntKind.wrap_u8 _
  have v2 : IntKind.u8.wrap n = n % 256 := IntKind.wrap_u8 _
  have hcv := conv_two n w
  go_enter Try.func16, Try.ntmps16
  go_wp2_with fail
  go_ret
  exact ⟨rfl, (by repeat (first | (with_reducible exact b0 _) | (with_reducible refine ba ?_ _) | (with_reducible refine bd ?_ _) | (with_reducible refine Below.drew ?_) | (with_reducible refine bs ?_ (by first | exact Nat.le_refl _ | exact Nat.le_add_right _ _ | omega) _) | (with_reducible refine bt ?_ (by assumption))))⟩
theorem index_A {s : ByteArray} {i : Nat} (hi : i < s.size) {z : Int} (hz : z = (i : Int)) (w : World) : (Instr.index 9 (.string s) (.int .i64 z)).run Try.prog w = .ok (.int .u8 (btA s i)) w := by
  subst hz
  rw [run_index_string w 9 s .i64 (i : Int) Try.underlying9, dif_pos ⟨by omega, by omega⟩]
  have h := btA_get hi
  simp only [Int.toNat_natCast]
  rw [h]
set_option maxHeartbeats 1000000 in
theorem pairSum_any (s : ByteArray) (hs : s.size = 14) (w : World) :
    Calls Try.prog 17 #[.string s] w fun e w' => e = .returned (.int .i64 (smA s 7 % 65536)) ∧ Below w.heap.size w w' := by
  have HS := Lib.hid hs
  have hsz : (s.size : Int) = 14 := by omega
  clear hs
  go_enter Try.func17, Try.ntmps17
  go_wp2_with fail
  go_loopw [3, 4] (fun v i wr => ∃ (k : Nat) (z y : Int), k ≤ 7 ∧ z = 2 * (k : Int) ∧ y = smA s k ∧ i = .int .i64 z ∧ v = .int .i64 y ∧ Below w.heap.size w wr) (fun _ i _ => 14 - (intOf i).toNat)
  case atStart => exact ⟨0, 0, 0, by omega, rfl, rfl, rfl, rfl, b0 _⟩
  case round =>
    obtain ⟨k, z, y, hk, hz, hy, rfl, rfl, hbw⟩ := hrel
    have hyb := smA_b s k
    rw [← hy] at hyb
    have HY := Lib.hid hy
    have HZ := Lib.hid hz
    clear hy
    by_cases hlt : k < 7
    · have g0 : 0 ≤ z := by omega
      have g1 : z < 14 := by omega
      have g2 : z + 1 < 14 := by omega
      have ix0 := index_A (s := s) (i := 2 * k) (by have := HS.out; omega) (z := z) (by omega)
      have ix1 := index_A (s := s) (i := 2 * k + 1) (by have := HS.out; omega) (z := z + 1) (by omega)
      have ba := btA_b s (2 * k)
      have bb := btA_b s (2 * k + 1)
      have hnm : nmA s k = 256 * btA s (2 * k) + btA s (2 * k + 1) := rfl
      have HSM := Lib.hid (show smA s (k + 1) = y + nmA s k from by rw [HY.out]; rfl)
      clear hz
      generalize btA s (2 * k) = a at *
      generalize btA s (2 * k + 1) = b at *
      have wa : IntKind.i64.wrap a = a := IntWalk.i64_in _ (by omega)
      have wb : IntKind.i64.wrap b = b := IntWalk.i64_in _ (by omega)
      have wc : IntKind.i64.wrap (a * 256) = 256 * a := by rw [show a * 256 = 256 * a by omega]; exact IntWalk.i64_in _ (by omega)
      have wo : bits .or .i64 (256 * a) b = 256 * a + b := i64_or8 a b ba.1 ba.2 bb.1 bb.2
      have ws : IntKind.i64.wrap (y + (256 * a + b)) = y + (256 * a + b) := IntWalk.i64_in _ (by omega)
      have wz : IntKind.i64.wrap (z + 1) = z + 1 := IntWalk.i64_in _ (by omega)
      go_wp2_with fail
      go_quiet (fail)
      go_wp2_with fail
      go_roundw
      case rel => exact ⟨k + 1, z + 2, y + (256 * a + b), by omega, by have := HZ.out; omega, by rw [HSM.out, hnm], rfl, rfl, bd hbw _⟩
      case measure => simp [intOf]; omega
    · obtain rfl : k = 7 := by omega
      have g0 : ¬ z < 14 := by omega
      have wa : bits .and .i64 y 65535 = y % 65536 := i64_and16 y (by omega) (by omega)
      clear hz
      go_wp2_with fail
      go_ret
      exact ⟨by rw [← HY.out]; rfl, hbw⟩
theorem hb_len (n : Int) : (hb n).length = 2 := rfl
/-- The first 14 bytes of a header. -/
def s14 (a b c d e f g : Int) : ByteArray := ((((((⟨(hb a).toArray⟩ ++ ⟨(hb b).toArray⟩ : ByteArray) ++ ⟨(hb c).toArray⟩) ++ ⟨(hb d).toArray⟩) ++ ⟨(hb e).toArray⟩) ++ ⟨(hb f).toArray⟩) ++ ⟨(hb g).toArray⟩)
theorem s14_mk (a b c d e f g : Int) : s14 a b c d e f g = ⟨(hb a ++ hb b ++ hb c ++ hb d ++ hb e ++ hb f ++ hb g).toArray⟩ := by
  simp only [s14, ByteArray.mk_append_mk]
theorem s14_size (a b c d e f g : Int) : (s14 a b c d e f g).size = 14 := by
  rw [s14_mk]
  rfl
theorem s14_sum (a b c d e f g : Int) : smA (s14 a b c d e f g) 7 = a % 65536 + b % 65536 + c % 65536 + d % 65536 + e % 65536 + f % 65536 + g % 65536 := by
  have h : ∀ x : Int, 256 * (x / 256 % 256) + x % 256 = x % 65536 := fun x => by omega
  rw [s14_mk]
  have k : ∀ (x y : Int), (256 * ((UInt8.ofNat (x / 256 % 256).toNat).toNat : Int) + ((UInt8.ofNat (x % 256).toNat).toNat : Int)) = x % 65536 := fun x _ => by rw [hb_0, hb_1]; exact h x
  show 0 + (256 * ((UInt8.ofNat (a / 256 % 256).toNat).toNat : Int) + ((UInt8.ofNat (a % 256).toNat).toNat : Int)) + (256 * ((UInt8.ofNat (b / 256 % 256).toNat).toNat : Int) + ((UInt8.ofNat (b % 256).toNat).toNat : Int)) + (256 * ((UInt8.ofNat (c / 256 % 256).toNat).toNat : Int) + ((UInt8.ofNat (c % 256).toNat).toNat : Int)) + (256 * ((UInt8.ofNat (d / 256 % 256).toNat).toNat : Int) + ((UInt8.ofNat (d % 256).toNat).toNat : Int)) + (256 * ((UInt8.ofNat (e / 256 % 256).toNat).toNat : Int) + ((UInt8.ofNat (e % 256).toNat).toNat : Int)) + (256 * ((UInt8.ofNat (f / 256 % 256).toNat).toNat : Int) + ((UInt8.ofNat (f % 256).toNat).toNat : Int)) + (256 * ((UInt8.ofNat (g / 256 % 256).toNat).toNat : Int) + ((UInt8.ofNat (g % 256).toNat).toNat : Int)) = _
  rw [k a 0, k b 0, k c 0, k d 0, k e 0, k f 0, k g 0]
  omega
theorem hd_join {p : Pk} (hp : p.ok = true) : s14 (p.id / 65536) p.id p.so p.de p.po p.ma p.si ++ ⟨(hb (smA (s14 (p.id / 65536) p.id p.so p.de p.po p.ma p.si) 7 % 65536)).toArray⟩ = (⟨(hdr p).toArray⟩ : ByteArray) := by
  have g := Pk.ok_iff.1 hp
  rw [s14_sum, s14_mk, ByteArray.mk_append_mk]
  have e : (p.id / 65536 % 65536 + p.id % 65536 + p.so % 65536 + p.de % 65536 + p.po % 65536 + p.ma % 65536 + p.si % 65536) % 65536 = prS p := by
    unfold prS
    omega
  rw [e]
  simp [hdr, pr8, prs, hb_mod]
set_option maxHeartbeats 2000000 in
theorem headerOf_any {p : Pk} (hp : p.ok = true) (w : World) :
    Calls Try.prog 11 #[.agg #[.int .i64 (p.id), .int .i64 (p.so), .int .i64 (p.de), .int .i64 (p.po), .int .i64 (p.ma), .int .i64 (p.si)]] w fun e w' => e = .returned (.string ⟨(hdr p).toArray⟩) ∧ Below w.heap.size w w' := by
  have HJ := Lib.hid (hd_join hp)
  have hl := hb_len
  have hz := Lib.hid (s14_size (p.id / 65536) p.id p.so p.de p.po p.ma p.si)
  go_enter Try.func11, Try.ntmps11
  have p0 := fun (u : Gr (w.alloc (.cells #[.int .i64 p.id, .int .i64 p.so, .int .i64 p.de, .int .i64 p.po, .int .i64 p.ma, .int .i64 p.si] 23))) => gr_cell ((Bk.new w 23 #[.int .i64 p.id, .int .i64 p.so, .int .i64 p.de, .int .i64 p.po, .int .i64 p.ma, .int .i64 p.si]).cell 0) u
  have p1 := fun (u : Gr (w.alloc (.cells #[.int .i64 p.id, .int .i64 p.so, .int .i64 p.de, .int .i64 p.po, .int .i64 p.ma, .int .i64 p.si] 23))) => gr_cell ((Bk.new w 23 #[.int .i64 p.id, .int .i64 p.so, .int .i64 p.de, .int .i64 p.po, .int .i64 p.ma, .int .i64 p.si]).cell 1) u
  have p2 := fun (u : Gr (w.alloc (.cells #[.int .i64 p.id, .int .i64 p.so, .int .i64 p.de, .int .i64 p.po, .int .i64 p.ma, .int .i64 p.si] 23))) => gr_cell ((Bk.new w 23 #[.int .i64 p.id, .int .i64 p.so, .int .i64 p.de, .int .i64 p.po, .int .i64 p.ma, .int .i64 p.si]).cell 2) u
  have p3 := fun (u : Gr (w.alloc (.cells #[.int .i64 p.id, .int .i64 p.so, .int .i64 p.de, .int .i64 p.po, .int .i64 p.ma, .int .i64 p.si] 23))) => gr_cell ((Bk.new w 23 #[.int .i64 p.id, .int .i64 p.so, .int .i64 p.de, .int .i64 p.po, .int .i64 p.ma, .int .i64 p.si]).cell 3) u
  have p4 := fun (u : Gr (w.alloc (.cells #[.int .i64 p.id, .int .i64 p.so, .int .i64 p.de, .int .i64 p.po, .int .i64 p.ma, .int .i64 p.si] 23))) => gr_cell ((Bk.new w 23 #[.int .i64 p.id, .int .i64 p.so, .int .i64 p.de, .int .i64 p.po, .int .i64 p.ma, .int .i64 p.si]).cell 4) u
  have p5 := fun (u : Gr (w.alloc (.cells #[.int .i64 p.id, .int .i64 p.so, .int .i64 p.de, .int .i64 p.po, .int .i64 p.ma, .int .i64 p.si] 23))) => gr_cell ((Bk.new w 23 #[.int .i64 p.id, .int .i64 p.so, .int .i64 p.de, .int .i64 p.po, .int .i64 p.ma, .int .i64 p.si]).cell 5) u
  go_wp2_with fail
  refine wp_region_gr (by kernel_rfl) (by kernel_rfl) ?_
  repeat (go_big_quiet_step ((go_at_call 16; (with_reducible exact gr_of (highBytes_any _ _)))))
  refine wpQuiet_nil ?_
  intro _ hw'
  obtain ⟨pq, hw''⟩ := hw'
  subst hw''
  obtain ⟨S, hS⟩ : ∃ S, S = s14 (p.id / 65536) p.id p.so p.de p.po p.ma p.si := ⟨_, rfl⟩
  have hS2 : (((((((⟨(hb (p.id / 65536)).toArray⟩ ++ ⟨(hb p.id).toArray⟩ : ByteArray) ++ ⟨(hb p.so).toArray⟩) ++ ⟨(hb p.de).toArray⟩) ++ ⟨(hb p.po).toArray⟩) ++ ⟨(hb p.ma).toArray⟩) ++ ⟨(hb p.si).toArray⟩) : ByteArray) = S := hS.symm
  rw [hS2]
  have hj := HJ.out
  have hsz := hz.out
  rw [← hS] at hj hsz
  have HJ2 := Lib.hid hj
  clear hS hS2 hj HJ hz
  go_wp2_with fail
  refine (pairSum_any S hsz _).mono ?_
  rintro e w1 ⟨rfl, hb1⟩
  go_wp2_with fail
  refine (highBytes_any _ _).mono ?_
  rintro e w2 ⟨rfl, hb2⟩
  go_wp2_with fail
  go_ret
  exact ⟨by rw [← HJ2.out]; rfl, bt (bt (bt (ba (b0 w) _) pq.h) hb1) hb2⟩
theorem cellN (w : World) (n : Nat) (a : Addr) : (w.drewN n).cell? a = w.cell? a := rfl
theorem str_ne {l : List UInt8} {s : ByteArray} (h : ¬ (⟨l.toArray⟩ : ByteArray) = s) : (l == s.toList) = false := by
  rw [beq_eq_false_iff_ne]
  intro e
  apply h
  rw [e, ByteArray.toList_eq]
/-! ### ReadHeader -/
theorem pair_any {s : ByteArray} (k : Nat) (hk : k < 8) (hs : s.size = 16) {z : Int} (hz : z = 2 * (k : Int)) (B : Nat) (w : World) (hB : w.cell? ⟨B, 0, none⟩ = some (.string s)) :
    Calls Try.prog 9 #[.int .i64 z, .pointer (some ⟨B, 0, none⟩)] w fun e w' => e = .returned (.int .i64 (nmA s k)) ∧ ∃ n, w' = w.drewN n := by
  have hsz : (s.size : Int) = 16 := by omega
  have ix0 := index_A (s := s) (i := 2 * k) (by omega) (z := z) (by omega)
  have ix1 := index_A (s := s) (i := 2 * k + 1) (by omega) (z := z + 1) (by omega)
  have g0 : z + 1 < 16 := by omega
  have g1 : 0 ≤ z := by omega
  have ba := btA_b s (2 * k)
  have bb := btA_b s (2 * k + 1)
  have HN := Lib.hid (show nmA s k = 256 * btA s (2 * k) + btA s (2 * k + 1) from rfl)
  generalize btA s (2 * k) = a at *
  generalize btA s (2 * k + 1) = b at *
  have wa : IntKind.i64.wrap a = a := IntWalk.i64_in _ (by omega)
  have wb : IntKind.i64.wrap b = b := IntWalk.i64_in _ (by omega)
  have wc : IntKind.i64.wrap (a * 256) = 256 * a := by rw [show a * 256 = 256 * a by omega]; exact IntWalk.i64_in _ (by omega)
  have wo : bits .or .i64 (256 * a) b = 256 * a + b := i64_or8 a b ba.1 ba.2 bb.1 bb.2
  have wz : IntKind.i64.wrap (z + 1) = z + 1 := IntWalk.i64_in _ (by omega)
  have hBs := World.block_lt_of_cell? w _ hB
  clear hz
  go_enter Try.func9, Try.ntmps9
  go_wp2_with fail
  go_quiet (fail)
  go_wp2_with fail
  go_ret
  exact ⟨by rw [HN.out]; rfl, _, rfl⟩
def RhP (w : World) (s : ByteArray) (e : Ending) (w' : World) : Prop := e = .returned (.tuple #[.agg #[.int .i64 (rhP s).id, .int .i64 (rhP s).so, .int .i64 (rhP s).de, .int .i64 (rhP s).po, .int .i64 (rhP s).ma, .int .i64 (rhP s).si], .bool (rhOk s)]) ∧ Below w.heap.size w w'
theorem RhP_no {w w' : World} {s : ByteArray} {e : Ending} (h : rhOk s = false) (he : e = .returned (.tuple #[.agg #[.int .i64 0, .int .i64 0, .int .i64 0, .int .i64 0, .int .i64 0, .int .i64 0], .bool false])) (hb : Below w.heap.size w w') : RhP w s e w' := ⟨by rw [he, rh_no h, h], hb⟩
theorem RhP_yes {w w' : World} {s : ByteArray} {e : Ending} (h : rhOk s = true) (he : e = .returned (.tuple #[.agg #[.int .i64 (pOf s).id, .int .i64 (pOf s).so, .int .i64 (pOf s).de, .int .i64 (pOf s).po, .int .i64 (pOf s).ma, .int .i64 (pOf s).si], .bool true])) (hb : Below w.heap.size w w') : RhP w s e w' := ⟨by rw [he, rh_yes h, h], hb⟩
set_option maxHeartbeats 2000000 in
theorem implReadHeader_any (s : ByteArray) (w : World) : Calls Try.prog 5 #[.string s] w (RhP w s) := by
  by_cases hs : s.size = 16
  rotate_left
  · have h0 : rhOk s = false := by simp [rhOk, hs]
    have HN := Lib.hid h0
    have hne : ((s.size : Int) != 16) = true := by rw [bne_iff_ne]; omega
    clear h0 hs
    go_enter Try.func5, Try.ntmps5
    go_wp2_with fail
    exact bodyPost_ret (v := .tuple #[.agg #[.int .i64 0, .int .i64 0, .int .i64 0, .int .i64 0, .int .i64 0, .int .i64 0], .bool false]) (by simp [results, Try.results5, go_sem]) rfl (RhP_no HN.out rfl (by repeat (first | (with_reducible exact b0 _) | (with_reducible refine ba ?_ _) | (with_reducible refine bd ?_ _) | (with_reducible refine Below.drew ?_) | (with_reducible refine bs ?_ (by first | exact Nat.le_refl _ | exact Nat.le_add_right _ _ | omega) _) | (with_reducible refine bt ?_ (by assumption)))))
  have hsz : (s.size : Int) = 16 := by omega
  have hB : (((w.alloc (.cells #[.string s] 9)).alloc (.cells #[.int .i64 0, .int .i64 0, .int .i64 0, .int .i64 0, .int .i64 0, .int .i64 0] 23))).cell? ⟨w.heap.size, 0, none⟩ = some (.string s) := ((Bk.new w 9 #[.string s]).alloc _).cell 0
  have g0 := nmA_b s 0
  have g1 := nmA_b s 1
  have wc : IntKind.i64.wrap (nmA s 0 * 65536) = 65536 * nmA s 0 := by rw [show nmA s 0 * 65536 = 65536 * nmA s 0 by omega]; exact IntWalk.i64_in _ (by omega)
  obtain ⟨p, hpo⟩ : ∃ p, p = pOf s := ⟨_, rfl⟩
  have wo : bits .or .i64 (65536 * nmA s 0) (nmA s 1) = p.id := by rw [hpo]; exact i64_or16 _ _ g0.1 (by omega) g1.1 (by omega)
  have E2 : nmA s 2 = p.so := by rw [hpo]; rfl
  have E3 : nmA s 3 = p.de := by rw [hpo]; rfl
  have E4 : nmA s 4 = p.po := by rw [hpo]; rfl
  have E5 : nmA s 5 = p.ma := by rw [hpo]; rfl
  have E6 : nmA s 6 = p.si := by rw [hpo]; rfl
  have HPO := Lib.hid hpo
  have HS := Lib.hid hs
  clear hpo
  go_enter Try.func5, Try.ntmps5
  go_wp2_with (go_at_call 9; (first | (refine (pair_any 0 (by omega) hs (by decide) _ _ (by first | exact hB | (simp only [cellN]; exact hB))).mono ?_; rintro e w' ⟨rfl, n0, rfl⟩) | (refine (pair_any 1 (by omega) hs (by decide) _ _ (by first | exact hB | (simp only [cellN]; exact hB))).mono ?_; rintro e w' ⟨rfl, n1, rfl⟩) | (refine (pair_any 2 (by omega) hs (by decide) _ _ (by first | exact hB | (simp only [cellN]; exact hB))).mono ?_; rintro e w' ⟨rfl, n2, rfl⟩; rw [E2]) | (refine (pair_any 3 (by omega) hs (by decide) _ _ (by first | exact hB | (simp only [cellN]; exact hB))).mono ?_; rintro e w' ⟨rfl, n3, rfl⟩; rw [E3]) | (refine (pair_any 4 (by omega) hs (by decide) _ _ (by first | exact hB | (simp only [cellN]; exact hB))).mono ?_; rintro e w' ⟨rfl, n4, rfl⟩; rw [E4]) | (refine (pair_any 5 (by omega) hs (by decide) _ _ (by first | exact hB | (simp only [cellN]; exact hB))).mono ?_; rintro e w' ⟨rfl, n5, rfl⟩; rw [E5]) | (refine (pair_any 6 (by omega) hs (by decide) _ _ (by first | exact hB | (simp only [cellN]; exact hB))).mono ?_; rintro e w' ⟨rfl, n6, rfl⟩; rw [E6])))
  obtain ⟨W, hW⟩ : ∃ W, W = (((w.alloc (.cells #[.string s] 9)).alloc (.cells #[.int .i64 0, .int .i64 0, .int .i64 0, .int .i64 0, .int .i64 0, .int .i64 0] 23))).drewN (n0 + n1 + n2 + n3 + n4 + n5 + n6) := ⟨_, rfl⟩
  rw [← hW]
  have zW : W.heap.size = w.heap.size + 1 + 1 := by rw [hW]; simp
  have B0 := Lib.hid (show Bk W w.heap.size 9 #[.string s] from by rw [hW]; exact (Bk.new w _ _).alloc _)
  have B1 := Lib.hid (show Bk W (w.heap.size + 1) 23 #[.int .i64 0, .int .i64 0, .int .i64 0, .int .i64 0, .int .i64 0, .int .i64 0] from by rw [hW]; exact Bk.new_ (by simp))
  have HBW := Lib.hid (show Below w.heap.size w W from by rw [hW]; exact bd (ba (ba (b0 w) _) _) _)
  clear hW hB g0 g1 wc wo E2 E3 E4 E5 E6
  obtain ⟨V, hV⟩ : ∃ V, V = W.alloc (.cells #[.int .i64 p.id, .int .i64 p.so, .int .i64 p.de, .int .i64 p.po, .int .i64 p.ma, .int .i64 p.si] 23) := ⟨_, rfl⟩
  rw [← hV]
  have C0 := Lib.hid (show Bk V w.heap.size 9 #[.string s] from by rw [hV]; exact B0.out.alloc _)
  have C1 := Lib.hid (show Bk V (w.heap.size + 1) 23 #[.int .i64 0, .int .i64 0, .int .i64 0, .int .i64 0, .int .i64 0, .int .i64 0] from by rw [hV]; exact B1.out.alloc _)
  have C2 := Lib.hid (show Bk V (w.heap.size + 1 + 1) 23 #[.int .i64 p.id, .int .i64 p.so, .int .i64 p.de, .int .i64 p.po, .int .i64 p.ma, .int .i64 p.si] from by rw [hV]; exact Bk.new_ zW)
  have HBV := Lib.hid (show Below w.heap.size w V from by rw [hV]; exact ba HBW.out _)
  have zV : V.heap.size = w.heap.size + 1 + 1 + 1 := by rw [hV]; simp [zW]
  clear hV zW B0 B1 HBW
  have q0 := fun (u : Gr V) => gr_cell (C0.out.cell 0) u
  have p0 := fun (u : Gr V) => gr_cell (C2.out.cell 0) u
  have p1 := fun (u : Gr V) => gr_cell (C2.out.cell 1) u
  have p2 := fun (u : Gr V) => gr_cell (C2.out.cell 2) u
  have p3 := fun (u : Gr V) => gr_cell (C2.out.cell 3) u
  have p4 := fun (u : Gr V) => gr_cell (C2.out.cell 4) u
  have p5 := fun (u : Gr V) => gr_cell (C2.out.cell 5) u
  rcases hp : p.ok with _ | _
  · have h0 : rhOk s = false := by unfold rhOk; rw [← HPO.out, hp, Bool.and_false, Bool.false_and]
    have HN := Lib.hid h0
    clear h0
    refine wp_region_gr (by kernel_rfl) (by kernel_rfl) ?_
    repeat (go_big_quiet_step ((go_at_call 10; (with_reducible exact gr_of (isPacket_b hp _)))))
    refine wpQuiet_nil ?_
    intro _ hw'
    obtain ⟨pq, hw''⟩ := hw'
    subst hw''
    have r : Bk pq.v (w.heap.size + 1) 23 #[.int .i64 0, .int .i64 0, .int .i64 0, .int .i64 0, .int .i64 0, .int .i64 0] := C1.out.old pq.h
    have zr : w.heap.size + 1 < pq.v.heap.size := r.lt
    have r_0 : pq.v.cell? ⟨w.heap.size + 1, 0, none⟩ = some (.int .i64 0) := r.cell 0
    have r_1 : pq.v.cell? ⟨w.heap.size + 1, 1, none⟩ = some (.int .i64 0) := r.cell 1
    have r_2 : pq.v.cell? ⟨w.heap.size + 1, 2, none⟩ = some (.int .i64 0) := r.cell 2
    have r_3 : pq.v.cell? ⟨w.heap.size + 1, 3, none⟩ = some (.int .i64 0) := r.cell 3
    have r_4 : pq.v.cell? ⟨w.heap.size + 1, 4, none⟩ = some (.int .i64 0) := r.cell 4
    have r_5 : pq.v.cell? ⟨w.heap.size + 1, 5, none⟩ = some (.int .i64 0) := r.cell 5
    have rf := r.free
    have Hr := Lib.hid r
    clear r
    have zq := pq.h.size
    go_wp2_with fail
    exact bodyPost_ret (v := .tuple #[.agg #[.int .i64 0, .int .i64 0, .int .i64 0, .int .i64 0, .int .i64 0, .int .i64 0], .bool false]) (by simp [results, Try.results5, go_sem, r_0, r_1, r_2, r_3, r_4, r_5]) rfl (RhP_no HN.out rfl (by repeat (first | (with_reducible exact (bt HBV.out pq.h)) | (with_reducible refine ba ?_ _) | (with_reducible refine bsB ?_ (by omega)) | (with_reducible refine bd ?_ _) | (with_reducible refine Below.drew ?_))))
  by_cases hh : (⟨(hdr p).toArray⟩ : ByteArray) = s
  · have h0 : rhOk s = true := by unfold rhOk; rw [← HPO.out, hp, decide_eq_true HS.out, decide_eq_true hh]; rfl
    have HN := Lib.hid h0
    clear h0
    refine wp_region_gr (by kernel_rfl) (by kernel_rfl) ?_
    repeat (go_big_quiet_step ((first | (go_at_call 10; (with_reducible exact gr_of (isPacket_b hp _))) | (go_at_call 11; (with_reducible exact gr_of (headerOf_any hp _))))))
    refine wpQuiet_nil ?_
    intro _ hw'
    obtain ⟨pq, hw''⟩ := hw'
    subst hw''
    have r : Bk pq.v (w.heap.size + 1) 23 #[.int .i64 0, .int .i64 0, .int .i64 0, .int .i64 0, .int .i64 0, .int .i64 0] := C1.out.old pq.h
    have zr : w.heap.size + 1 < pq.v.heap.size := r.lt
    have r_0 : pq.v.cell? ⟨w.heap.size + 1, 0, none⟩ = some (.int .i64 0) := r.cell 0
    have r_1 : pq.v.cell? ⟨w.heap.size + 1, 1, none⟩ = some (.int .i64 0) := r.cell 1
    have r_2 : pq.v.cell? ⟨w.heap.size + 1, 2, none⟩ = some (.int .i64 0) := r.cell 2
    have r_3 : pq.v.cell? ⟨w.heap.size + 1, 3, none⟩ = some (.int .i64 0) := r.cell 3
    have r_4 : pq.v.cell? ⟨w.heap.size + 1, 4, none⟩ = some (.int .i64 0) := r.cell 4
    have r_5 : pq.v.cell? ⟨w.heap.size + 1, 5, none⟩ = some (.int .i64 0) := r.cell 5
    have rf := r.free
    have Hr := Lib.hid r
    clear r
    have b : Bk pq.v (w.heap.size + 1 + 1) 23 #[.int .i64 p.id, .int .i64 p.so, .int .i64 p.de, .int .i64 p.po, .int .i64 p.ma, .int .i64 p.si] := C2.out.old pq.h
    have zb : w.heap.size + 1 + 1 < pq.v.heap.size := b.lt
    have b_0 : pq.v.cell? ⟨w.heap.size + 1 + 1, 0, none⟩ = some (.int .i64 p.id) := b.cell 0
    have b_1 : pq.v.cell? ⟨w.heap.size + 1 + 1, 1, none⟩ = some (.int .i64 p.so) := b.cell 1
    have b_2 : pq.v.cell? ⟨w.heap.size + 1 + 1, 2, none⟩ = some (.int .i64 p.de) := b.cell 2
    have b_3 : pq.v.cell? ⟨w.heap.size + 1 + 1, 3, none⟩ = some (.int .i64 p.po) := b.cell 3
    have b_4 : pq.v.cell? ⟨w.heap.size + 1 + 1, 4, none⟩ = some (.int .i64 p.ma) := b.cell 4
    have b_5 : pq.v.cell? ⟨w.heap.size + 1 + 1, 5, none⟩ = some (.int .i64 p.si) := b.cell 5
    have bf := b.free
    have Hb := Lib.hid b
    clear b
    have zq := pq.h.size
    go_wp2_with fail
    exact bodyPost_ret (v := .tuple #[.agg #[.int .i64 (p.id), .int .i64 (p.so), .int .i64 (p.de), .int .i64 (p.po), .int .i64 (p.ma), .int .i64 (p.si)], .bool true]) (by simp [results, Try.results5, go_sem, r_0, r_1, r_2, r_3, r_4, r_5]) rfl (RhP_yes HN.out (by rw [← HPO.out]) (by repeat (first | (with_reducible exact (bt HBV.out pq.h)) | (with_reducible refine ba ?_ _) | (with_reducible refine bsB ?_ (by omega)) | (with_reducible refine bd ?_ _) | (with_reducible refine Below.drew ?_))))
  · have hne := str_ne hh
    have h0 : rhOk s = false := by unfold rhOk; rw [← HPO.out, decide_eq_false hh, Bool.and_false]
    have HN := Lib.hid h0
    clear h0
    refine wp_region_gr (by kernel_rfl) (by kernel_rfl) ?_
    repeat (go_big_quiet_step ((first | (go_at_call 10; (with_reducible exact gr_of (isPacket_b hp _))) | (go_at_call 11; (with_reducible exact gr_of (headerOf_any hp _))))))
    refine wpQuiet_nil ?_
    intro _ hw'
    obtain ⟨pq, hw''⟩ := hw'
    subst hw''
    have r : Bk pq.v (w.heap.size + 1) 23 #[.int .i64 0, .int .i64 0, .int .i64 0, .int .i64 0, .int .i64 0, .int .i64 0] := C1.out.old pq.h
    have zr : w.heap.size + 1 < pq.v.heap.size := r.lt
    have r_0 : pq.v.cell? ⟨w.heap.size + 1, 0, none⟩ = some (.int .i64 0) := r.cell 0
    have r_1 : pq.v.cell? ⟨w.heap.size + 1, 1, none⟩ = some (.int .i64 0) := r.cell 1
    have r_2 : pq.v.cell? ⟨w.heap.size + 1, 2, none⟩ = some (.int .i64 0) := r.cell 2
    have r_3 : pq.v.cell? ⟨w.heap.size + 1, 3, none⟩ = some (.int .i64 0) := r.cell 3
    have r_4 : pq.v.cell? ⟨w.heap.size + 1, 4, none⟩ = some (.int .i64 0) := r.cell 4
    have r_5 : pq.v.cell? ⟨w.heap.size + 1, 5, none⟩ = some (.int .i64 0) := r.cell 5
    have rf := r.free
    have Hr := Lib.hid r
    clear r
    have zq := pq.h.size
    go_wp2_with fail
    exact bodyPost_ret (v := .tuple #[.agg #[.int .i64 0, .int .i64 0, .int .i64 0, .int .i64 0, .int .i64 0, .int .i64 0], .bool false]) (by simp [results, Try.results5, go_sem, r_0, r_1, r_2, r_3, r_4, r_5]) rfl (RhP_no HN.out rfl (by repeat (first | (with_reducible exact (bt HBV.out pq.h)) | (with_reducible refine ba ?_ _) | (with_reducible refine bsB ?_ (by omega)) | (with_reducible refine bd ?_ _) | (with_reducible refine Below.drew ?_))))
end Go.Proofs.Ytbhcmolahohmiaa
