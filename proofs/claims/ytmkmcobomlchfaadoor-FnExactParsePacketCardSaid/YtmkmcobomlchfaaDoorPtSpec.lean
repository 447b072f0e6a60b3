/- The contracts of the reference's texts of numbers and packets. -/
import Derived.Test.YtmkmcobomlchfaaDoorPackets
import Derived.Test.YtmkmcobomlchfaaDoorGrow
import Derived.Test.YtmkmcobomlchfaaDoorBlk
import Derived.Laws.IdiomStrings
import Derived.Laws.Concat
import Derived.Lib.ItoaNum
import Derived.Lib.Join
import Derived.Deep.RegionHeld3
import Derived.BigRegion
namespace Go.Proofs.YtmkmcobomlchfaaDoor
open Go.ChangeShapes Go.WideShapes Go.ChangeAt Go.RowKit
set_option linter.unusedVariables false
theorem u8_d (d : Nat) (hd : d < 10) : ((UInt8.ofNat (48 + d)).toNat : Int) = 48 + (d : Int) := by
  have : 48 + d < 256 := by omega
  simp [Nat.mod_eq_of_lt this]
theorem conv_one (c : UInt8) (x : Int) (hx : (c.toNat : Int) = x) (g : Nat) (W : World) (h : W.cell? ⟨g, 0, none⟩ = some (.int .u8 x)) : (convert 52 9 (.slice (some ⟨g, 0, none⟩) 1 1)).run Tryd.prog W = .ok (.string ⟨#[c]⟩) W := by
  refine run_convert_bytes_back W 52 9 5 ⟨g, 0, none⟩ 1 [c] Tryd.underlying52 Tryd.underlying5 Tryd.underlying9 fun j hj => ?_
  simp only [List.length_cons, List.length_nil] at hj
  obtain rfl : j = 0 := by omega
  rw [add_plain, Nat.zero_add, h]
  simp only [List.getElem_cons_zero, hx]
theorem dd_len : ∀ (k u : Nat), u < 10 ^ k → (Lib.decDigits u).length ≤ k + 1 := fun k => by
  induction k with
  | zero => intro u h; rw [Lib.decDigits, dif_pos (by omega)]; simp
  | succ k ih =>
    intro u h
    by_cases h0 : u < 10
    · rw [Lib.decDigits, dif_pos h0]; simp
    · rw [Lib.decDigits, dif_neg h0, List.length_append]
      have := ih (u / 10) (by rw [Nat.pow_succ] at h; omega)
      simp
      omega
set_option maxRecDepth 100000 in
set_option maxHeartbeats 2000000 in
theorem l1Num_any : ∀ (u : Nat), u < 10000000 → ∀ (w : World), Calls Tryd.prog 20 #[.int .i64 (u : Int)] w fun e w' => e = .returned (.string ⟨(Lib.decDigits u).toArray⟩) ∧ Below w.heap.size w w' := by
  intro u
  induction u using Nat.strongRecOn with
  | _ u ih =>
    intro hu w
    by_cases h0 : u < 10
    · have hc0 := u8_d u h0
      obtain ⟨c, hc⟩ : ∃ c, c = UInt8.ofNat (48 + u) := ⟨_, rfl⟩
      have HE := Lib.hid (show Lib.decDigits u = [c] from by rw [Lib.decDigits, dif_pos h0, hc])
      rw [← hc] at hc0
      clear hc
      have w1 : IntKind.u8.wrap (48 + (u : Int)) = 48 + (u : Int) := by rw [IntKind.wrap_u8]; omega
      have hcv := conv_one c _ hc0 w.heap.size (w.alloc (.cells #[.int .u8 (48 + (u : Int))] 5)) ((Bk.new w _ _).cell 0)
      have h1 : (u : Int) < 10 := by omega
      clear ih hc0
      go_enter Tryd.func20, Tryd.ntmps20
      go_wp2_with fail
      go_ret
      exact ⟨by rw [HE.out]; rfl, (by repeat (first | (with_reducible exact b0 _) | (with_reducible refine ba ?_ _) | (with_reducible refine bd ?_ _) | (with_reducible refine Below.drew ?_) | (with_reducible refine bs ?_ (by first | exact Nat.le_refl _ | exact Nat.le_add_right _ _ | omega) _) | (with_reducible refine bt ?_ (by assumption))))⟩
    · have hc0 := u8_d (u % 10) (by omega)
      obtain ⟨c, hc⟩ : ∃ c, c = UInt8.ofNat (48 + u % 10) := ⟨_, rfl⟩
      have HE := Lib.hid (show Lib.decDigits u = Lib.decDigits (u / 10) ++ [c] from by rw [Lib.decDigits, dif_neg h0, hc])
      rw [← hc] at hc0
      clear hc
      have hv : u / 10 ≤ 1000000 := by omega
      have hd : u % 10 < 10 := by omega
      have HI := Lib.hid (ih (u / 10) (by omega) (by omega))
      have HL := Lib.hid (dd_len 7 (u / 10) (by omega))
      have h1 : ¬ (u : Int) < 10 := by omega
      have hq : Int.tdiv (u : Int) 10 = ((u / 10 : Nat) : Int) := by rw [Int.tdiv_eq_ediv_of_nonneg (by omega)]; omega
      have hm : Int.tmod (u : Int) 10 = ((u % 10 : Nat) : Int) := by rw [Int.tmod_eq_emod_of_nonneg (by omega)]; omega
      have x1 : IntKind.u8.wrap (48 + ((u % 10 : Nat) : Int)) = 48 + ((u % 10 : Nat) : Int) := by rw [IntKind.wrap_u8]; omega
      have hcv := conv_one c _ hc0
      generalize u / 10 = v at *
      generalize u % 10 = d at *
      have x2 : IntKind.i64.wrap (v : Int) = (v : Int) := IntWalk.i64_in _ (by omega)
      have x3 : IntKind.i64.wrap (48 + (d : Int)) = 48 + (d : Int) := IntWalk.i64_in _ (by omega)
      obtain ⟨lv, hlv⟩ : ∃ n, (Lib.decDigits v).length = n := ⟨_, rfl⟩
      have hlb : lv ≤ 8 := by have := HL.out; omega
      have hno : ¬ 9223372036854775807 < lv + 1 := by omega
      have hs : (⟨(Lib.decDigits v).toArray⟩ ++ ⟨#[c]⟩ : ByteArray) = ⟨(Lib.decDigits v ++ [c]).toArray⟩ := ByteArray.mk_append_mk _ [c]
      have HS := Lib.hid hs
      clear hs
      clear ih hc0
      go_enter Tryd.func20, Tryd.ntmps20
      go_wp2_with fail
      go_region_with ((go_at_call 20; refine (HI.out _).mono ?_; rintro e w1 ⟨rfl, hb1⟩; (try (have rk := fun o => bkeep hb1 w.heap.size o (by first | omega | (simp; done) | (simp; omega))))))
      all_goals
        go_wp2_with fail
        go_ret
        exact ⟨by rw [HE.out, ← HS.out]; rfl, (by repeat (first | (with_reducible exact b0 _) | (with_reducible refine ba ?_ _) | (with_reducible refine bd ?_ _) | (with_reducible refine Below.drew ?_) | (with_reducible refine bsB ?_ (by first | exact Nat.le_refl _ | exact Nat.le_add_right _ _ | omega)) | (with_reducible refine bt ?_ (by assumption))))⟩
/-- A packet's text. -/
def ptx (p : Pk) : List UInt8 := Lib.join ([p.id, p.so, p.de, p.po, p.ma, p.si].map Lib.itoa) [32]
theorem itoa_nat (u : Nat) : Lib.itoa (u : Int) = Lib.decDigits u := by
  unfold Lib.itoa
  rw [if_neg (by omega), Int.toNat_natCast]
theorem l1Num_v {n : Int} (h0 : 0 ≤ n) (h1 : n < 10000000) (w : World) : Calls Tryd.prog 20 #[.int .i64 n] w fun e w' => e = .returned (.string ⟨(Lib.itoa n).toArray⟩) ∧ Below w.heap.size w w' := by
  obtain ⟨u, rfl⟩ : ∃ u : Nat, n = (u : Int) := ⟨n.toNat, by omega⟩
  rw [itoa_nat]
  exact l1Num_any u (by omega) w
theorem itoa_len {n : Int} (h0 : 0 ≤ n) (h1 : n < 10000000) : (Lib.itoa n).length ≤ 8 := by
  obtain ⟨u, rfl⟩ : ∃ u : Nat, n = (u : Int) := ⟨n.toNat, by omega⟩
  rw [itoa_nat]
  exact dd_len 7 u (by omega)
theorem ptx_eq (p : Pk) : ((((((((((⟨(Lib.itoa p.id).toArray⟩ ++ ⟨#[32]⟩ : ByteArray) ++ ⟨(Lib.itoa p.so).toArray⟩) ++ ⟨#[32]⟩) ++ ⟨(Lib.itoa p.de).toArray⟩) ++ ⟨#[32]⟩) ++ ⟨(Lib.itoa p.po).toArray⟩) ++ ⟨#[32]⟩) ++ ⟨(Lib.itoa p.ma).toArray⟩) ++ ⟨#[32]⟩) ++ ⟨(Lib.itoa p.si).toArray⟩ : ByteArray) = ⟨(ptx p).toArray⟩ := by
  have e : (⟨#[32]⟩ : ByteArray) = ⟨[(32 : UInt8)].toArray⟩ := rfl
  rw [e]
  simp only [ByteArray.mk_append_mk]
  simp [ptx, Lib.join, List.intercalate, List.intersperse]
set_option maxRecDepth 100000 in
set_option maxHeartbeats 2000000 in
theorem pkText_any {p : Pk} (hp : p.ok = true) (w : World) :
    Calls Tryd.prog 12 #[.agg #[.int .i64 (p.id), .int .i64 (p.so), .int .i64 (p.de), .int .i64 (p.po), .int .i64 (p.ma), .int .i64 (p.si)]] w fun e w' => e = .returned (.string ⟨(ptx p).toArray⟩) ∧ Below w.heap.size w w' := by
  have HE := Lib.hid (ptx_eq p)
  have g := Pk.ok_iff.1 hp
  obtain ⟨l0, k0⟩ : ∃ n, (Lib.itoa p.id).length = n := ⟨_, rfl⟩
  obtain ⟨l1, k1⟩ : ∃ n, (Lib.itoa p.so).length = n := ⟨_, rfl⟩
  obtain ⟨l2, k2⟩ : ∃ n, (Lib.itoa p.de).length = n := ⟨_, rfl⟩
  obtain ⟨l3, k3⟩ : ∃ n, (Lib.itoa p.po).length = n := ⟨_, rfl⟩
  obtain ⟨l4, k4⟩ : ∃ n, (Lib.itoa p.ma).length = n := ⟨_, rfl⟩
  obtain ⟨l5, k5⟩ : ∃ n, (Lib.itoa p.si).length = n := ⟨_, rfl⟩
  have j0 : l0 ≤ 8 := k0 ▸ itoa_len (by omega) (by omega)
  have j1 : l1 ≤ 8 := k1 ▸ itoa_len (by omega) (by omega)
  have j2 : l2 ≤ 8 := k2 ▸ itoa_len (by omega) (by omega)
  have j3 : l3 ≤ 8 := k3 ▸ itoa_len (by omega) (by omega)
  have j4 : l4 ≤ 8 := k4 ▸ itoa_len (by omega) (by omega)
  have j5 : l5 ≤ 8 := k5 ▸ itoa_len (by omega) (by omega)
  have n0 : ¬ 9223372036854775807 < l0 + 1 := by omega
  have n1 : ¬ 9223372036854775807 < l0 + 1 + l1 := by omega
  have n2 : ¬ 9223372036854775807 < l0 + 1 + l1 + 1 := by omega
  have n3 : ¬ 9223372036854775807 < l0 + 1 + l1 + 1 + l2 := by omega
  have n4 : ¬ 9223372036854775807 < l0 + 1 + l1 + 1 + l2 + 1 := by omega
  have n5 : ¬ 9223372036854775807 < l0 + 1 + l1 + 1 + l2 + 1 + l3 := by omega
  have n6 : ¬ 9223372036854775807 < l0 + 1 + l1 + 1 + l2 + 1 + l3 + 1 := by omega
  have n7 : ¬ 9223372036854775807 < l0 + 1 + l1 + 1 + l2 + 1 + l3 + 1 + l4 := by omega
  have n8 : ¬ 9223372036854775807 < l0 + 1 + l1 + 1 + l2 + 1 + l3 + 1 + l4 + 1 := by omega
  have n9 : ¬ 9223372036854775807 < l0 + 1 + l1 + 1 + l2 + 1 + l3 + 1 + l4 + 1 + l5 := by omega
  have HN := Lib.hid g
  clear g
  go_enter Tryd.func12, Tryd.ntmps12
  have p0 := fun (u : Gr (w.alloc (.cells #[.int .i64 p.id, .int .i64 p.so, .int .i64 p.de, .int .i64 p.po, .int .i64 p.ma, .int .i64 p.si] 26))) => gr_cell ((Bk.new w 26 #[.int .i64 p.id, .int .i64 p.so, .int .i64 p.de, .int .i64 p.po, .int .i64 p.ma, .int .i64 p.si]).cell 0) u
  have p1 := fun (u : Gr (w.alloc (.cells #[.int .i64 p.id, .int .i64 p.so, .int .i64 p.de, .int .i64 p.po, .int .i64 p.ma, .int .i64 p.si] 26))) => gr_cell ((Bk.new w 26 #[.int .i64 p.id, .int .i64 p.so, .int .i64 p.de, .int .i64 p.po, .int .i64 p.ma, .int .i64 p.si]).cell 1) u
  have p2 := fun (u : Gr (w.alloc (.cells #[.int .i64 p.id, .int .i64 p.so, .int .i64 p.de, .int .i64 p.po, .int .i64 p.ma, .int .i64 p.si] 26))) => gr_cell ((Bk.new w 26 #[.int .i64 p.id, .int .i64 p.so, .int .i64 p.de, .int .i64 p.po, .int .i64 p.ma, .int .i64 p.si]).cell 2) u
  have p3 := fun (u : Gr (w.alloc (.cells #[.int .i64 p.id, .int .i64 p.so, .int .i64 p.de, .int .i64 p.po, .int .i64 p.ma, .int .i64 p.si] 26))) => gr_cell ((Bk.new w 26 #[.int .i64 p.id, .int .i64 p.so, .int .i64 p.de, .int .i64 p.po, .int .i64 p.ma, .int .i64 p.si]).cell 3) u
  have p4 := fun (u : Gr (w.alloc (.cells #[.int .i64 p.id, .int .i64 p.so, .int .i64 p.de, .int .i64 p.po, .int .i64 p.ma, .int .i64 p.si] 26))) => gr_cell ((Bk.new w 26 #[.int .i64 p.id, .int .i64 p.so, .int .i64 p.de, .int .i64 p.po, .int .i64 p.ma, .int .i64 p.si]).cell 4) u
  have p5 := fun (u : Gr (w.alloc (.cells #[.int .i64 p.id, .int .i64 p.so, .int .i64 p.de, .int .i64 p.po, .int .i64 p.ma, .int .i64 p.si] 26))) => gr_cell ((Bk.new w 26 #[.int .i64 p.id, .int .i64 p.so, .int .i64 p.de, .int .i64 p.po, .int .i64 p.ma, .int .i64 p.si]).cell 5) u
  go_wp2_with fail
  refine wp_region_gr (by kernel_rfl) (by kernel_rfl) ?_
  repeat (go_big_quiet_step ((go_at_call 20; (with_reducible exact gr_of (l1Num_v (by have := HN.out; omega) (by have := HN.out; omega) _)))))
  refine wpQuiet_nil ?_
  intro _ hw'
  obtain ⟨pq, hw''⟩ := hw'
  subst hw''
  go_wp2_with fail
  go_ret
  exact ⟨by rw [← HE.out]; rfl, bt (ba (b0 w) _) pq.h⟩
def PtR (w : World) (p : Pk) (e : Ending) (w' : World) : Prop := e = .returned (.tuple #[.string (if p.ok then ⟨(ptx p).toArray⟩ else ⟨#[]⟩), .bool p.ok]) ∧ Below w.heap.size w w'
theorem specPacketText_any (p : Pk) (w : World) : Calls Tryd.prog 5 #[.agg #[.int .i64 (p.id), .int .i64 (p.so), .int .i64 (p.de), .int .i64 (p.po), .int .i64 (p.ma), .int .i64 (p.si)]] w (PtR w p) := by
  unfold PtR
  rcases hp : p.ok with _ | _
  · go_enter Tryd.func5, Tryd.ntmps5
    go_wp2_with fail
    refine (pkGood_b hp _).mono ?_
    rintro e w1 ⟨rfl, hb1⟩
    go_wp2_with fail
    go_ret2
    exact ⟨rfl, bt (ba (b0 w) _) hb1⟩
  · go_enter Tryd.func5, Tryd.ntmps5
    go_wp2_with fail
    refine (pkGood_b hp _).mono ?_
    rintro e w1 ⟨rfl, hb1⟩
    have zhb1 := hb1.size; (try simp at zhb1); have c0hb1 := fun o => bkeep hb1 (w.heap.size) o (by first | omega | (simp; done) | (simp; omega)); have f0hb1 := fun o => bfree hb1 (w.heap.size) o (by first | omega | (simp; done) | (simp; omega))
    go_wp2_with fail
    refine (pkText_any hp _).mono ?_
    rintro e w2 ⟨rfl, hb2⟩
    go_wp2_with fail
    go_ret2
    exact ⟨rfl, bt (bt (ba (b0 w) _) hb1) hb2⟩
end Go.Proofs.YtmkmcobomlchfaaDoor
