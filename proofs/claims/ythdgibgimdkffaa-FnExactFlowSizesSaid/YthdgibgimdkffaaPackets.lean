/- The contracts of what says whether a list are packets, and of their sizes' sum. -/
import Derived.Test.YthdgibgimdkffaaPacket
import Derived.Test.YthdgibgimdkffaaPk
namespace Go.Proofs.Ythdgibgimdkffaa
open Go.ChangeShapes Go.WideShapes Go.ChangeAt Go.RowKit
set_option linter.unusedVariables false
def Pk.ok (p : Pk) : Bool := pok p.id p.so p.de p.po p.ma p.si
theorem Pk.ok_iff {p : Pk} : p.ok = true ↔ (1 ≤ p.id ∧ p.id ≤ 100000) ∧ (0 ≤ p.so ∧ p.so ≤ 65535) ∧ (0 ≤ p.de ∧ p.de ≤ 65535) ∧ (0 ≤ p.po ∧ p.po ≤ 65535) ∧ (0 ≤ p.ma ∧ p.ma ≤ 65535) ∧ 1 ≤ p.si ∧ p.si ≤ 1500 := pok_iff
def pat (L : List Pk) (i : Nat) : Pk := L[i]?.getD default
theorem pat_of {L : List Pk} {i : Nat} {p : Pk} (h : L[i]? = some p) : pat L i = p := by simp [pat, h]
theorem pkGood_b {b : Bool} {p : Pk} (h : p.ok = b) (w : World) :
    Calls Try.prog 23 #[.agg #[.int .i64 (p.id), .int .i64 (p.so), .int .i64 (p.de), .int .i64 (p.po), .int .i64 (p.ma), .int .i64 (p.si)]] w fun e w' => e = .returned (.bool b) ∧ Below w.heap.size w w' := h ▸ pkGood_any _ _ _ _ _ _ w
theorem isPacket_b {b : Bool} {p : Pk} (h : p.ok = b) (w : World) :
    Calls Try.prog 26 #[.agg #[.int .i64 (p.id), .int .i64 (p.so), .int .i64 (p.de), .int .i64 (p.po), .int .i64 (p.ma), .int .i64 (p.si)]] w fun e w' => e = .returned (.bool b) ∧ Below w.heap.size w w' := h ▸ implIsPacket_any _ _ _ _ _ _ w
/-- The id of the packet ahead of packet k, or 0. -/
def lastI (L : List Pk) : Nat → Int
  | 0 => 0
  | k + 1 => (pat L k).id
def pgd (L : List Pk) (i : Nat) : Bool := (pat L i).ok && decide (lastI L i < (pat L i).id)
def pksB (L : List Pk) : Bool := decide (L.length ≤ 60) && allB L.length (pgd L)
theorem pksB_no {L : List Pk} {k : Nat} (hk : k < L.length) (h : pgd L k = false) : pksB L = false := by simp [pksB, allB_no hk h]
theorem pksB_yes {L : List Pk} {n : Nat} (hl : L.length = n) (h : ∀ i, i < n → pgd L i = true) : pksB L = decide ((n : Int) ≤ 60) := by
  subst hl
  simp only [pksB, allB_yes h, Bool.and_true]
  exact decide_eq_decide.2 (by omega)
theorem pksB_iff {L : List Pk} : pksB L = true ↔ L.length ≤ 60 ∧ ∀ i, i < L.length → pgd L i = true := by simp [pksB, allB_iff]
set_option maxHeartbeats 1000000 in
theorem pkList_any (A : Option Addr) (n cap : Nat) (L : List Pk) (w : World) (hl : L.length = n) (hr : IRow w A (fl L)) (hn : n ≤ 1099511627776) :
    Calls Try.prog 28 #[.slice A n cap] w fun e w' => e = .returned (.bool (pksB L)) ∧ Below w.heap.size w w' := by
  have HL := Lib.hid hl
  have HR := Lib.hid hr
  clear hl hr
  go_enter Try.func28, Try.ntmps28
  go_wp2_with fail
  go_loopw [3, 8] (fun a i wr => ∃ k : Nat, k ≤ n ∧ i = .int .i64 k ∧ a = .int .i64 (lastI L k) ∧ (∀ j, j < k → pgd L j = true) ∧ Below w.heap.size w wr) (fun _ i _ => n - (intOf i).toNat)
  case atStart => exact ⟨0, Nat.zero_le _, rfl, rfl, all_zero, b0 _⟩
  case round =>
    obtain ⟨k, hk, rfl, rfl, hall, hbw⟩ := hrel
    have HA := Lib.hid hall
    clear hall
    by_cases hlt : k < n
    · obtain ⟨g, off, p, rfl, hg, hpk, c0, c1, c2, c3, c4, c5⟩ := pk_at (HR.out.below hbw) (k := k) (by have := HL.out; omega)
      have HP := Lib.hid (show pgd L k = (p.ok && decide (lastI L k < p.id)) by simp [pgd, pat_of hpk])
      have HF := Lib.hid (fun h => pksB_no (L := L) (k := k) (by have := HL.out; omega) h)
      have HI := Lib.hid (show lastI L (k + 1) = p.id by simp [lastI, pat_of hpk])
      clear hpk
      generalize lastI L k = a at *
      rcases hp : p.ok with _ | _
      · have hR := Lib.hid (HF.out (by rw [HP.out, hp]; rfl))
        go_wp2_with fail
        ((with_reducible refine (pkGood_b hp _).mono ?_); rintro e w1 ⟨rfl, hg1⟩; have z1 := hg1.size; (try simp at z1); have r1 := fun o => bkeep hg1 wr.heap.size o (by simp))
        go_wp2_with fail
        go_ret
        exact ⟨by rw [hR.out]; rfl, bt (ba hbw _) hg1⟩
      by_cases hle : p.id ≤ a
      · have hR := Lib.hid (HF.out (by rw [HP.out, hp]; simp; omega))
        go_wp2_with fail
        ((with_reducible refine (pkGood_b hp _).mono ?_); rintro e w1 ⟨rfl, hg1⟩; have z1 := hg1.size; (try simp at z1); have r1 := fun o => bkeep hg1 wr.heap.size o (by simp))
        go_wp2_with fail
        go_ret
        exact ⟨by rw [hR.out]; rfl, bt (ba hbw _) hg1⟩
      · have hR := Lib.hid (all_succ HA.out (by rw [HP.out, hp]; simp; omega))
        go_wp2_with fail
        ((with_reducible refine (pkGood_b hp _).mono ?_); rintro e w1 ⟨rfl, hg1⟩; have z1 := hg1.size; (try simp at z1); have r1 := fun o => bkeep hg1 wr.heap.size o (by simp))
        go_wp2_with fail
        go_roundw
        case rel => exact ⟨k + 1, by omega, by go_num, by rw [HI.out], hR.out, bt (ba hbw _) hg1⟩
        case measure => simp [intOf]; omega
    · obtain rfl : k = n := by omega
      have hR := Lib.hid (pksB_yes HL.out HA.out)
      go_wp2_with fail
      go_ret
      exact ⟨by rw [hR.out]; rfl, hbw⟩
set_option maxHeartbeats 2000000 in
theorem implArePackets_any (A : Option Addr) (n cap : Nat) (L : List Pk) (w : World) (hl : L.length = n) (hr : IRow w A (fl L)) (hn : n ≤ 1099511627776) :
    Calls Try.prog 13 #[.slice A n cap] w fun e w' => e = .returned (.bool (pksB L)) ∧ Below w.heap.size w w' := by
  have HL := Lib.hid hl
  have HR := Lib.hid hr
  clear hl hr
  go_enter Try.func13, Try.ntmps13
  go_wp2_with fail
  go_loopw [7] (fun i wr => ∃ k : Nat, k ≤ n ∧ i = .int .i64 k ∧ (∀ j, j < k → pgd L j = true) ∧ Below w.heap.size w wr) (fun i _ => n - (intOf i).toNat)
  case atStart => exact ⟨0, Nat.zero_le _, rfl, all_zero, b0 _⟩
  case round =>
    obtain ⟨k, hk, rfl, hall, hbw⟩ := hrel
    have HA := Lib.hid hall
    clear hall
    by_cases hlt : k < n
    · obtain ⟨g, off, p, rfl, hg, hpk, c0, c1, c2, c3, c4, c5⟩ := pk_at (HR.out.below hbw) (k := k) (by have := HL.out; omega)
      have HP := Lib.hid (show pgd L k = (p.ok && decide (lastI L k < p.id)) by simp [pgd, pat_of hpk])
      have HF := Lib.hid (fun h => pksB_no (L := L) (k := k) (by have := HL.out; omega) h)
      clear hpk
      have q0 : ∀ u : Gr (wr.alloc (.cells #[.int .i64 p.id, .int .i64 p.so, .int .i64 p.de, .int .i64 p.po, .int .i64 p.ma, .int .i64 p.si] 23)), u.v.cell? ⟨wr.heap.size, 0, none⟩ = some (.int .i64 p.id) := gr_cell (by simp)
      have q1 : ∀ u : Gr (wr.alloc (.cells #[.int .i64 p.id, .int .i64 p.so, .int .i64 p.de, .int .i64 p.po, .int .i64 p.ma, .int .i64 p.si] 23)), u.v.cell? ⟨wr.heap.size, 1, none⟩ = some (.int .i64 p.so) := gr_cell (by simp)
      have q2 : ∀ u : Gr (wr.alloc (.cells #[.int .i64 p.id, .int .i64 p.so, .int .i64 p.de, .int .i64 p.po, .int .i64 p.ma, .int .i64 p.si] 23)), u.v.cell? ⟨wr.heap.size, 2, none⟩ = some (.int .i64 p.de) := gr_cell (by simp)
      have q3 : ∀ u : Gr (wr.alloc (.cells #[.int .i64 p.id, .int .i64 p.so, .int .i64 p.de, .int .i64 p.po, .int .i64 p.ma, .int .i64 p.si] 23)), u.v.cell? ⟨wr.heap.size, 3, none⟩ = some (.int .i64 p.po) := gr_cell (by simp)
      have q4 : ∀ u : Gr (wr.alloc (.cells #[.int .i64 p.id, .int .i64 p.so, .int .i64 p.de, .int .i64 p.po, .int .i64 p.ma, .int .i64 p.si] 23)), u.v.cell? ⟨wr.heap.size, 4, none⟩ = some (.int .i64 p.ma) := gr_cell (by simp)
      have q5 : ∀ u : Gr (wr.alloc (.cells #[.int .i64 p.id, .int .i64 p.so, .int .i64 p.de, .int .i64 p.po, .int .i64 p.ma, .int .i64 p.si] 23)), u.v.cell? ⟨wr.heap.size, 5, none⟩ = some (.int .i64 p.si) := gr_cell (by simp)
      rcases hp : p.ok with _ | _
      · have hR := Lib.hid (HF.out (by rw [HP.out, hp]; rfl))
        go_wp2_with fail
        refine wp_region_gr (by kernel_rfl) (by kernel_rfl) ?_
        repeat (go_big_quiet_step ((go_at_call 26; exact gr_of (isPacket_b hp _))))
        refine wpQuiet_nil ?_
        intro _ hw'
        obtain ⟨pq, hw''⟩ := hw'
        subst hw''
        go_wp2_with fail
        go_ret
        exact ⟨by rw [hR.out]; rfl, bt (ba hbw _) pq.h⟩
      have hpx := Lib.hid (Pk.ok_iff.1 hp)
      by_cases h0 : 0 < k
      · obtain ⟨m, rfl⟩ : ∃ m, k = m + 1 := ⟨k - 1, by omega⟩
        obtain ⟨g', off', p', hA, hg', hpk', d0, _⟩ := pk_at (HR.out.below hbw) (k := m) (by have := HL.out; omega)
        injection hA with hA
        injection hA with hA1 hA2
        subst hA1 hA2
        have HI := Lib.hid (show lastI L (m + 1) = p'.id by simp [lastI, pat_of hpk'])
        clear hpk'
        have qp : ∀ u : Gr (wr.alloc (.cells #[.int .i64 p.id, .int .i64 p.so, .int .i64 p.de, .int .i64 p.po, .int .i64 p.ma, .int .i64 p.si] 23)), u.v.cell? ⟨g, off + m * 6, none⟩ = some (.int .i64 p'.id) := gr_cell (((ba (b0 wr) _).cell (p := ⟨g, off + m * 6, none⟩) hg).trans d0)
        have h0b : decide (0 < ((m + 1 : Nat) : Int)) = true := decide_eq_true (by omega)
        have h1' : (m : Int) < (n : Int) := by omega
        have h2' : 0 ≤ (m : Int) := by omega
        have hsub : IntKind.i64.wrap (((m + 1 : Nat) : Int) - 1) = (m : Int) := by rw [IntWalk.i64_in _ (by omega)]; omega
        by_cases hle : p.id ≤ p'.id
        · have hR := Lib.hid (HF.out (by rw [HP.out, hp, HI.out]; simp; omega))
          go_wp2_with fail
          refine wp_region_gr (by kernel_rfl) (by kernel_rfl) ?_
          repeat (go_big_quiet_step ((go_at_call 26; exact gr_of (isPacket_b hp _))))
          refine wpQuiet_nil ?_
          intro _ hw'
          obtain ⟨pq, hw''⟩ := hw'
          subst hw''
          go_wp2_with fail
          go_ret
          exact ⟨by rw [hR.out]; rfl, bt (ba hbw _) pq.h⟩
        · have hR := Lib.hid (all_succ HA.out (by rw [HP.out, hp, HI.out]; simp; omega))
          go_wp2_with fail
          refine wp_region_gr (by kernel_rfl) (by kernel_rfl) ?_
          repeat (go_big_quiet_step ((go_at_call 26; exact gr_of (isPacket_b hp _))))
          refine wpQuiet_nil ?_
          intro _ hw'
          obtain ⟨pq, hw''⟩ := hw'
          subst hw''
          clear hsub
          go_wp2_with fail
          go_roundw
          case rel => exact ⟨m + 1 + 1, by omega, by go_num, hR.out, bt (ba hbw _) pq.h⟩
          case measure => simp [intOf]; omega
      · have h0b : decide (0 < (k : Int)) = false := decide_eq_false (by omega)
        have HI := Lib.hid (show lastI L k = 0 by have hk0 : k = 0 := (by omega); rw [hk0]; rfl)
        have hR := Lib.hid (all_succ HA.out (by rw [HP.out, hp, HI.out]; have := hpx.out; simp; omega))
        go_wp2_with fail
        refine wp_region_gr (by kernel_rfl) (by kernel_rfl) ?_
        repeat (go_big_quiet_step ((go_at_call 26; exact gr_of (isPacket_b hp _))))
        refine wpQuiet_nil ?_
        intro _ hw'
        obtain ⟨pq, hw''⟩ := hw'
        subst hw''
        go_wp2_with fail
        go_roundw
        case rel => exact ⟨k + 1, by omega, by go_num, hR.out, bt (ba hbw _) pq.h⟩
        case measure => simp [intOf]; omega
    · obtain rfl : k = n := by omega
      have hR := Lib.hid (pksB_yes HL.out HA.out)
      go_wp2_with fail
      go_ret
      exact ⟨by rw [hR.out]; rfl, hbw⟩
theorem specArePackets_any (A : Option Addr) (n cap : Nat) (L : List Pk) (w : World) (hl : L.length = n) (hr : IRow w A (fl L)) (hn : n ≤ 1099511627776) :
    Calls Try.prog 11 #[.slice A n cap] w fun e w' => e = .returned (.bool (pksB L)) ∧ Below w.heap.size w w' := by
  have HL := Lib.hid hl
  have HR := Lib.hid hr
  clear hl hr
  go_enter Try.func11, Try.ntmps11
  go_wp2_with fail
  refine (pkList_any _ _ _ L _ HL.out HR.out hn).mono ?_
  rintro e w1 ⟨rfl, hg⟩
  go_wp2_with fail
  go_ret
  exact ⟨rfl, hg⟩
end Go.Proofs.Ythdgibgimdkffaa
