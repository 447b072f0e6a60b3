/- Operations as records, rows of operations, and the contracts of what checks them. -/
import Derived.Test.YtgcbpooflecbpaaRowsOp
import Derived.Test.YtgcbpooflecbpaaInts
import Derived.Test.YtgcbpooflecbpaaPackets
import Derived.Test.YtgcbpooflecbpaaQuLaw
namespace Go.Proofs.Ytgcbpooflecbpaa
open Go.ChangeShapes Go.WideShapes Go.ChangeAt Go.RowKit
set_option linter.unusedVariables false
structure Oq where
  kd : Int
  p : Pk
  tk : Int
instance : Inhabited Oq := ⟨⟨0, default, 0⟩⟩
def Oq.c (o : Oq) : List Int := [o.kd, o.p.id, o.p.so, o.p.de, o.p.po, o.p.ma, o.p.si, o.tk]
def flo (L : List Oq) : List Int := L.flatMap Oq.c
theorem flo_cons (o : Oq) (L : List Oq) : flo (o :: L) = o.kd :: o.p.id :: o.p.so :: o.p.de :: o.p.po :: o.p.ma :: o.p.si :: o.tk :: flo L := by simp [flo, Oq.c]
theorem flo_len (L : List Oq) : (flo L).length = L.length * 8 := by
  induction L with
  | nil => rfl
  | cons p L ih => rw [flo_cons]; simp [ih]; omega
theorem flo_drop (L : List Oq) (k : Nat) : (flo L).drop (k * 8) = flo (L.drop k) := by
  induction k generalizing L with
  | zero => simp
  | succ k ih =>
    cases L with
    | nil => simp [flo]
    | cons p L =>
      rw [flo_cons, show (k + 1) * 8 = k * 8 + 1 + 1 + 1 + 1 + 1 + 1 + 1 + 1 by omega]
      simp only [List.drop_succ_cons]
      exact ih L
theorem unflo (n : Nat) (l : List Int) (h : l.length = n * 8) : ∃ L : List Oq, L.length = n ∧ flo L = l := by
  induction n generalizing l with
  | zero => exact ⟨[], rfl, by simp at h; simp [h, flo]⟩
  | succ n ih =>
    match l, h with
    | a :: b :: c :: d :: e :: f :: g :: i :: l, h =>
      obtain ⟨L, h1, h2⟩ := ih l (by simp at h; omega)
      exact ⟨⟨a, ⟨b, c, d, e, f, g⟩, i⟩ :: L, by simp [h1], by rw [flo_cons, h2]⟩
    | [], h => simp at h
    | [_], h => simp at h; omega
    | [_, _], h => simp at h; omega
    | [_, _, _], h => simp at h; omega
    | [_, _, _, _], h => simp at h; omega
    | [_, _, _, _, _], h => simp at h; omega
    | [_, _, _, _, _, _], h => simp at h; omega
    | [_, _, _, _, _, _, _], h => simp at h; omega
theorem oq_at {w : World} {A : Option Addr} {L : List Oq} (h : IRow w A (flo L)) {k : Nat} (hk : k < L.length) :
    ∃ g off o, A = some ⟨g, off, none⟩ ∧ g < w.heap.size ∧ L[k]? = some o ∧ w.cell? ⟨g, off + k * 8, none⟩ = some (.int .i64 o.kd) ∧ w.cell? ⟨g, off + k * 8 + 1, none⟩ = some (.int .i64 o.p.id) ∧ w.cell? ⟨g, off + k * 8 + 2, none⟩ = some (.int .i64 o.p.so) ∧ w.cell? ⟨g, off + k * 8 + 3, none⟩ = some (.int .i64 o.p.de) ∧ w.cell? ⟨g, off + k * 8 + 4, none⟩ = some (.int .i64 o.p.po) ∧ w.cell? ⟨g, off + k * 8 + 5, none⟩ = some (.int .i64 o.p.ma) ∧ w.cell? ⟨g, off + k * 8 + 6, none⟩ = some (.int .i64 o.p.si) ∧ w.cell? ⟨g, off + k * 8 + 7, none⟩ = some (.int .i64 o.tk) := by
  have hl := flo_len L
  obtain ⟨g, off, rfl, hg, hc⟩ := h.at_ (k := k * 8) (by omega)
  have e : ∀ j, (flo L)[k * 8 + j]? = (flo (L[k] :: L.drop (k + 1)))[j]? := fun j => by
    rw [← List.getElem?_drop, flo_drop, List.drop_eq_getElem_cons hk]
  rw [flo_cons] at e
  refine ⟨g, off, L[k], rfl, hg, List.getElem?_eq_getElem hk, ?_, ?_, ?_, ?_, ?_, ?_, ?_, ?_⟩
  · have := hc (k * 8 + 0) (by omega); rw [e 0] at this; exact this
  · have := hc (k * 8 + 1) (by omega); rw [e 1] at this; exact this
  · have := hc (k * 8 + 2) (by omega); rw [e 2] at this; exact this
  · have := hc (k * 8 + 3) (by omega); rw [e 3] at this; exact this
  · have := hc (k * 8 + 4) (by omega); rw [e 4] at this; exact this
  · have := hc (k * 8 + 5) (by omega); rw [e 5] at this; exact this
  · have := hc (k * 8 + 6) (by omega); rw [e 6] at this; exact this
  · have := hc (k * 8 + 7) (by omega); rw [e 7] at this; exact this
def Pk.nil (p : Pk) : Bool := decide (p.id = 0 ∧ p.so = 0 ∧ p.de = 0 ∧ p.po = 0 ∧ p.ma = 0 ∧ p.si = 0)
/-- Whether an operation is valid by itself. -/
def Oq.ok (o : Oq) : Bool := if o.kd = 1 then o.p.ok && decide (o.tk = 0) else if o.kd = 2 then o.p.nil && decide (0 ≤ o.tk ∧ o.tk ≤ 10000) else if o.kd = 3 then o.p.nil && decide (o.tk = 0) else false
def oat (L : List Oq) (i : Nat) : Oq := L[i]?.getD default
theorem oat_of {L : List Oq} {i : Nat} {o : Oq} (h : L[i]? = some o) : oat L i = o := by simp [oat, h]
def oputs (L : List Oq) (id : Int) (i : Nat) : Bool := decide ((oat L i).kd = 1) && decide ((oat L i).p.id = id)
/-- Whether one of the first k operations puts a packet with an Id. -/
def oHas (L : List Oq) (k : Nat) (id : Int) : Bool := !allB k fun j => !oputs L id j
def ogd (L : List Oq) (i : Nat) : Bool := (oat L i).ok && !(decide ((oat L i).kd = 1) && oHas L i (oat L i).p.id)
def opsB (L : List Oq) : Bool := allB L.length (ogd L) && decide (L.length ≤ 60)
theorem opsB_no {L : List Oq} {k : Nat} (hk : k < L.length) (h : ogd L k = false) : opsB L = false := by simp [opsB, allB_no hk h]
theorem opsB_yes {L : List Oq} (h : ∀ i, i < L.length → ogd L i = true) : opsB L = decide (L.length ≤ 60) := by simp [opsB, allB_yes h]
theorem oHas_iff {L : List Oq} {n : Nat} {id : Int} : oHas L n id = false ↔ ∀ i, i < n → oputs L id i = false := by simp [oHas, allB_iff]
theorem oHas_hit {L : List Oq} {n k : Nat} {id : Int} (hk : k < n) (h : oputs L id k = true) : oHas L n id = true := by simp [oHas, allB_no (g := fun j => !oputs L id j) hk (by simp [h])]
/-- The Ids of the packets that the first k operations put. -/
def mets (L : List Oq) : Nat → List Int
  | 0 => []
  | k + 1 => if (oat L k).kd = 1 then mets L k ++ [(oat L k).p.id] else mets L k
theorem mets_len (L : List Oq) : ∀ k, (mets L k).length ≤ k
  | 0 => Nat.le_refl _
  | k + 1 => by
    have := mets_len L k
    unfold mets
    split <;> simp <;> omega
theorem mets_mem (L : List Oq) (id : Int) : ∀ k, id ∈ mets L k ↔ ∃ i, i < k ∧ oputs L id i = true
  | 0 => by simp [mets]
  | k + 1 => by
    have ih := mets_mem L id k
    have hs : (∃ i, i < k + 1 ∧ oputs L id i = true) ↔ (∃ i, i < k ∧ oputs L id i = true) ∨ oputs L id k = true := by
      constructor
      · rintro ⟨i, hi, h⟩
        rcases Nat.lt_succ_iff_lt_or_eq.1 hi with h' | rfl
        · exact .inl ⟨i, h', h⟩
        · exact .inr h
      · rintro (⟨i, hi, h⟩ | h)
        · exact ⟨i, by omega, h⟩
        · exact ⟨k, by omega, h⟩
    rw [hs, ← ih, show mets L (k + 1) = if (oat L k).kd = 1 then mets L k ++ [(oat L k).p.id] else mets L k from rfl]
    by_cases hk : (oat L k).kd = 1
    · rw [if_pos hk, List.mem_append, List.mem_singleton]
      simp only [oputs, hk, decide_true, Bool.true_and, decide_eq_true_eq]
      exact ⟨fun h => h.imp (fun y => y) Eq.symm, fun h => h.imp (fun y => y) Eq.symm⟩
    · rw [if_neg hk]
      simp [oputs, hk]
theorem mets_has {L : List Oq} {k : Nat} {id : Int} : decide (id ∈ mets L k) = oHas L k id := by
  rcases h : oHas L k id with _ | _
  · refine decide_eq_false fun hm => ?_
    obtain ⟨i, hi, h2⟩ := (mets_mem L id k).1 hm
    rw [oHas_iff.1 h i hi] at h2
    cases h2
  · refine decide_eq_true ?_
    rw [mets_mem]
    rcases Classical.em (∃ i, i < k ∧ oputs L id i = true) with h' | h'
    · exact h'
    · have : oHas L k id = false := oHas_iff.2 fun i hi => by
        rcases h2 : oputs L id i with _ | _
        · rfl
        · exact (h' ⟨i, hi, h2⟩).elim
      rw [this] at h
      cases h
/-! ### l1Has -/
theorem l1Has_any (A : Option Addr) (n cap : Nat) (l : List Int) (x : Int) (w : World) (hl : l.length = n) (hr : IRow w A l) (hn : n ≤ 1099511627776) :
    Calls Try.prog 77 #[.slice A n cap, .int .i64 x] w fun e w' => e = .returned (.bool (decide (x ∈ l))) ∧ w = w' := by
  have HL := Lib.hid hl
  have HR := Lib.hid hr
  clear hl hr
  go_enter Try.func77, Try.ntmps77
  go_wp2_with fail
  go_loop [9] (fun i => ∃ k : Nat, k ≤ n ∧ i = .int .i64 k ∧ ∀ j, j < k → l[j]?.getD 0 ≠ x) (fun i => n - (intOf i).toNat)
  case atStart => exact ⟨0, Nat.zero_le _, rfl, fun j hj => by omega⟩
  case round =>
    obtain ⟨k, hk, rfl, hall⟩ := hrel
    have HA := Lib.hid hall
    clear hall
    by_cases hlt : k < n
    · obtain ⟨g, off, rfl, hg, hc⟩ := HR.out.at_ (k := k) (by rw [HL.out]; exact hlt)
      have hck := hc k (by rw [HL.out]; exact hlt)
      clear hc
      have HM := Lib.hid (show l[k]?.getD 0 ∈ l by rw [List.getElem?_eq_getElem (by rw [HL.out]; exact hlt)]; exact List.getElem_mem _)
      generalize hy : l[k]?.getD 0 = y at *
      have HY := Lib.hid hy
      clear hy
      by_cases he : y = x
      · subst he
        have hR := Lib.hid (show decide (y ∈ l) = true from decide_eq_true HM.out)
        go_wp2_with fail
        go_ret
        exact ⟨by rw [hR.out]; rfl, rfl⟩
      · have he2 : (y == x) = false := by simpa using he
        have HS := Lib.hid (show ∀ j, j < k + 1 → l[j]?.getD 0 ≠ x from fun j hj => by
          rcases Nat.lt_succ_iff_lt_or_eq.1 hj with h' | rfl
          · exact HA.out j h'
          · rw [HY.out]; exact he)
        go_wp2_with fail
        go_round
        case rel => exact ⟨k + 1, by omega, by go_num, HS.out⟩
        case measure => simp [intOf]; omega
    · obtain rfl : k = n := by omega
      have hR := Lib.hid (show decide (x ∈ l) = false from decide_eq_false fun hm => by
        obtain ⟨j, hj, e⟩ := List.getElem_of_mem hm
        exact HA.out j (by rw [← HL.out]; exact hj) (by rw [List.getElem?_eq_getElem hj]; exact e))
      go_wp2_with fail
      go_ret
      exact ⟨by rw [hR.out]; rfl, rfl⟩
theorem l1Has_b {b : Bool} (A : Option Addr) (n cap : Nat) (l : List Int) (x : Int) (w : World) (hl : l.length = n) (hr : IRow w A l) (hn : n ≤ 1099511627776) (h : decide (x ∈ l) = b) :
    Calls Try.prog 77 #[.slice A n cap, .int .i64 x] w fun e w' => e = .returned (.bool b) ∧ w = w' := h ▸ l1Has_any A n cap l x w hl hr hn
end Go.Proofs.Ytgcbpooflecbpaa
