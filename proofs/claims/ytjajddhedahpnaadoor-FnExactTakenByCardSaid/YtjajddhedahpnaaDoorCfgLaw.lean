/- The plain law of a valid configuration: what the program's ten conditions say together is what the reference says. No program in sight. -/
import Derived.Test.YtjajddhedahpnaaDoorCfg
import Derived.Test.YtjajddhedahpnaaDoorPackets
namespace Go.Proofs.YtjajddhedahpnaaDoor
open Go.ChangeShapes Go.WideShapes Go.ChangeAt Go.RowKit
set_option linter.unusedVariables false
/-! ### Looking up, children, leaves -/
def isI (L : List Cl) (id : Int) (k : Nat) : Bool := decide ((cat L k).id = id)
def fnd (L : List Cl) (id : Int) : Int := fstI L.length (isI L id)
theorem fstI_b (n : Nat) (g : Nat → Bool) : -1 ≤ fstI n g ∧ fstI n g < n := by
  rcases fstI_cases n g with ⟨k, hk, _, _, h⟩ | ⟨_, h⟩ <;> rw [h] <;> omega
theorem fnd_b (L : List Cl) (id : Int) : -1 ≤ fnd L id ∧ fnd L id < L.length := fstI_b _ _
def kid (L : List Cl) (i k : Nat) : Bool := decide ((cat L k).pa = (cat L i).id)
def kidsTo (L : List Cl) (i k : Nat) : List Nat := (List.range k).filter (kid L i)
def kids (L : List Cl) (i : Nat) : List Nat := kidsTo L i L.length
theorem kidsTo_zero (L : List Cl) (i : Nat) : kidsTo L i 0 = [] := rfl
theorem kidsTo_yes {L : List Cl} {i k : Nat} (h : kid L i k = true) : kidsTo L i (k + 1) = kidsTo L i k ++ [k] := by simp [kidsTo, List.range_succ, List.filter_append, h]
theorem kidsTo_no {L : List Cl} {i k : Nat} (h : kid L i k = false) : kidsTo L i (k + 1) = kidsTo L i k := by simp [kidsTo, List.range_succ, List.filter_append, h]
theorem kidsTo_len (L : List Cl) (i k : Nat) : (kidsTo L i k).length ≤ k := by
  have := List.length_filter_le (kid L i) (List.range k)
  simpa [kidsTo] using this
theorem kids_lt {L : List Cl} {i x : Nat} (h : x ∈ kids L i) : x < L.length := by
  simp only [kids, kidsTo, List.mem_filter, List.mem_range] at h
  exact h.1
def lf (L : List Cl) (i : Nat) : Bool := decide ((kids L i).length = 0)
theorem lf_all (L : List Cl) (i : Nat) : lf L i = !decide (0 ≤ fstI L.length (kid L i)) := by
  rw [Bool.eq_iff_iff]
  simp only [lf, kids, kidsTo, decide_eq_true_eq, List.length_eq_zero_iff, List.filter_eq_nil_iff, List.mem_range, Bool.not_eq_true', decide_eq_false_iff_not]
  rcases fstI_cases L.length (kid L i) with ⟨k, hk, h1, h2, h⟩ | ⟨h1, h⟩
  · rw [h]
    refine ⟨fun hh => absurd h1 (hh k hk), fun hh => by omega⟩
  · rw [h]
    refine ⟨fun _ => by omega, fun _ a ha => by simp [h1 a ha]⟩
def tg (L : List Cl) (id : Int) : Bool := decide (0 ≤ fnd L id) && lf L (fnd L id).toNat
def raS (L : List Cl) (l : List Nat) : Int := (l.map fun k => (cat L k).ra).sum
def ks (L : List Cl) (i : Nat) : Int := raS L (kids L i)
def raB (L : List Cl) : Prop := ∀ k, k < L.length → 1 ≤ (cat L k).ra ∧ (cat L k).ra ≤ 100000
theorem raS_b {L : List Cl} (h : raB L) : ∀ (l : List Nat), (∀ x ∈ l, x < L.length) → 0 ≤ raS L l ∧ raS L l ≤ 100000 * l.length
  | [], _ => by simp [raS]
  | x :: l, hl => by
    have h1 := h x (hl x (by simp))
    have h2 := raS_b h l (fun y hy => hl y (by simp [hy]))
    have e1 : raS L (x :: l) = (cat L x).ra + raS L l := by simp [raS]
    have e2 : (x :: l).length = l.length + 1 := rfl
    rw [e1, e2]
    omega
theorem raS_take {L : List Cl} {l : List Nat} {j : Nat} (hj : j < l.length) : raS L (l.take (j + 1)) = raS L (l.take j) + (cat L (l[j]?.getD 0)).ra := by
  rw [List.take_succ_eq_append_getElem hj, List.getElem?_eq_getElem hj, Option.getD_some]
  unfold raS
  rw [List.map_append, List.sum_append]
  simp
/-! ### A class, a filter by itself -/
def idk (c : Cl) : Bool := decide (1 ≤ c.id ∧ c.id ≤ 999)
def rok (c : Cl) : Bool := decide ((1 ≤ c.ra ∧ c.ra ≤ 100000) ∧ c.ra ≤ c.ce ∧ c.ce ≤ 100000)
def bok (c : Cl) : Bool := decide ((1500 ≤ c.bu ∧ c.bu ≤ 1000000) ∧ (1500 ≤ c.cb ∧ c.cb ≤ 1000000) ∧ 0 ≤ c.pr ∧ c.pr ≤ 7)
def cok (c : Cl) : Bool := idk c && rok c && bok c
theorem cok_iff {c : Cl} : cok c = true ↔ (1 ≤ c.id ∧ c.id ≤ 999) ∧ (1 ≤ c.ra ∧ c.ra ≤ 100000) ∧ (c.ra ≤ c.ce ∧ c.ce ≤ 100000) ∧ (1500 ≤ c.bu ∧ c.bu ≤ 1000000) ∧ (1500 ≤ c.cb ∧ c.cb ≤ 1000000) ∧ 0 ≤ c.pr ∧ c.pr ≤ 7 := by
  simp only [cok, idk, rok, bok, Bool.and_eq_true, decide_eq_true_eq]
  constructor
  · rintro ⟨⟨h1, h2⟩, h3⟩
    omega
  · intro h
    omega
def lim (L : List Cl) (k : Nat) : Bool := if lf L k then decide (1 ≤ (cat L k).li ∧ (cat L k).li ≤ 60) else decide ((cat L k).li = 0)
/-! ### The conditions -/
/-- The id of the class ahead of class k, or 0. -/
def lastC (L : List Cl) : Nat → Int
  | 0 => 0
  | k + 1 => (cat L k).id
def inc (L : List Cl) (k : Nat) : Bool := decide (k = 0 ∨ lastC L k < (cat L k).id)
def g2 (L : List Cl) : Bool := allB L.length (fun k => idk (cat L k) && inc L k) && decide (1 ≤ L.length ∧ L.length ≤ 24)
def topsTo (L : List Cl) (k : Nat) : Nat := ((List.range k).filter fun j => decide ((cat L j).pa = 0)).length
theorem topsTo_yes {L : List Cl} {k : Nat} (h : (cat L k).pa = 0) : topsTo L (k + 1) = topsTo L k + 1 := by simp [topsTo, List.range_succ, List.filter_append, h]
theorem topsTo_no {L : List Cl} {k : Nat} (h : (cat L k).pa ≠ 0) : topsTo L (k + 1) = topsTo L k := by simp [topsTo, List.range_succ, List.filter_append, h]
theorem topsTo_le (L : List Cl) (k : Nat) : topsTo L k ≤ k := by
  have := List.length_filter_le (fun j => decide ((cat L j).pa = 0)) (List.range k)
  simpa [topsTo] using this
def pok1 (L : List Cl) (k : Nat) : Bool := decide ((cat L k).pa = 0 ∨ 0 ≤ fnd L (cat L k).pa)
def g3 (L : List Cl) : Bool := decide (topsTo L L.length = 1) && allB L.length (pok1 L)
/-- The class above class i. -/
def nx (L : List Cl) (i : Nat) : Option Nat := if 0 ≤ fnd L (cat L i).pa then some (fnd L (cat L i).pa).toNat else none
/-- The way up from class i ends within f classes, at a class whose parent is 0. -/
def upk (L : List Cl) : Nat → Nat → Bool
  | 0, _ => false
  | f + 1, i => match nx L i with | none => decide ((cat L i).pa = 0) | some j => upk L f j
def g4 (L : List Cl) : Bool := allB L.length (upk L 8)
def g5 (L : List Cl) : Bool := allB L.length fun k => rok (cat L k)
def g6 (L : List Cl) : Bool := allB L.length fun k => decide (ks L k ≤ (cat L k).ra)
def g7 (L : List Cl) : Bool := allB L.length fun k => bok (cat L k)
def g8 (L : List Cl) : Bool := allB L.length (lim L)
/-- What the reference asks of the classes. -/
def tree (L : List Cl) : Bool := allB L.length (fun k => cok (cat L k) && inc L k) && decide (topsTo L L.length = 1) && allB L.length fun k => (upk L 8 k && decide (ks L k ≤ (cat L k).ra)) && lim L k
theorem allB_and {n : Nat} {g h : Nat → Bool} : allB n (fun k => g k && h k) = (allB n g && allB n h) := by
  rw [Bool.eq_iff_iff]
  simp only [allB_iff, Bool.and_eq_true]
  exact ⟨fun a => ⟨fun i hi => (a i hi).1, fun i hi => (a i hi).2⟩, fun a i hi => ⟨a.1 i hi, a.2 i hi⟩⟩
theorem upk_pok {L : List Cl} {f k : Nat} (h : upk L f k = true) : pok1 L k = true := by
  cases f with
  | zero => cases h
  | succ f =>
    simp only [upk, nx] at h
    simp only [pok1, decide_eq_true_eq]
    by_cases h0 : 0 ≤ fnd L (cat L k).pa
    · exact .inr h0
    · rw [if_neg h0] at h
      exact .inl (of_decide_eq_true h)
theorem tree_eq (L : List Cl) (hn : 1 ≤ L.length ∧ L.length ≤ 24) : tree L = (g2 L && g3 L && g4 L && g5 L && g6 L && g7 L && g8 L) := by
  have e2 : decide (1 ≤ L.length ∧ L.length ≤ 24) = true := decide_eq_true hn
  rw [Bool.eq_iff_iff]
  unfold tree g2 g3 g4 g5 g6 g7 g8 cok
  simp only [allB_and, e2, Bool.and_true, Bool.and_eq_true, allB_iff]
  constructor
  · rintro ⟨⟨⟨⟨⟨a1, a2⟩, a3⟩, a4⟩, a5⟩, ⟨a6, a7⟩, a8⟩
    exact ⟨⟨⟨⟨⟨⟨⟨a1, a4⟩, a5, fun k hk => upk_pok (a6 k hk)⟩, a6⟩, a2⟩, a7⟩, a3⟩, a8⟩
  · rintro ⟨⟨⟨⟨⟨⟨⟨a1, a4⟩, a5, _⟩, a6⟩, a2⟩, a7⟩, a3⟩, a8⟩
    exact ⟨⟨⟨⟨⟨a1, a2⟩, a3⟩, a4⟩, a5⟩, ⟨a6, a7⟩, a8⟩
/-! ### Bits -/
theorem bv_andnot (a b : BitVec 64) : (a &&& ~~~b = 0#64) ↔ (a &&& b = a) := by
  constructor
  · intro h
    apply BitVec.eq_of_getLsbD_eq
    intro i hi
    have e := congrArg (fun x : BitVec 64 => x.getLsbD i) h
    simp only [BitVec.getLsbD_and, BitVec.getLsbD_not, BitVec.getLsbD_zero, hi, decide_true, Bool.true_and] at e ⊢
    revert e
    cases a.getLsbD i <;> cases b.getLsbD i <;> simp
  · intro h
    apply BitVec.eq_of_getLsbD_eq
    intro i hi
    have e := congrArg (fun x : BitVec 64 => x.getLsbD i) h
    simp only [BitVec.getLsbD_and, BitVec.getLsbD_not, BitVec.getLsbD_zero, hi, decide_true, Bool.true_and] at e ⊢
    revert e
    cases a.getLsbD i <;> cases b.getLsbD i <;> simp
theorem i64_nat {n : Nat} (h : n ≤ 65535) : IntKind.i64.wrap (n : Int) = (n : Int) := IntWalk.i64_in _ (by omega)
theorem ofInt_nat {v : Int} (h : 0 ≤ v ∧ v ≤ 65535) : (BitVec.ofInt 64 v).toNat = v.toNat := by
  obtain ⟨u, rfl⟩ : ∃ u : Nat, v = (u : Int) := ⟨v.toNat, by omega⟩
  rw [BitVec.ofInt_natCast, BitVec.toNat_ofNat, Int.toNat_natCast]
  exact Nat.mod_eq_of_lt (by omega)
theorem and_le_bv (a b : BitVec 64) : (a &&& b).toNat ≤ a.toNat := by
  rw [BitVec.toNat_and]
  exact Nat.and_le_left
theorem bits_andnot {v m : Int} (hv : 0 ≤ v ∧ v ≤ 65535) (hm : 0 ≤ m ∧ m ≤ 65535) : bits .andNot .i64 v m = 0 ↔ bits .and .i64 v m = v := by
  have e := ofInt_nat hv
  have h1 := and_le_bv (BitVec.ofInt 64 v) (~~~(BitVec.ofInt 64 m))
  have h2 := and_le_bv (BitVec.ofInt 64 v) (BitVec.ofInt 64 m)
  have e1 : bits .andNot .i64 v m = (((BitVec.ofInt 64 v &&& ~~~(BitVec.ofInt 64 m)).toNat : Nat) : Int) := i64_nat (n := (BitVec.ofInt 64 v &&& ~~~(BitVec.ofInt 64 m)).toNat) (by omega)
  have e2 : bits .and .i64 v m = (((BitVec.ofInt 64 v &&& BitVec.ofInt 64 m).toNat : Nat) : Int) := i64_nat (n := (BitVec.ofInt 64 v &&& BitVec.ofInt 64 m).toNat) (by omega)
  rw [e1, e2]
  have hb := bv_andnot (BitVec.ofInt 64 v) (BitVec.ofInt 64 m)
  constructor
  · intro h
    have : BitVec.ofInt 64 v &&& ~~~(BitVec.ofInt 64 m) = 0#64 := BitVec.eq_of_toNat_eq (by simp only [BitVec.toNat_ofNat]; omega)
    rw [hb.1 this, e]
    omega
  · intro h
    have : BitVec.ofInt 64 v &&& BitVec.ofInt 64 m = BitVec.ofInt 64 v := BitVec.eq_of_toNat_eq (by omega)
    rw [hb.2 this]
    rfl
/-! ### Filters -/
def fok (x : Fi) : Bool := decide ((1 ≤ x.pr ∧ x.pr ≤ 99) ∧ (0 ≤ x.fi ∧ x.fi ≤ 3) ∧ (0 ≤ x.ma ∧ x.ma ≤ 65535) ∧ (0 ≤ x.va ∧ x.va ≤ 65535) ∧ bits .and .i64 x.va x.ma = x.va)
def lastF (F : List Fi) : Nat → Int
  | 0 => 0
  | k + 1 => (fat F k).pr
def incF (F : List Fi) (k : Nat) : Bool := decide (k = 0 ∨ lastF F k < (fat F k).pr)
def g9 (L : List Cl) (F : List Fi) : Bool := allB F.length (fun k => (fok (fat F k) && incF F k) && tg L (fat F k).ta) && decide (F.length ≤ 16)
def g10 (L : List Cl) (df : Int) : Bool := decide (df = 0) || tg L df
/-- A valid configuration; nm: the name is right. -/
def cg (nm : Bool) (L : List Cl) (F : List Fi) (df : Int) : Bool := nm && decide (1 ≤ L.length ∧ L.length ≤ 24) && tree L && g9 L F && g10 L df
end Go.Proofs.YtjajddhedahpnaaDoor
