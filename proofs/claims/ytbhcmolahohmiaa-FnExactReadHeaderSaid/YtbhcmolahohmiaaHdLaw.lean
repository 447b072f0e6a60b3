/- The plain laws of headers: two bytes of a number, a packet's numbers, a header's bytes. No program in sight. -/
import Derived.Test.YtbhcmolahohmiaaPackets
import Derived.Laws.IdiomStrings
import Derived.Laws.Concat
import Derived.Laws.BitsLemmas
namespace Go.Proofs.Ytbhcmolahohmiaa
open Go.ChangeShapes Go.WideShapes Go.ChangeAt Go.RowKit
set_option linter.unusedVariables false
/-- The two low bytes of a number, the high one first. -/
def hb (n : Int) : List UInt8 := [UInt8.ofNat (n / 256 % 256).toNat, UInt8.ofNat (n % 256).toNat]
theorem u8_of (n : Int) (h0 : 0 ≤ n) (h1 : n < 256) : ((UInt8.ofNat n.toNat).toNat : Int) = n := by
  have : n.toNat < 256 := by omega
  simp [Nat.mod_eq_of_lt this]
  omega
theorem hb_0 (n : Int) : ((UInt8.ofNat (n / 256 % 256).toNat).toNat : Int) = n / 256 % 256 := u8_of _ (by omega) (by omega)
theorem hb_1 (n : Int) : ((UInt8.ofNat (n % 256).toNat).toNat : Int) = n % 256 := u8_of _ (by omega) (by omega)
theorem hb_mod (n : Int) : hb (n % 65536) = hb n := by
  unfold hb
  rw [show n % 65536 / 256 % 256 = n / 256 % 256 by omega, show n % 65536 % 256 = n % 256 by omega]
/-- The byte at a place of a string. -/
def btA (s : ByteArray) (i : Nat) : Int := ((s.data[i]?.getD 0).toNat : Int)
theorem btA_b (s : ByteArray) (i : Nat) : 0 ≤ btA s i ∧ btA s i < 256 := by
  unfold btA
  have := (s.data[i]?.getD 0).toNat_lt
  omega
theorem btA_get {s : ByteArray} {i : Nat} (h : i < s.size) : ((s[i]'h).toNat : Int) = btA s i := by
  have h2 : i < s.data.size := h
  unfold btA
  rw [Array.getElem?_eq_getElem h2]
  rfl
/-- The number at a pair of bytes. -/
def nmA (s : ByteArray) (k : Nat) : Int := 256 * btA s (2 * k) + btA s (2 * k + 1)
theorem nmA_b (s : ByteArray) (k : Nat) : 0 ≤ nmA s k ∧ nmA s k ≤ 65535 := by
  have h1 := btA_b s (2 * k)
  have h2 := btA_b s (2 * k + 1)
  unfold nmA
  omega
def nms (s : ByteArray) (k : Nat) : List Int := (List.range k).map (nmA s)
theorem nms_succ (s : ByteArray) (k : Nat) : nms s (k + 1) = nms s k ++ [nmA s k] := by simp [nms, List.range_succ]
theorem nms_get {s : ByteArray} {k i : Nat} (h : i < k) : (nms s k)[i]?.getD 0 = nmA s i := by simp [nms, h]
def smA (s : ByteArray) : Nat → Int
  | 0 => 0
  | k + 1 => smA s k + nmA s k
theorem smA_b (s : ByteArray) : ∀ k, 0 ≤ smA s k ∧ smA s k ≤ 65535 * k
  | 0 => by simp [smA]
  | k + 1 => by
    have h1 := smA_b s k
    have h2 := nmA_b s k
    simp only [smA]
    omega
/-- A packet's numbers. -/
def prs (p : Pk) : List Int := [p.id / 65536, p.id % 65536, p.so, p.de, p.po, p.ma, p.si]
def prS (p : Pk) : Int := (p.id / 65536 + p.id % 65536 + p.so + p.de + p.po + p.ma + p.si) % 65536
def pr8 (p : Pk) : List Int := prs p ++ [prS p]
theorem pr8_len (p : Pk) : (pr8 p).length = 8 := rfl
theorem pr8_b {p : Pk} (h : p.ok = true) : ∀ x ∈ pr8 p, 0 ≤ x ∧ x ≤ 65535 := by
  have g := Pk.ok_iff.1 h
  intro x hx
  simp only [pr8, prs, List.cons_append, List.nil_append, List.mem_cons, List.not_mem_nil, or_false] at hx
  unfold prS at hx
  rcases hx with rfl | rfl | rfl | rfl | rfl | rfl | rfl | rfl <;> omega
/-- The bytes of a packet's header. -/
def hdr (p : Pk) : List UInt8 := (pr8 p).flatMap hb
def hdrK (p : Pk) (k : Nat) : List UInt8 := ((pr8 p).take k).flatMap hb
theorem hdrK_zero (p : Pk) : hdrK p 0 = [] := by simp [hdrK]
theorem hdrK_succ {p : Pk} {k : Nat} {x : Int} (h : (pr8 p)[k]? = some x) : hdrK p (k + 1) = hdrK p k ++ hb x := by
  obtain ⟨hk, e⟩ := List.getElem?_eq_some_iff.1 h
  simp [hdrK, List.take_succ_eq_append_getElem hk, e]
theorem hdrK_all (p : Pk) : hdrK p 8 = hdr p := by rw [hdrK, hdr, List.take_of_length_le (by rw [pr8_len]; omega)]
theorem hdrK_len (p : Pk) (k : Nat) (hk : k ≤ 8) : (hdrK p k).length = 2 * k := by
  have : ∀ (l : List Int), (l.flatMap hb).length = 2 * l.length := fun l => by
    induction l with
    | nil => rfl
    | cons a l ih => simp [hb] at ih ⊢; omega
  rw [hdrK, this, List.length_take, pr8_len]
  omega
theorem hdr_len (p : Pk) : (hdr p).length = 16 := by rw [← hdrK_all, hdrK_len p 8 (by omega)]
/-- The packet that 16 bytes say. -/
def pOf (s : ByteArray) : Pk := ⟨65536 * nmA s 0 + nmA s 1, nmA s 2, nmA s 3, nmA s 4, nmA s 5, nmA s 6⟩
/-- Whether a string is a packet's header. -/
def rhOk (s : ByteArray) : Bool := decide (s.size = 16) && (pOf s).ok && decide ((⟨(hdr (pOf s)).toArray⟩ : ByteArray) = s)
def rhP (s : ByteArray) : Pk := if rhOk s then pOf s else ⟨0, 0, 0, 0, 0, 0⟩
theorem rh_no {s : ByteArray} (h : rhOk s = false) : rhP s = ⟨0, 0, 0, 0, 0, 0⟩ := by simp [rhP, h]
theorem rh_yes {s : ByteArray} (h : rhOk s = true) : rhP s = pOf s := by simp [rhP, h]
theorem i64_or8 (x y : Int) (h0 : 0 ≤ x) (h1 : x < 256) (g0 : 0 ≤ y) (g1 : y < 256) : bits .or .i64 (256 * x) y = 256 * x + y :=
  bits_join .i64 63 (by decide) (fun n a b => by rw [IntKind.wrap_i64]; omega) 8 (256 * x) y (by omega) (by omega) (by omega) g0 (by omega) (by omega)
theorem i64_or16 (x y : Int) (h0 : 0 ≤ x) (h1 : x < 65536) (g0 : 0 ≤ y) (g1 : y < 65536) : bits .or .i64 (65536 * x) y = 65536 * x + y :=
  bits_join .i64 63 (by decide) (fun n a b => by rw [IntKind.wrap_i64]; omega) 16 (65536 * x) y (by omega) (by omega) (by omega) g0 (by omega) (by omega)
theorem i64_and16 (x : Int) (h0 : 0 ≤ x) (h1 : x < 1000000000) : bits .and .i64 x 65535 = x % 65536 :=
  bits_mask .i64 63 (by decide) (fun n a b => by rw [IntKind.wrap_i64]; omega) 16 (by decide) x h0 (by omega)
end Go.Proofs.Ytbhcmolahohmiaa
