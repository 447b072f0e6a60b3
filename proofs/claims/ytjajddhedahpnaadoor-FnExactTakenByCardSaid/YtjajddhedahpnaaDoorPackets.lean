/- The contracts of what says whether a list are packets, and of their sizes' sum. -/
import Derived.Test.YtjajddhedahpnaaDoorPacket
import Derived.Test.YtjajddhedahpnaaDoorPk
namespace Go.Proofs.YtjajddhedahpnaaDoor
open Go.ChangeShapes Go.WideShapes Go.ChangeAt Go.RowKit
set_option linter.unusedVariables false
def Pk.ok (p : Pk) : Bool := pok p.id p.so p.de p.po p.ma p.si
theorem Pk.ok_iff {p : Pk} : p.ok = true ↔ (1 ≤ p.id ∧ p.id ≤ 100000) ∧ (0 ≤ p.so ∧ p.so ≤ 65535) ∧ (0 ≤ p.de ∧ p.de ≤ 65535) ∧ (0 ≤ p.po ∧ p.po ≤ 65535) ∧ (0 ≤ p.ma ∧ p.ma ≤ 65535) ∧ 1 ≤ p.si ∧ p.si ≤ 1500 := pok_iff
def pat (L : List Pk) (i : Nat) : Pk := L[i]?.getD default
theorem pat_of {L : List Pk} {i : Nat} {p : Pk} (h : L[i]? = some p) : pat L i = p := by simp [pat, h]
theorem pkGood_b {b : Bool} {p : Pk} (h : p.ok = b) (w : World) :
    Calls Tryd.prog 27 #[.agg #[.int .i64 (p.id), .int .i64 (p.so), .int .i64 (p.de), .int .i64 (p.po), .int .i64 (p.ma), .int .i64 (p.si)]] w fun e w' => e = .returned (.bool b) ∧ Below w.heap.size w w' := h ▸ pkGood_any _ _ _ _ _ _ w
theorem isPacket_b {b : Bool} {p : Pk} (h : p.ok = b) (w : World) :
    Calls Tryd.prog 32 #[.agg #[.int .i64 (p.id), .int .i64 (p.so), .int .i64 (p.de), .int .i64 (p.po), .int .i64 (p.ma), .int .i64 (p.si)]] w fun e w' => e = .returned (.bool b) ∧ Below w.heap.size w w' := h ▸ implIsPacket_any _ _ _ _ _ _ w
end Go.Proofs.YtjajddhedahpnaaDoor
