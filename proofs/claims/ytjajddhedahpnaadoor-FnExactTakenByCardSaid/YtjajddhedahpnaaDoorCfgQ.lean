/- The contract of marking a configuration's rows. -/
import Derived.Test.YtjajddhedahpnaaDoorCfgL
import Derived.Test.YtjajddhedahpnaaDoorInts
namespace Go.Proofs.YtjajddhedahpnaaDoor
open Go.ChangeShapes Go.WideShapes Go.ChangeAt Go.RowKit
set_option linter.unusedVariables false
theorem own_ex {w : World} {lo hi e s : Nat} {A : Option Addr} {n cap : Nat} {l : List Int} (h : IOwn w lo hi e s A n cap l) : ∃ lo' hi', lo ≤ lo' ∧ hi' ≤ hi ∧ IOwn w lo' hi' e s A n cap l := ⟨lo, hi, Nat.le_refl _, Nat.le_refl _, h⟩
theorem Chg.wide {lo hi lo' hi' : Nat} {w w' : World} (h : Chg lo hi w w') (h1 : lo' ≤ lo) (h2 : hi ≤ hi') : Chg lo' hi' w w' := ⟨h.os, h.tape, h.output, h.size, fun k hk ho => h.block k hk (by omega)⟩
set_option maxHeartbeats 1000000 in
theorem markConfig_any (nm : ByteArray) (A : Option Addr) (n cap : Nat) (B : Option Addr) (m capb : Nat) (df : Int) (lc lf : List Int) (k : Int) (lo hi lo2 hi2 : Nat) (w : World) (ho : IOwn w lo hi 74 8 A n cap lc) (ho2 : IOwn w lo2 hi2 62 5 B m capb lf) (h1 : lo ≤ hi) (h2 : hi ≤ lo2) (h3 : lo2 ≤ hi2) (h4 : hi2 ≤ w.heap.size) (hn : n ≤ 1048576) (hm : m ≤ 1048576) (k0 : 0 ≤ k) (k1 : k ≤ 1048576) :
    Calls Tryd.prog 18 #[.agg #[.string nm, .slice A n cap, .slice B m capb, .int .i64 df], .int .i64 k] w fun e w' => e = .returned (.int .i64 (k + (n * 8 : Nat) + (m * 5 : Nat))) ∧ Chg lo hi2 w w' := by
  have HO := Lib.hid (ho.alloc (.cells #[.string nm, .slice A n cap, .slice B m capb, .int .i64 df] 34))
  have HO2 := Lib.hid (ho2.alloc (.cells #[.string nm, .slice A n cap, .slice B m capb, .int .i64 df] 34))
  have HBX := Lib.hid (show Bk (w.alloc (.cells #[.string nm, .slice A n cap, .slice B m capb, .int .i64 df] 34)) w.heap.size 34 #[.string nm, .slice A n cap, .slice B m capb, .int .i64 df] from Bk.new _ _ _)
  have HC0 := Lib.hid (show Chg lo hi2 w (w.alloc (.cells #[.string nm, .slice A n cap, .slice B m capb, .int .i64 df] 34)) from Chg.of_below (ba (b0 w) _))
  clear ho ho2
  go_enter Tryd.func18, Tryd.ntmps18
  go_wp2_with fail
  refine (markClassS_any A n cap lc k lo hi _ HO.out (by omega) k0 (by omega)).mono ?_
  rintro e w1 ⟨rfl, ho1, hc1⟩
  have HX1 := Lib.hid (HBX.out.chg hc1 (.inr (by omega)))
  have HO3 := Lib.hid (HO2.out.chg hc1 (.inr h2))
  have HC1 := Lib.hid (HC0.out.trans (hc1.wide (Nat.le_refl _) (by omega)))
  have z1 := hc1.size
  clear ho1 hc1
  have b : Bk w1 (w.heap.size) 34 #[.string nm, .slice A n cap, .slice B m capb, .int .i64 df] := HX1.out
  have zb : w.heap.size < w1.heap.size := b.lt
  have b_0 : w1.cell? ⟨w.heap.size, 0, none⟩ = some (.string nm) := b.cell 0
  have b_1 : w1.cell? ⟨w.heap.size, 1, none⟩ = some (.slice A n cap) := b.cell 1
  have b_2 : w1.cell? ⟨w.heap.size, 2, none⟩ = some (.slice B m capb) := b.cell 2
  have b_3 : w1.cell? ⟨w.heap.size, 3, none⟩ = some (.int .i64 df) := b.cell 3
  have bf := b.free
  have Hb := Lib.hid b
  clear b
  go_wp2_with fail
  refine (markFilterS_any B m capb lf _ lo2 hi2 _ HO3.out (by omega) (by omega) (by omega)).mono ?_
  rintro e w2 ⟨rfl, ho2, hc2⟩
  have HC2 := Lib.hid (HC1.out.trans (hc2.wide (by omega) (Nat.le_refl _)))
  go_wp2_with fail
  go_ret
  exact ⟨rfl, HC2.out⟩
end Go.Proofs.YtjajddhedahpnaaDoor
