/- The contracts of what puts a packet in its flow. -/
import Derived.Test.YtgdldmeeaejjpaaFairDrop
import Derived.Test.YtgdldmeeaejjpaaFairHas
import Derived.Test.YtgdldmeeaejjpaaNestPut
namespace Go.Proofs.Ytgdldmeeaejjpaa
open Go.ChangeShapes Go.WideShapes Go.ChangeAt Go.RowKit
set_option linter.unusedVariables false
theorem pkFlow_v {p : Pk} {f v : Int} (h : flw p f = v) (w : World) (hp : p.ok = true) (hf : 1 ≤ f) (hf2 : f ≤ 1000000) :
    Calls Try.prog 100 #[.agg #[.int .i64 (p.id), .int .i64 (p.so), .int .i64 (p.de), .int .i64 (p.po), .int .i64 (p.ma), .int .i64 (p.si)], .int .i64 f] w fun e w' => e = .returned (.int .i64 v) ∧ Below w.heap.size w w' := h ▸ pkFlow_any p f w hp hf hf2
theorem flowOf_v {p : Pk} {f v : Int} (h : flw p f = v) (w : World) (hp : p.ok = true) (hf : 1 ≤ f) (hf2 : f ≤ 1000000) :
    Calls Try.prog 102 #[.agg #[.int .i64 (p.id), .int .i64 (p.so), .int .i64 (p.de), .int .i64 (p.po), .int .i64 (p.ma), .int .i64 (p.si)], .int .i64 f] w fun e w' => e = .returned (.int .i64 v) ∧ Below w.heap.size w w' := h ▸ flowOf_any p f w hp hf hf2
theorem FOwn.putRow {W w4 : World} {lo hi g n cap m capd i x xc a b lo' hi' t c' : Nat} {S : List Sl} {G : List (List Int)} {D l' : List Int} {X A' B : Option Addr} {cs : Array Value} {f : Nat × Nat} (hS : NOwnS W lo hi (some ⟨g, 0, none⟩) n cap S G) (hD : IOwn W lo hi 3 1 B m capd D)
    (hs : S[i]? = some ⟨X, x, xc⟩) (hhi : hi ≤ W.heap.size) (hc : Chg a b W w4) (ha : lo ≤ a) (hb : b ≤ hi) (ht : ∀ k, a ≤ k → k < b → (Value.slice X x xc).ownBlock = some k ∧ ∃ cs f, W.heap[k]? = some (.cells cs 35 f)) (h1 : IOwn w4 lo' hi' 35 6 A' t c' l') (hl : (lo' = a ∧ hi' = b) ∨ W.heap.size ≤ lo')
    (hg : W.heap[g]? = some (.cells cs 28 f)) (hga : g < a ∨ b ≤ g) :
    FOwn (w4.setCell ⟨g, i, none⟩ (.slice A' t c')) lo (w4.setCell ⟨g, i, none⟩ (.slice A' t c')).heap.size ⟨some ⟨g, 0, none⟩, n, cap, B, m, capd⟩ (G.set i l') D := by
  have hq := hS.swap (i := i) (t := ⟨A', t, c'⟩) hs hhi hc ha hb ht h1 hl
  have hg4 : w4.heap[g]? = some (.cells cs 28 f) := (hc.block g (Array.getElem?_eq_some_iff.1 hg).1 hga).trans hg
  have hd := ((hD.keepT (hc.keepT fun k h1 h2 => (ht k h1 h2).2) (by decide)).keepT (keepT_set2 (o := i) (u := .slice A' t c') hg4) (by decide)).here
  refine ⟨?_, hd⟩
  rw [World.size_setCell]
  exact ⟨_, hq⟩
set_option maxHeartbeats 2000000 in
theorem specPut_no (Q : Nat) (p : Pk) (i : Nat) (L : List Pk) (lo hi : Nat) (qu li : Int) (A : Option Addr) (n cap : Nat) (B : Option Addr) (m capd : Nat) (nx : Int) (op : Bool) (F : List (List Pk)) (D : List Int) (w : World) (ho : FOwn w lo hi ⟨A, n, cap, B, m, capd⟩ (F.map fl) D) (hq : Bk w Q 56 #[.int .i64 qu, .int .i64 li, .slice A n cap, .slice B m capd, .int .i64 nx, .bool op]) (hlo : lo ≤ w.heap.size) (hp : p.ok = true) (hn : 1 ≤ n) (hn8 : n ≤ 8) (hfl : flw p n = (i : Int)) (hk : F[i]? = some L) (hL : L.length ≤ 1048576) (hll : (L.length : Int) = li) :
    Calls Try.prog 89 #[.pointer (some ⟨Q, 0, none⟩), .agg #[.int .i64 (p.id), .int .i64 (p.so), .int .i64 (p.de), .int .i64 (p.po), .int .i64 (p.ma), .int .i64 (p.si)]] w fun e w' => e = .returned (.bool false) ∧ Below w.heap.size w w' := by
  have hin : i < n := by have := flw_b (p := p) (f := (n : Int)) (by omega); omega
  have hs0 := hq.lt
  obtain ⟨g, off, X, x, xc, rfl, hgl, hck, hxl, -⟩ := ho.row.q.at_ (k := i) (l := fl L) (by simp [hk])
  obtain rfl : L.length = x := by rw [fl_len] at hxl; omega
  have hg1 : decide (li ≤ (L.length : Int)) = true := decide_eq_true (by omega)
  have HQ := Lib.hid hq
  have HFL := Lib.hid hfl
  have hck' := ((ba (b0 w) (.cells #[.int .i64 p.id, .int .i64 p.so, .int .i64 p.de, .int .i64 p.po, .int .i64 p.ma, .int .i64 p.si] 35)).cell (p := ⟨g, off + i, none⟩) hgl).trans hck
  clear hq ho hfl hk hxl hck
  go_enter Try.func89, Try.ntmps89
  have HQ1 := Lib.hid (HQ.out.alloc (.cells #[.int .i64 p.id, .int .i64 p.so, .int .i64 p.de, .int .i64 p.po, .int .i64 p.ma, .int .i64 p.si] 35))
  have q1 := fun (u : Gr (w.alloc (.cells #[.int .i64 p.id, .int .i64 p.so, .int .i64 p.de, .int .i64 p.po, .int .i64 p.ma, .int .i64 p.si] 35))) => gr_cell (HQ1.out.cell 1) u
  have q2 := fun (u : Gr (w.alloc (.cells #[.int .i64 p.id, .int .i64 p.so, .int .i64 p.de, .int .i64 p.po, .int .i64 p.ma, .int .i64 p.si] 35))) => gr_cell (HQ1.out.cell 2) u
  have q3 := fun (u : Gr (w.alloc (.cells #[.int .i64 p.id, .int .i64 p.so, .int .i64 p.de, .int .i64 p.po, .int .i64 p.ma, .int .i64 p.si] 35))) => gr_cell hck' u
  have p0 := fun (u : Gr (w.alloc (.cells #[.int .i64 p.id, .int .i64 p.so, .int .i64 p.de, .int .i64 p.po, .int .i64 p.ma, .int .i64 p.si] 35))) => gr_cell ((Bk.new w 35 #[.int .i64 p.id, .int .i64 p.so, .int .i64 p.de, .int .i64 p.po, .int .i64 p.ma, .int .i64 p.si]).cell 0) u
  have p1 := fun (u : Gr (w.alloc (.cells #[.int .i64 p.id, .int .i64 p.so, .int .i64 p.de, .int .i64 p.po, .int .i64 p.ma, .int .i64 p.si] 35))) => gr_cell ((Bk.new w 35 #[.int .i64 p.id, .int .i64 p.so, .int .i64 p.de, .int .i64 p.po, .int .i64 p.ma, .int .i64 p.si]).cell 1) u
  have p2 := fun (u : Gr (w.alloc (.cells #[.int .i64 p.id, .int .i64 p.so, .int .i64 p.de, .int .i64 p.po, .int .i64 p.ma, .int .i64 p.si] 35))) => gr_cell ((Bk.new w 35 #[.int .i64 p.id, .int .i64 p.so, .int .i64 p.de, .int .i64 p.po, .int .i64 p.ma, .int .i64 p.si]).cell 2) u
  have p3 := fun (u : Gr (w.alloc (.cells #[.int .i64 p.id, .int .i64 p.so, .int .i64 p.de, .int .i64 p.po, .int .i64 p.ma, .int .i64 p.si] 35))) => gr_cell ((Bk.new w 35 #[.int .i64 p.id, .int .i64 p.so, .int .i64 p.de, .int .i64 p.po, .int .i64 p.ma, .int .i64 p.si]).cell 3) u
  have p4 := fun (u : Gr (w.alloc (.cells #[.int .i64 p.id, .int .i64 p.so, .int .i64 p.de, .int .i64 p.po, .int .i64 p.ma, .int .i64 p.si] 35))) => gr_cell ((Bk.new w 35 #[.int .i64 p.id, .int .i64 p.so, .int .i64 p.de, .int .i64 p.po, .int .i64 p.ma, .int .i64 p.si]).cell 4) u
  have p5 := fun (u : Gr (w.alloc (.cells #[.int .i64 p.id, .int .i64 p.so, .int .i64 p.de, .int .i64 p.po, .int .i64 p.ma, .int .i64 p.si] 35))) => gr_cell ((Bk.new w 35 #[.int .i64 p.id, .int .i64 p.so, .int .i64 p.de, .int .i64 p.po, .int .i64 p.ma, .int .i64 p.si]).cell 5) u
  go_wp2_with fail
  refine wp_region_gr (by kernel_rfl) (by kernel_rfl) ?_
  repeat (go_big_quiet_step ((go_at_call 100; (with_reducible exact gr_of (pkFlow_v HFL.out _ hp (by omega) (by omega))))))
  refine wpQuiet_nil ?_
  intro _ hw'
  obtain ⟨pq, hw''⟩ := hw'
  subst hw''
  go_wp2_with fail
  have v1 := fun (u : Gr pq.v) => gr_cell (q1 pq) u
  have v2 := fun (u : Gr pq.v) => gr_cell (q2 pq) u
  have v3 := fun (u : Gr pq.v) => gr_cell (q3 pq) u
  refine wp_region_gr (by kernel_rfl) (by kernel_rfl) ?_
  repeat (go_big_quiet_step (fail))
  refine wpQuiet_nil ?_
  intro _ hw'
  obtain ⟨pq2, hw''⟩ := hw'
  subst hw''
  go_wp2_with fail
  go_ret
  exact ⟨rfl, bt (bt (ba (b0 w) _) pq.h) pq2.h⟩
set_option maxHeartbeats 2000000 in
theorem implPut_no (Q : Nat) (p : Pk) (i : Nat) (L : List Pk) (lo hi : Nat) (qu li : Int) (A : Option Addr) (n cap : Nat) (B : Option Addr) (m capd : Nat) (nx : Int) (op : Bool) (F : List (List Pk)) (D : List Int) (w : World) (ho : FOwn w lo hi ⟨A, n, cap, B, m, capd⟩ (F.map fl) D) (hq : Bk w Q 56 #[.int .i64 qu, .int .i64 li, .slice A n cap, .slice B m capd, .int .i64 nx, .bool op]) (hlo : lo ≤ w.heap.size) (hp : p.ok = true) (hn : 1 ≤ n) (hn8 : n ≤ 8) (hfl : flw p n = (i : Int)) (hk : F[i]? = some L) (hL : L.length ≤ 1048576) (hll : (L.length : Int) = li) :
    Calls Try.prog 91 #[.pointer (some ⟨Q, 0, none⟩), .agg #[.int .i64 (p.id), .int .i64 (p.so), .int .i64 (p.de), .int .i64 (p.po), .int .i64 (p.ma), .int .i64 (p.si)]] w fun e w' => e = .returned (.bool false) ∧ Below w.heap.size w w' := by
  have hin : i < n := by have := flw_b (p := p) (f := (n : Int)) (by omega); omega
  have hs0 := hq.lt
  obtain ⟨g, off, X, x, xc, rfl, hgl, hck, hxl, -⟩ := ho.row.q.at_ (k := i) (l := fl L) (by simp [hk])
  obtain rfl : L.length = x := by rw [fl_len] at hxl; omega
  have hg1 : ((L.length : Int) == li) = true := (by simp; omega)
  have HQ := Lib.hid hq
  have HFL := Lib.hid hfl
  have hck' := ((ba (b0 w) (.cells #[.int .i64 p.id, .int .i64 p.so, .int .i64 p.de, .int .i64 p.po, .int .i64 p.ma, .int .i64 p.si] 35)).cell (p := ⟨g, off + i, none⟩) hgl).trans hck
  clear hq ho hfl hk hxl hck
  go_enter Try.func91, Try.ntmps91
  have HQ1 := Lib.hid (HQ.out.alloc (.cells #[.int .i64 p.id, .int .i64 p.so, .int .i64 p.de, .int .i64 p.po, .int .i64 p.ma, .int .i64 p.si] 35))
  have q1 := fun (u : Gr (w.alloc (.cells #[.int .i64 p.id, .int .i64 p.so, .int .i64 p.de, .int .i64 p.po, .int .i64 p.ma, .int .i64 p.si] 35))) => gr_cell (HQ1.out.cell 1) u
  have q2 := fun (u : Gr (w.alloc (.cells #[.int .i64 p.id, .int .i64 p.so, .int .i64 p.de, .int .i64 p.po, .int .i64 p.ma, .int .i64 p.si] 35))) => gr_cell (HQ1.out.cell 2) u
  have q3 := fun (u : Gr (w.alloc (.cells #[.int .i64 p.id, .int .i64 p.so, .int .i64 p.de, .int .i64 p.po, .int .i64 p.ma, .int .i64 p.si] 35))) => gr_cell hck' u
  have p0 := fun (u : Gr (w.alloc (.cells #[.int .i64 p.id, .int .i64 p.so, .int .i64 p.de, .int .i64 p.po, .int .i64 p.ma, .int .i64 p.si] 35))) => gr_cell ((Bk.new w 35 #[.int .i64 p.id, .int .i64 p.so, .int .i64 p.de, .int .i64 p.po, .int .i64 p.ma, .int .i64 p.si]).cell 0) u
  have p1 := fun (u : Gr (w.alloc (.cells #[.int .i64 p.id, .int .i64 p.so, .int .i64 p.de, .int .i64 p.po, .int .i64 p.ma, .int .i64 p.si] 35))) => gr_cell ((Bk.new w 35 #[.int .i64 p.id, .int .i64 p.so, .int .i64 p.de, .int .i64 p.po, .int .i64 p.ma, .int .i64 p.si]).cell 1) u
  have p2 := fun (u : Gr (w.alloc (.cells #[.int .i64 p.id, .int .i64 p.so, .int .i64 p.de, .int .i64 p.po, .int .i64 p.ma, .int .i64 p.si] 35))) => gr_cell ((Bk.new w 35 #[.int .i64 p.id, .int .i64 p.so, .int .i64 p.de, .int .i64 p.po, .int .i64 p.ma, .int .i64 p.si]).cell 2) u
  have p3 := fun (u : Gr (w.alloc (.cells #[.int .i64 p.id, .int .i64 p.so, .int .i64 p.de, .int .i64 p.po, .int .i64 p.ma, .int .i64 p.si] 35))) => gr_cell ((Bk.new w 35 #[.int .i64 p.id, .int .i64 p.so, .int .i64 p.de, .int .i64 p.po, .int .i64 p.ma, .int .i64 p.si]).cell 3) u
  have p4 := fun (u : Gr (w.alloc (.cells #[.int .i64 p.id, .int .i64 p.so, .int .i64 p.de, .int .i64 p.po, .int .i64 p.ma, .int .i64 p.si] 35))) => gr_cell ((Bk.new w 35 #[.int .i64 p.id, .int .i64 p.so, .int .i64 p.de, .int .i64 p.po, .int .i64 p.ma, .int .i64 p.si]).cell 4) u
  have p5 := fun (u : Gr (w.alloc (.cells #[.int .i64 p.id, .int .i64 p.so, .int .i64 p.de, .int .i64 p.po, .int .i64 p.ma, .int .i64 p.si] 35))) => gr_cell ((Bk.new w 35 #[.int .i64 p.id, .int .i64 p.so, .int .i64 p.de, .int .i64 p.po, .int .i64 p.ma, .int .i64 p.si]).cell 5) u
  go_wp2_with fail
  refine wp_region_gr (by kernel_rfl) (by kernel_rfl) ?_
  repeat (go_big_quiet_step ((go_at_call 102; (with_reducible exact gr_of (flowOf_v HFL.out _ hp (by omega) (by omega))))))
  refine wpQuiet_nil ?_
  intro _ hw'
  obtain ⟨pq, hw''⟩ := hw'
  subst hw''
  go_wp2_with fail
  have v1 := fun (u : Gr pq.v) => gr_cell (q1 pq) u
  have v2 := fun (u : Gr pq.v) => gr_cell (q2 pq) u
  have v3 := fun (u : Gr pq.v) => gr_cell (q3 pq) u
  refine wp_region_gr (by kernel_rfl) (by kernel_rfl) ?_
  repeat (go_big_quiet_step (fail))
  refine wpQuiet_nil ?_
  intro _ hw'
  obtain ⟨pq2, hw''⟩ := hw'
  subst hw''
  go_wp2_with fail
  go_ret
  exact ⟨rfl, bt (bt (ba (b0 w) _) pq.h) pq2.h⟩
set_option maxHeartbeats 4000000 in
theorem specPut_yes (Q : Nat) (p : Pk) (i : Nat) (L : List Pk) (lo hi : Nat) (qu li : Int) (A : Option Addr) (n cap : Nat) (B : Option Addr) (m capd : Nat) (nx : Int) (op : Bool) (F : List (List Pk)) (D : List Int) (w : World) (ho : FOwn w lo hi ⟨A, n, cap, B, m, capd⟩ (F.map fl) D) (hq : Bk w Q 56 #[.int .i64 qu, .int .i64 li, .slice A n cap, .slice B m capd, .int .i64 nx, .bool op]) (hQ : Q < lo ∨ hi ≤ Q) (hlo : lo ≤ hi) (hhi : hi ≤ w.heap.size) (hp : p.ok = true) (hn : 1 ≤ n) (hn8 : n ≤ 8) (hfl : flw p n = (i : Int)) (hk : F[i]? = some L) (hL : L.length ≤ 1048576) (hll : (L.length : Int) < li) :
    Calls Try.prog 89 #[.pointer (some ⟨Q, 0, none⟩), .agg #[.int .i64 (p.id), .int .i64 (p.so), .int .i64 (p.de), .int .i64 (p.po), .int .i64 (p.ma), .int .i64 (p.si)]] w fun e w' => e = .returned (.bool true) ∧ FOwn w' lo w'.heap.size ⟨A, n, cap, B, m, capd⟩ ((F.map fl).set i (fl (L ++ [p]))) D ∧ Below lo w w' ∧ Bk w' Q 56 #[.int .i64 qu, .int .i64 li, .slice A n cap, .slice B m capd, .int .i64 nx, .bool op] := by
  have hin : i < n := by have := flw_b (p := p) (f := (n : Int)) (by omega); omega
  have hs0 := hq.lt
  obtain ⟨⟨S, hS⟩, hD⟩ := ho
  simp only at hS hD
  obtain ⟨g, rfl, h1, h2, hgl, hc, hf, cs, fz, hgb⟩ := hS.at_ hin
  obtain ⟨⟨X, x, xc⟩, hs⟩ : ∃ s, S[i]? = some s := ⟨_, List.getElem?_eq_getElem (by rw [hS.slen]; exact hin)⟩
  have hck : w.cell? ⟨g, i, none⟩ = some (.slice X x xc) := hc i _ hs
  have HSF := Lib.hid (fun (W : World) (hb : Below w.heap.size w W) => (hb.frozen (p := ⟨g, i, none⟩) hgl).trans (hf i))
  obtain ⟨a, b, a1, a2, a3, hrow, hblk⟩ := (hS.2.2.1 i _ (fl L) hs (by simp [hk])).slim hlo
  simp only at hrow hblk
  obtain rfl : L.length = x := by have := hrow.len; rw [fl_len] at this; omega
  have hga : g < a ∨ b ≤ g := by
    rcases Nat.lt_or_ge g a with h' | h'
    · exact .inl h'
    rcases Nat.lt_or_ge g b with h2' | h2'
    · obtain ⟨_, cs', f', e⟩ := hblk g h' h2'
      rw [hgb] at e
      injection e with e
      injection e with _ e
      cases e
    · exact .inr h2'
  have hg1 : decide (li ≤ (L.length : Int)) = false := decide_eq_false (by omega)
  have HQ := Lib.hid hq
  have HFL := Lib.hid hfl
  have HS := Lib.hid hS
  have HSI := Lib.hid hs
  have HD := Lib.hid hD
  have HROW := Lib.hid hrow
  have HBLK := Lib.hid hblk
  have HGB := Lib.hid hgb
  have hb1 := ba (b0 w) (.cells #[.int .i64 p.id, .int .i64 p.so, .int .i64 p.de, .int .i64 p.po, .int .i64 p.ma, .int .i64 p.si] 35)
  have hck' := (hb1.cell (p := ⟨g, i, none⟩) hgl).trans hck
  have HB1 := Lib.hid hb1
  clear hq hfl hk hck hc hf hS hs hD hrow hblk hgb hb1
  go_enter Try.func89, Try.ntmps89
  have HQ1 := Lib.hid (HQ.out.alloc (.cells #[.int .i64 p.id, .int .i64 p.so, .int .i64 p.de, .int .i64 p.po, .int .i64 p.ma, .int .i64 p.si] 35))
  have HP1 := Lib.hid (Bk.new w 35 #[.int .i64 p.id, .int .i64 p.so, .int .i64 p.de, .int .i64 p.po, .int .i64 p.ma, .int .i64 p.si])
  have q1 := fun (u : Gr (w.alloc (.cells #[.int .i64 p.id, .int .i64 p.so, .int .i64 p.de, .int .i64 p.po, .int .i64 p.ma, .int .i64 p.si] 35))) => gr_cell (HQ1.out.cell 1) u
  have q2 := fun (u : Gr (w.alloc (.cells #[.int .i64 p.id, .int .i64 p.so, .int .i64 p.de, .int .i64 p.po, .int .i64 p.ma, .int .i64 p.si] 35))) => gr_cell (HQ1.out.cell 2) u
  have q3 := fun (u : Gr (w.alloc (.cells #[.int .i64 p.id, .int .i64 p.so, .int .i64 p.de, .int .i64 p.po, .int .i64 p.ma, .int .i64 p.si] 35))) => gr_cell hck' u
  have p0 := fun (u : Gr (w.alloc (.cells #[.int .i64 p.id, .int .i64 p.so, .int .i64 p.de, .int .i64 p.po, .int .i64 p.ma, .int .i64 p.si] 35))) => gr_cell (HP1.out.cell 0) u
  have p1 := fun (u : Gr (w.alloc (.cells #[.int .i64 p.id, .int .i64 p.so, .int .i64 p.de, .int .i64 p.po, .int .i64 p.ma, .int .i64 p.si] 35))) => gr_cell (HP1.out.cell 1) u
  have p2 := fun (u : Gr (w.alloc (.cells #[.int .i64 p.id, .int .i64 p.so, .int .i64 p.de, .int .i64 p.po, .int .i64 p.ma, .int .i64 p.si] 35))) => gr_cell (HP1.out.cell 2) u
  have p3 := fun (u : Gr (w.alloc (.cells #[.int .i64 p.id, .int .i64 p.so, .int .i64 p.de, .int .i64 p.po, .int .i64 p.ma, .int .i64 p.si] 35))) => gr_cell (HP1.out.cell 3) u
  have p4 := fun (u : Gr (w.alloc (.cells #[.int .i64 p.id, .int .i64 p.so, .int .i64 p.de, .int .i64 p.po, .int .i64 p.ma, .int .i64 p.si] 35))) => gr_cell (HP1.out.cell 4) u
  have p5 := fun (u : Gr (w.alloc (.cells #[.int .i64 p.id, .int .i64 p.so, .int .i64 p.de, .int .i64 p.po, .int .i64 p.ma, .int .i64 p.si] 35))) => gr_cell (HP1.out.cell 5) u
  go_wp2_with fail
  refine wp_region_gr (by kernel_rfl) (by kernel_rfl) ?_
  repeat (go_big_quiet_step ((go_at_call 100; (with_reducible exact gr_of (pkFlow_v HFL.out _ hp (by omega) (by omega))))))
  refine wpQuiet_nil ?_
  intro _ hw'
  obtain ⟨pq, hw''⟩ := hw'
  subst hw''
  go_wp2_with fail
  have v1 := fun (u : Gr pq.v) => gr_cell (q1 pq) u
  have v2 := fun (u : Gr pq.v) => gr_cell (q2 pq) u
  have v3 := fun (u : Gr pq.v) => gr_cell (q3 pq) u
  refine wp_region_gr (by kernel_rfl) (by kernel_rfl) ?_
  repeat (go_big_quiet_step (fail))
  refine wpQuiet_nil ?_
  intro _ hw'
  obtain ⟨pq2, hw''⟩ := hw'
  subst hw''
  go_wp2_with fail
  obtain ⟨W, hW⟩ : ∃ W, W = pq2.v := ⟨_, rfl⟩
  have HBW := Lib.hid (show Below (w.heap.size + 1) (w.alloc (.cells #[.int .i64 p.id, .int .i64 p.so, .int .i64 p.de, .int .i64 p.po, .int .i64 p.ma, .int .i64 p.si] 35)) W from by rw [hW]; exact (bt pq.h pq2.h).mono (by simp))
  rw [← hW]
  clear hW q1 q2 q3 v1 v2 v3 p0 p1 p2 p3 p4 p5
  clear pq2
  clear pq
  have HB := Lib.hid (show Below w.heap.size w W from HB1.out.trans (HBW.out.mono (by omega)))
  have zW := HBW.out.size
  simp at zW
  have qb : Bk W (Q) 56 #[.int .i64 qu, .int .i64 li, .slice (some ⟨g, 0, none⟩) n cap, .slice B m capd, .int .i64 nx, .bool op] := HQ1.out.below HBW.out (by omega)
  have zqb : Q < W.heap.size := qb.lt
  have qb_0 : W.cell? ⟨Q, 0, none⟩ = some (.int .i64 qu) := qb.cell 0
  have qb_1 : W.cell? ⟨Q, 1, none⟩ = some (.int .i64 li) := qb.cell 1
  have qb_2 : W.cell? ⟨Q, 2, none⟩ = some (.slice (some ⟨g, 0, none⟩) n cap) := qb.cell 2
  have qb_3 : W.cell? ⟨Q, 3, none⟩ = some (.slice B m capd) := qb.cell 3
  have qb_4 : W.cell? ⟨Q, 4, none⟩ = some (.int .i64 nx) := qb.cell 4
  have qb_5 : W.cell? ⟨Q, 5, none⟩ = some (.bool op) := qb.cell 5
  have qbf := qb.free
  have Hqb := Lib.hid qb
  clear qb
  have pb : Bk W (w.heap.size) 35 #[.int .i64 p.id, .int .i64 p.so, .int .i64 p.de, .int .i64 p.po, .int .i64 p.ma, .int .i64 p.si] := HP1.out.below HBW.out (by omega)
  have zpb : w.heap.size < W.heap.size := pb.lt
  have pb_0 : W.cell? ⟨w.heap.size, 0, none⟩ = some (.int .i64 p.id) := pb.cell 0
  have pb_1 : W.cell? ⟨w.heap.size, 1, none⟩ = some (.int .i64 p.so) := pb.cell 1
  have pb_2 : W.cell? ⟨w.heap.size, 2, none⟩ = some (.int .i64 p.de) := pb.cell 2
  have pb_3 : W.cell? ⟨w.heap.size, 3, none⟩ = some (.int .i64 p.po) := pb.cell 3
  have pb_4 : W.cell? ⟨w.heap.size, 4, none⟩ = some (.int .i64 p.ma) := pb.cell 4
  have pb_5 : W.cell? ⟨w.heap.size, 5, none⟩ = some (.int .i64 p.si) := pb.cell 5
  have pbf := pb.free
  have Hpb := Lib.hid pb
  clear pb
  have hcW : W.cell? ⟨g, i, none⟩ = some (.slice X L.length xc) := (HBW.out.cell (p := ⟨g, i, none⟩) (show g < w.heap.size + 1 by omega)).trans hck'
  have hfW : W.frozen? ⟨g, i, none⟩ = false := HSF.out W HB.out
  have HRW := Lib.hid (HROW.out.old HB.out)
  have HSW := Lib.hid (HS.out.old HB.out)
  have HDW := Lib.hid (HD.out.old HB.out)
  have HGW := Lib.hid ((HB.out.block g hgl).trans HGB.out)
  have HTW := Lib.hid (fun (k : Nat) (h1 : a ≤ k) (h2 : k < b) => (⟨(HBLK.out k h1 h2).1, _, _, (HB.out.block k (by omega)).trans (HBLK.out k h1 h2).2.choose_spec.choose_spec⟩ : (Value.slice X L.length xc).ownBlock = some k ∧ ∃ cs f, W.heap[k]? = some (.cells cs 35 f)))
  have lg1 : g < W.heap.size := by omega
  have lg2 : ¬ g = W.heap.size := by omega
  have lg3 : ¬ W.heap.size = g := by omega
  have lq1 : ¬ Q = W.heap.size := by omega
  have lq2 : ¬ W.heap.size = Q := by omega
  have lq3 : ¬ Q = g := by omega
  have lq4 : ¬ g = Q := by omega
  go_region_law (first
    | (refine step_append_pkD (by rfl) _ _ (by rfl) (lo := a) (hh := b) (L := L) (by rfl) (HRW.out.drew.alloc _) W.heap.size p (by rfl) (Bk.new_ rfl) (by omega) (by first | omega | (simp; done) | (simp; omega)) ?_; intro A' c' w4 lo' hi' hlh ho4 hc4; have r4 := (chkeep hc4 Q 2 (by simp; omega) (by omega)); have rg4 := (chkeep hc4 g i (by simp; omega) (by omega)); have rf4 := World.frozen?_of_block (a := ⟨g, i, none⟩) (hc4.block g (by simp; omega) (by omega)); have z4 := hc4.size; simp at z4 hlh))
  all_goals
    have HC4 := Lib.hid hc4
    have HO4 := Lib.hid ho4
    clear hc4 ho4
    go_wp2_with fail
    go_ret
    refine ⟨rfl, ?_, ?_, ((Hqb.out.drew.alloc _).chg HC4.out (by omega)).farB lq3⟩
    · exact FOwn.putRow ((NOwnS.keep (w' := W.drew) HSW.out fun _ _ _ _ => rfl).alloc _) (HDW.out.drew.alloc _) HSI.out (by simp; omega) HC4.out a1 a3 (fun k h1 h2 => ⟨(HTW.out k h1 h2).1, _, _, (Below.heap_alloc W.drew _ k (by show k < W.heap.size; omega)).trans (HTW.out k h1 h2).2.choose_spec.choose_spec⟩) HO4.out (by simp; omega) ((Below.heap_alloc W.drew _ g lg1).trans HGW.out) hga
    · have hb4 : Below lo w w4 := ⟨HC4.out.os.trans HB.out.os, HC4.out.tape.trans HB.out.tape, HC4.out.output.trans HB.out.output, Nat.le_trans HB.out.size (Nat.le_trans (by simp) HC4.out.size), fun k hk => ((HC4.out.block k (by simp; omega) (.inl (by omega))).trans (Below.heap_alloc W.drew _ k (by show k < W.heap.size; omega))).trans (HB.out.block k (by omega))⟩
      exact hb4.setCell (by omega) _
set_option maxHeartbeats 4000000 in
theorem implPut_yes (Q : Nat) (p : Pk) (i : Nat) (L : List Pk) (lo hi : Nat) (qu li : Int) (A : Option Addr) (n cap : Nat) (B : Option Addr) (m capd : Nat) (nx : Int) (op : Bool) (F : List (List Pk)) (D : List Int) (w : World) (ho : FOwn w lo hi ⟨A, n, cap, B, m, capd⟩ (F.map fl) D) (hq : Bk w Q 56 #[.int .i64 qu, .int .i64 li, .slice A n cap, .slice B m capd, .int .i64 nx, .bool op]) (hQ : Q < lo ∨ hi ≤ Q) (hlo : lo ≤ hi) (hhi : hi ≤ w.heap.size) (hp : p.ok = true) (hn : 1 ≤ n) (hn8 : n ≤ 8) (hfl : flw p n = (i : Int)) (hk : F[i]? = some L) (hL : L.length ≤ 1048576) (hll : (L.length : Int) < li) :
    Calls Try.prog 91 #[.pointer (some ⟨Q, 0, none⟩), .agg #[.int .i64 (p.id), .int .i64 (p.so), .int .i64 (p.de), .int .i64 (p.po), .int .i64 (p.ma), .int .i64 (p.si)]] w fun e w' => e = .returned (.bool true) ∧ FOwn w' lo w'.heap.size ⟨A, n, cap, B, m, capd⟩ ((F.map fl).set i (fl (L ++ [p]))) D ∧ Below lo w w' ∧ Bk w' Q 56 #[.int .i64 qu, .int .i64 li, .slice A n cap, .slice B m capd, .int .i64 nx, .bool op] := by
  have hin : i < n := by have := flw_b (p := p) (f := (n : Int)) (by omega); omega
  have hs0 := hq.lt
  obtain ⟨⟨S, hS⟩, hD⟩ := ho
  simp only at hS hD
  obtain ⟨g, rfl, h1, h2, hgl, hc, hf, cs, fz, hgb⟩ := hS.at_ hin
  obtain ⟨⟨X, x, xc⟩, hs⟩ : ∃ s, S[i]? = some s := ⟨_, List.getElem?_eq_getElem (by rw [hS.slen]; exact hin)⟩
  have hck : w.cell? ⟨g, i, none⟩ = some (.slice X x xc) := hc i _ hs
  have HSF := Lib.hid (fun (W : World) (hb : Below w.heap.size w W) => (hb.frozen (p := ⟨g, i, none⟩) hgl).trans (hf i))
  obtain ⟨a, b, a1, a2, a3, hrow, hblk⟩ := (hS.2.2.1 i _ (fl L) hs (by simp [hk])).slim hlo
  simp only at hrow hblk
  obtain rfl : L.length = x := by have := hrow.len; rw [fl_len] at this; omega
  have hga : g < a ∨ b ≤ g := by
    rcases Nat.lt_or_ge g a with h' | h'
    · exact .inl h'
    rcases Nat.lt_or_ge g b with h2' | h2'
    · obtain ⟨_, cs', f', e⟩ := hblk g h' h2'
      rw [hgb] at e
      injection e with e
      injection e with _ e
      cases e
    · exact .inr h2'
  have hg1 : ((L.length : Int) == li) = false := (by simp; omega)
  have HQ := Lib.hid hq
  have HFL := Lib.hid hfl
  have HS := Lib.hid hS
  have HSI := Lib.hid hs
  have HD := Lib.hid hD
  have HROW := Lib.hid hrow
  have HBLK := Lib.hid hblk
  have HGB := Lib.hid hgb
  have hb1 := ba (b0 w) (.cells #[.int .i64 p.id, .int .i64 p.so, .int .i64 p.de, .int .i64 p.po, .int .i64 p.ma, .int .i64 p.si] 35)
  have hck' := (hb1.cell (p := ⟨g, i, none⟩) hgl).trans hck
  have HB1 := Lib.hid hb1
  clear hq hfl hk hck hc hf hS hs hD hrow hblk hgb hb1
  go_enter Try.func91, Try.ntmps91
  have HQ1 := Lib.hid (HQ.out.alloc (.cells #[.int .i64 p.id, .int .i64 p.so, .int .i64 p.de, .int .i64 p.po, .int .i64 p.ma, .int .i64 p.si] 35))
  have HP1 := Lib.hid (Bk.new w 35 #[.int .i64 p.id, .int .i64 p.so, .int .i64 p.de, .int .i64 p.po, .int .i64 p.ma, .int .i64 p.si])
  have q1 := fun (u : Gr (w.alloc (.cells #[.int .i64 p.id, .int .i64 p.so, .int .i64 p.de, .int .i64 p.po, .int .i64 p.ma, .int .i64 p.si] 35))) => gr_cell (HQ1.out.cell 1) u
  have q2 := fun (u : Gr (w.alloc (.cells #[.int .i64 p.id, .int .i64 p.so, .int .i64 p.de, .int .i64 p.po, .int .i64 p.ma, .int .i64 p.si] 35))) => gr_cell (HQ1.out.cell 2) u
  have q3 := fun (u : Gr (w.alloc (.cells #[.int .i64 p.id, .int .i64 p.so, .int .i64 p.de, .int .i64 p.po, .int .i64 p.ma, .int .i64 p.si] 35))) => gr_cell hck' u
  have p0 := fun (u : Gr (w.alloc (.cells #[.int .i64 p.id, .int .i64 p.so, .int .i64 p.de, .int .i64 p.po, .int .i64 p.ma, .int .i64 p.si] 35))) => gr_cell (HP1.out.cell 0) u
  have p1 := fun (u : Gr (w.alloc (.cells #[.int .i64 p.id, .int .i64 p.so, .int .i64 p.de, .int .i64 p.po, .int .i64 p.ma, .int .i64 p.si] 35))) => gr_cell (HP1.out.cell 1) u
  have p2 := fun (u : Gr (w.alloc (.cells #[.int .i64 p.id, .int .i64 p.so, .int .i64 p.de, .int .i64 p.po, .int .i64 p.ma, .int .i64 p.si] 35))) => gr_cell (HP1.out.cell 2) u
  have p3 := fun (u : Gr (w.alloc (.cells #[.int .i64 p.id, .int .i64 p.so, .int .i64 p.de, .int .i64 p.po, .int .i64 p.ma, .int .i64 p.si] 35))) => gr_cell (HP1.out.cell 3) u
  have p4 := fun (u : Gr (w.alloc (.cells #[.int .i64 p.id, .int .i64 p.so, .int .i64 p.de, .int .i64 p.po, .int .i64 p.ma, .int .i64 p.si] 35))) => gr_cell (HP1.out.cell 4) u
  have p5 := fun (u : Gr (w.alloc (.cells #[.int .i64 p.id, .int .i64 p.so, .int .i64 p.de, .int .i64 p.po, .int .i64 p.ma, .int .i64 p.si] 35))) => gr_cell (HP1.out.cell 5) u
  go_wp2_with fail
  refine wp_region_gr (by kernel_rfl) (by kernel_rfl) ?_
  repeat (go_big_quiet_step ((go_at_call 102; (with_reducible exact gr_of (flowOf_v HFL.out _ hp (by omega) (by omega))))))
  refine wpQuiet_nil ?_
  intro _ hw'
  obtain ⟨pq, hw''⟩ := hw'
  subst hw''
  go_wp2_with fail
  have v1 := fun (u : Gr pq.v) => gr_cell (q1 pq) u
  have v2 := fun (u : Gr pq.v) => gr_cell (q2 pq) u
  have v3 := fun (u : Gr pq.v) => gr_cell (q3 pq) u
  refine wp_region_gr (by kernel_rfl) (by kernel_rfl) ?_
  repeat (go_big_quiet_step (fail))
  refine wpQuiet_nil ?_
  intro _ hw'
  obtain ⟨pq2, hw''⟩ := hw'
  subst hw''
  go_wp2_with fail
  obtain ⟨W, hW⟩ : ∃ W, W = pq2.v := ⟨_, rfl⟩
  have HBW := Lib.hid (show Below (w.heap.size + 1) (w.alloc (.cells #[.int .i64 p.id, .int .i64 p.so, .int .i64 p.de, .int .i64 p.po, .int .i64 p.ma, .int .i64 p.si] 35)) W from by rw [hW]; exact (bt pq.h pq2.h).mono (by simp))
  rw [← hW]
  clear hW q1 q2 q3 v1 v2 v3 p0 p1 p2 p3 p4 p5
  clear pq2
  clear pq
  have HB := Lib.hid (show Below w.heap.size w W from HB1.out.trans (HBW.out.mono (by omega)))
  have zW := HBW.out.size
  simp at zW
  have qb : Bk W (Q) 56 #[.int .i64 qu, .int .i64 li, .slice (some ⟨g, 0, none⟩) n cap, .slice B m capd, .int .i64 nx, .bool op] := HQ1.out.below HBW.out (by omega)
  have zqb : Q < W.heap.size := qb.lt
  have qb_0 : W.cell? ⟨Q, 0, none⟩ = some (.int .i64 qu) := qb.cell 0
  have qb_1 : W.cell? ⟨Q, 1, none⟩ = some (.int .i64 li) := qb.cell 1
  have qb_2 : W.cell? ⟨Q, 2, none⟩ = some (.slice (some ⟨g, 0, none⟩) n cap) := qb.cell 2
  have qb_3 : W.cell? ⟨Q, 3, none⟩ = some (.slice B m capd) := qb.cell 3
  have qb_4 : W.cell? ⟨Q, 4, none⟩ = some (.int .i64 nx) := qb.cell 4
  have qb_5 : W.cell? ⟨Q, 5, none⟩ = some (.bool op) := qb.cell 5
  have qbf := qb.free
  have Hqb := Lib.hid qb
  clear qb
  have pb : Bk W (w.heap.size) 35 #[.int .i64 p.id, .int .i64 p.so, .int .i64 p.de, .int .i64 p.po, .int .i64 p.ma, .int .i64 p.si] := HP1.out.below HBW.out (by omega)
  have zpb : w.heap.size < W.heap.size := pb.lt
  have pb_0 : W.cell? ⟨w.heap.size, 0, none⟩ = some (.int .i64 p.id) := pb.cell 0
  have pb_1 : W.cell? ⟨w.heap.size, 1, none⟩ = some (.int .i64 p.so) := pb.cell 1
  have pb_2 : W.cell? ⟨w.heap.size, 2, none⟩ = some (.int .i64 p.de) := pb.cell 2
  have pb_3 : W.cell? ⟨w.heap.size, 3, none⟩ = some (.int .i64 p.po) := pb.cell 3
  have pb_4 : W.cell? ⟨w.heap.size, 4, none⟩ = some (.int .i64 p.ma) := pb.cell 4
  have pb_5 : W.cell? ⟨w.heap.size, 5, none⟩ = some (.int .i64 p.si) := pb.cell 5
  have pbf := pb.free
  have Hpb := Lib.hid pb
  clear pb
  have hcW : W.cell? ⟨g, i, none⟩ = some (.slice X L.length xc) := (HBW.out.cell (p := ⟨g, i, none⟩) (show g < w.heap.size + 1 by omega)).trans hck'
  have hfW : W.frozen? ⟨g, i, none⟩ = false := HSF.out W HB.out
  have HRW := Lib.hid (HROW.out.old HB.out)
  have HSW := Lib.hid (HS.out.old HB.out)
  have HDW := Lib.hid (HD.out.old HB.out)
  have HGW := Lib.hid ((HB.out.block g hgl).trans HGB.out)
  have HTW := Lib.hid (fun (k : Nat) (h1 : a ≤ k) (h2 : k < b) => (⟨(HBLK.out k h1 h2).1, _, _, (HB.out.block k (by omega)).trans (HBLK.out k h1 h2).2.choose_spec.choose_spec⟩ : (Value.slice X L.length xc).ownBlock = some k ∧ ∃ cs f, W.heap[k]? = some (.cells cs 35 f)))
  have lg1 : g < W.heap.size := by omega
  have lg2 : ¬ g = W.heap.size := by omega
  have lg3 : ¬ W.heap.size = g := by omega
  have lq1 : ¬ Q = W.heap.size := by omega
  have lq2 : ¬ W.heap.size = Q := by omega
  have lq3 : ¬ Q = g := by omega
  have lq4 : ¬ g = Q := by omega
  go_region_law (first
    | (refine step_append_pkD (by rfl) _ _ (by rfl) (lo := a) (hh := b) (L := L) (by rfl) (HRW.out.drew.alloc _) W.heap.size p (by rfl) (Bk.new_ rfl) (by omega) (by first | omega | (simp; done) | (simp; omega)) ?_; intro A' c' w4 lo' hi' hlh ho4 hc4; have r4 := (chkeep hc4 Q 2 (by simp; omega) (by omega)); have rg4 := (chkeep hc4 g i (by simp; omega) (by omega)); have rf4 := World.frozen?_of_block (a := ⟨g, i, none⟩) (hc4.block g (by simp; omega) (by omega)); have z4 := hc4.size; simp at z4 hlh))
  all_goals
    have HC4 := Lib.hid hc4
    have HO4 := Lib.hid ho4
    clear hc4 ho4
    go_wp2_with fail
    go_ret
    refine ⟨rfl, ?_, ?_, ((Hqb.out.drew.alloc _).chg HC4.out (by omega)).farB lq3⟩
    · exact FOwn.putRow ((NOwnS.keep (w' := W.drew) HSW.out fun _ _ _ _ => rfl).alloc _) (HDW.out.drew.alloc _) HSI.out (by simp; omega) HC4.out a1 a3 (fun k h1 h2 => ⟨(HTW.out k h1 h2).1, _, _, (Below.heap_alloc W.drew _ k (by show k < W.heap.size; omega)).trans (HTW.out k h1 h2).2.choose_spec.choose_spec⟩) HO4.out (by simp; omega) ((Below.heap_alloc W.drew _ g lg1).trans HGW.out) hga
    · have hb4 : Below lo w w4 := ⟨HC4.out.os.trans HB.out.os, HC4.out.tape.trans HB.out.tape, HC4.out.output.trans HB.out.output, Nat.le_trans HB.out.size (Nat.le_trans (by simp) HC4.out.size), fun k hk => ((HC4.out.block k (by simp; omega) (.inl (by omega))).trans (Below.heap_alloc W.drew _ k (by show k < W.heap.size; omega))).trans (HB.out.block k (by omega))⟩
      exact hb4.setCell (by omega) _
end Go.Proofs.Ytgdldmeeaejjpaa
