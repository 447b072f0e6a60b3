/- append of one element: the row stays where it is or goes into a new block. No program in sight, no condition. -/
import Derived.Test.YtgdldmeeaejjpaaAppendC
namespace Go.Proofs.Ytgdldmeeaejjpaa
open Go.ChangeShapes Go.WideShapes Go.ChangeAt Go.RowKit
theorem run_append_two {P : Program} {w : World} (t ty e : TypeId) (i : TypeInfo) (z : Value) (s bytes : Nat) (ht : P.underlying t = some (.slice e)) (hi : P.info? e = some i) (hz : i.zero = some z)
    (hsize : i.size = s) (hby : i.bytes = bytes) (hzs : z.cells.size = s) (hsz : 0 < s) {lo hh : Nat} {A : Option Addr} {n cap : Nat} {l : List Int} (hown : IOwn w lo hh e s A n cap l)
    (ad : Addr) (news : List Value) (hl : news.length = 1 * s) (hnews : ∀ j u, news[j]? = some u → w.cell? (ad.add j) = some u) (h1 : ∀ u ∈ news, u.oneCell' = true)
    (h63 : n + 1 ≤ maxLen) (hbytes : (n + 1) * bytes ≤ 140737488355328) (hlo : lo ≤ w.heap.size) :
    ∃ v' w', (Builtin.append_ #[t, t] ty #[.slice A n cap, .slice (some ad) 1 1]).run P w = .ok v' w' ∧ w.grownBy w' (Value.slice A n cap).ownBlock ∧
      ∃ lo' hi', (lo' = lo ∧ hi' = hh ∨ lo' = w.heap.size ∧ hi' = w'.heap.size) ∧ w'.ownsRow lo' e s v' (n + 1) (l.map (Value.int .i64) ++ news) ∧ ∀ k, v'.ownBlock = some k → k < hi' := by
  obtain ⟨v', w', hr, h2, h3, h4⟩ := run_append_own (P := P) w lo t ty e i z s bytes ht hi hz hsize hby hzs hsz _ n _ hown.1 ad 1 1 news hl hnews h1 h63 hbytes hlo
  refine ⟨v', w', hr, h3, ?_⟩
  rcases hown.1.2 with ⟨hv, h0⟩ | ⟨g, cap', cur, hv, hbg, hg, hnc, hcm, hcs, htake⟩
  · obtain ⟨v'', w'', hr', k2, k3, k4⟩ := run_append_own (P := P) w w.heap.size t ty e i z s bytes ht hi hz hsize hby hzs hsz _ n _ ⟨hown.1.1, .inl ⟨hv, h0⟩⟩ ad 1 1 news hl hnews h1 h63 hbytes (Nat.le_refl _)
    rw [hr] at hr'
    injection hr' with e1 e2
    subst e1 e2
    exact ⟨_, _, .inr ⟨rfl, rfl⟩, k2, fun k hk => (k2.lt k hk).2⟩
  · injection hv with e1 e2 e3
    subst e1 e3
    by_cases hroom : n + 1 ≤ cap
    · have hfit : n * i.size + news.length ≤ cur.size := by rw [hl, hcs, hsize, ← Nat.add_mul]; exact Nat.mul_le_mul_right _ hroom
      have hr' := run_append_room (P := P) w t ty e i ht hi g n cap cur hg ad 1 1 news (by rw [hl, hsize]) hnews h1 hroom hfit
      rw [hr] at hr'
      injection hr' with e1 e2
      subst e1
      exact ⟨lo, hh, .inl ⟨rfl, rfl⟩, h2, fun k hk => hown.2 k (by rw [← hk]; rfl)⟩
    · have holds : ∀ j u, (l.map (Value.int .i64))[j]? = some u → w.cell? ((⟨g, 0, none⟩ : Addr).add j) = some u := hown.1.cells (g := g) rfl
      have hr' := run_append_grow (P := P) w t ty e i z ht hi hz ⟨g, 0, none⟩ n cap _ (by rw [hown.1.1, hsize]) holds ad 1 1 news (by rw [hl, hsize]) hnews (by omega) (by simp only [maxLen] at h63; omega) (growslice_fits (by omega) (by rw [hby]; exact hbytes))
      rw [hr] at hr'
      injection hr' with e1 e2
      subst e1
      have hlt := h2.lt w.heap.size rfl
      rcases h2.2 with ⟨hv, _⟩ | ⟨g', c', cur', hv, _, rest⟩
      · cases hv
      · have hg' : g' = w.heap.size := by injection hv with hv; injection hv with hv; injection hv with hv; exact hv.symm
        refine ⟨w.heap.size, w'.heap.size, .inr ⟨rfl, rfl⟩, ⟨h2.1, .inr ⟨g', c', cur', hv, by omega, rest⟩⟩, fun k hk => ?_⟩
        have : w.heap.size = k := by simpa [Value.ownBlock] using hk
        omega
/-- append of one element to a slice of the call's own: the row stays in its range or lies in a new block; nothing but its own block turns. -/
theorem wp_append_rowD {P : Program} {w : World} {o : Oper} {a : Act} {K : Act → World → Prop} {Q : Exit → Act → World → Prop} (sO x : Operand) (t : TypeId)
    (ho : o.op = .call { callee := .builtin .append, args := #[sO, x], argTypes := #[t, t] }) (e : TypeId) (i : TypeInfo) (z : Value) (s bytes : Nat) (ht : P.underlying t = some (.slice e)) (hi : P.info? e = some i) (hz : i.zero = some z)
    (hsize : i.size = s) (hby : i.bytes = bytes) (hzs : z.cells.size = s) (hsz : 0 < s) {lo hh : Nat} {A : Option Addr} {n cap : Nat} {l : List Int} (hs : a.eval sO = .slice A n cap) (hown : IOwn w lo hh e s A n cap l)
    (g : Nat) (vs : List Int) (hx : a.eval x = .slice (some ⟨g, 0, none⟩) 1 1) (hvs : vs.length = s) (hc : ∀ j, j < s → w.cell? ⟨g, j, none⟩ = some (.int .i64 (vs[j]?.getD 0)))
    (hn : n ≤ 1099511627776) (hb : bytes ≤ 100) (hlo : lo ≤ w.heap.size)
    (h : ∀ A' cap' w' lo' hi', (lo' = lo ∧ hi' = hh ∨ lo' = w.heap.size ∧ hi' = w'.heap.size) → IOwn w' lo' hi' e s A' (n + 1) cap' (l ++ vs) → Chg lo hh w w' → K (a.put o.dst (.slice A' (n + 1) cap')) w') : o.wp P a w K Q := by
  have hnews : ∀ j u, (vs.map (Value.int .i64))[j]? = some u → w.cell? ((⟨g, 0, none⟩ : Addr).add j) = some u := by
    intro j u hu
    rw [List.getElem?_map] at hu
    have hj : j < s := by
      rcases Nat.lt_or_ge j s with h' | h'
      · exact h'
      · rw [List.getElem?_eq_none (by omega)] at hu; cases hu
    rw [List.getElem?_eq_getElem (by omega)] at hu
    have := hc j hj
    rw [List.getElem?_eq_getElem (by omega)] at this
    rw [add_plain, Nat.zero_add, this]
    simpa using hu
  have h1 : ∀ u ∈ vs.map (Value.int .i64), u.oneCell' = true := by
    intro u hu
    obtain ⟨y, _, rfl⟩ := List.mem_map.1 hu
    rfl
  have hby2 : (n + 1) * bytes ≤ 140737488355328 := by
    have : (n + 1) * bytes ≤ (1099511627776 + 1) * 100 := Nat.mul_le_mul (by omega) hb
    omega
  obtain ⟨v', w', hr, h3, lo', hi', hlh, h2, h4⟩ := run_append_two (P := P) (w := w) t o.type e i z s bytes ht hi hz hsize hby hzs hsz hown ⟨g, 0, none⟩ (vs.map (Value.int .i64)) (by simpa using hvs) hnews h1 (by unfold maxLen; omega) hby2 hlo
  unfold Oper.wp execOp
  simp only [ho, resolve, invoke, builtin, Sem.run_bind, Sem.run_pure, Result.andThen_ok, List.map_toArray, List.map_cons, List.map_nil, hs, hx, hr]
  rw [← List.map_append] at h2
  rcases h2.2 with ⟨_, h0⟩ | ⟨g', cap', cur, rfl, rest⟩
  · omega
  · exact h _ _ _ lo' hi' hlh ⟨h2, h4⟩ ⟨h3.os, h3.tape, h3.output, h3.size, fun k hk ho => h3.block k hk (fun e' => by have h5 := (hown.1.lt k e'.symm).1; have h6 := hown.2 k e'.symm; omega)⟩
theorem append_rowD {P : Program} {w : World} {ops : Array Oper} {rest : List Oper} {o : Oper} {a : Act} {Q : Exit → Act → World → Prop} (hgd : o.guard = none) (sO x : Operand) (t : TypeId)
    (ho : o.op = .call { callee := .builtin .append, args := #[sO, x], argTypes := #[t, t] }) (e : TypeId) (i : TypeInfo) (z : Value) (s bytes : Nat) (ht : P.underlying t = some (.slice e)) (hi : P.info? e = some i) (hz : i.zero = some z)
    (hsize : i.size = s) (hby : i.bytes = bytes) (hzs : z.cells.size = s) (hsz : 0 < s) {lo hh : Nat} {A : Option Addr} {n cap : Nat} {l : List Int} (hs : a.eval sO = .slice A n cap) (hown : IOwn w lo hh e s A n cap l)
    (g : Nat) (vs : List Int) (hx : a.eval x = .slice (some ⟨g, 0, none⟩) 1 1) (hvs : vs.length = s) (hc : ∀ j, j < s → w.cell? ⟨g, j, none⟩ = some (.int .i64 (vs[j]?.getD 0)))
    (hn : n ≤ 1099511627776) (hb : bytes ≤ 100) (hlo : lo ≤ w.heap.size)
    (h : ∀ A' cap' w' lo' hi', (lo' = lo ∧ hi' = hh ∨ lo' = w.heap.size ∧ hi' = w'.heap.size) → IOwn w' lo' hi' e s A' (n + 1) cap' (l ++ vs) → Chg lo hh w w' → wpList P ops Q rest (a.put o.dst (.slice A' (n + 1) cap')) w') : wpList P ops Q (o :: rest) a w :=
  wpList_plain hgd fun _ hK => wp_append_rowD sO x t ho e i z s bytes ht hi hz hsize hby hzs hsz hs hown g vs hx hvs hc hn hb hlo fun A' cap' w' lo' hi' h0 h1 h2 => hK _ _ (h A' cap' w' lo' hi' h0 h1 h2)
end Go.Proofs.Ytgdldmeeaejjpaa
