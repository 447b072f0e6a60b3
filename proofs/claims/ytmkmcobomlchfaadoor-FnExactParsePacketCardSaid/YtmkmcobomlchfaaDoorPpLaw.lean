/- The plain law of parsing a packet: both ways of parsing find the packet with the given text, if there is one. No program in sight. -/
import Derived.Test.YtmkmcobomlchfaaDoorPtSpec
import Derived.Lib.SplitLaws
import Derived.Lib.AtoiTie
namespace Go.Proofs.YtmkmcobomlchfaaDoor
open Go.ChangeShapes Go.WideShapes Go.ChangeAt Go.RowKit
set_option linter.unusedVariables false
/-- The digits read on from a number; none where a byte is no digit. -/
def rdD : List UInt8 → Int → Option Int
  | [], a => some a
  | b :: r, a => if 48 ≤ b.toNat ∧ b.toNat ≤ 57 then rdD r (10 * a + ((b.toNat : Int) - 48)) else none
def rdL (l : List UInt8) : Int := if (1 ≤ l.length ∧ l.length ≤ 6) ∧ ¬ (l.head? = some 48 ∧ 1 < l.length) then (rdD l 0).getD (-1) else -1
theorem rdD_app : ∀ (l r : List UInt8) (a : Int), rdD (l ++ r) a = (rdD l a).bind (rdD r)
  | [], r, a => rfl
  | b :: l, r, a => by
    simp only [List.cons_append, rdD]
    split
    · exact rdD_app l r _
    · rfl
theorem rdD_dec : ∀ (u : Nat), rdD (Lib.decDigits u) 0 = some (u : Int) := by
  intro u
  induction u using Nat.strongRecOn with
  | _ u ih =>
    have hd : ∀ d : Nat, d < 10 → (UInt8.ofNat (48 + d)).toNat = 48 + d := fun d h => by have := u8_d d h; omega
    by_cases h0 : u < 10
    · rw [Lib.decDigits, dif_pos h0, rdD, hd u h0, if_pos (by omega), rdD]
      congr 1
      omega
    · rw [Lib.decDigits, dif_neg h0, rdD_app, ih (u / 10) (by omega), Option.bind_some, rdD, hd (u % 10) (by omega), if_pos (by omega), rdD]
      congr 1
      omega
theorem rdD_bound : ∀ (l : List UInt8) (a z : Int), 0 ≤ a → rdD l a = some z → 0 ≤ z ∧ z < (a + 1) * 10 ^ l.length
  | [], a, z, h, e => by
    simp only [rdD, Option.some.injEq] at e
    subst e
    simp
    omega
  | b :: r, a, z, h, e => by
    simp only [rdD] at e
    split at e
    · rename_i hb
      obtain ⟨h1, h2⟩ := rdD_bound r _ z (by omega) e
      refine ⟨h1, Int.lt_of_lt_of_le h2 ?_⟩
      rw [List.length_cons, Int.pow_succ, Int.mul_comm (10 ^ r.length) 10, ← Int.mul_assoc]
      refine Int.mul_le_mul_of_nonneg_right ?_ (Int.pow_nonneg (by omega))
      omega
    · cases e
theorem rdD_take {l : List UInt8} {i : Nat} {b : UInt8} (hb : l[i]? = some b) (a : Int) : rdD (l.take (i + 1)) a = (rdD (l.take i) a).bind fun n => if 48 ≤ b.toNat ∧ b.toNat ≤ 57 then some (10 * n + ((b.toNat : Int) - 48)) else none := by
  have e : l.take (i + 1) = l.take i ++ [b] := by
    obtain ⟨h1, h2⟩ := List.getElem?_eq_some_iff.1 hb
    rw [List.take_succ_eq_append_getElem h1, h2]
  rw [e, rdD_app]
  congr 1
theorem rdD_none {l : List UInt8} {i : Nat} (h : rdD (l.take i) 0 = none) : rdD l 0 = none := by
  have e := rdD_app (l.take i) (l.drop i) 0
  rw [List.take_append_drop, h] at e
  exact e
theorem dd_len1 : ∀ (k u : Nat), u < 10 ^ (k + 1) → (Lib.decDigits u).length ≤ k + 1 := fun k => by
  induction k with
  | zero => intro u h; rw [Lib.decDigits, dif_pos (by omega)]; simp
  | succ k ih =>
    intro u h
    by_cases h0 : u < 10
    · rw [Lib.decDigits, dif_pos h0]; simp
    · rw [Lib.decDigits, dif_neg h0, List.length_append]
      have := ih (u / 10) (by rw [Nat.pow_succ] at h; omega)
      simp
      omega
theorem dd_ne (u : Nat) : Lib.decDigits u ≠ [] := by
  rw [Lib.decDigits]
  split <;> simp
theorem dd_byte : ∀ (u : Nat), ∀ b ∈ Lib.decDigits u, 48 ≤ b.toNat ∧ b.toNat ≤ 57 := by
  have hd : ∀ d : Nat, d < 10 → (UInt8.ofNat (48 + d)).toNat = 48 + d := fun d h => by have := u8_d d h; omega
  intro u
  induction u using Nat.strongRecOn with
  | _ u ih =>
    intro b hb
    by_cases h0 : u < 10
    · rw [Lib.decDigits, dif_pos h0, List.mem_singleton] at hb
      subst hb
      rw [hd u h0]
      omega
    · rw [Lib.decDigits, dif_neg h0, List.mem_append, List.mem_singleton] at hb
      rcases hb with hb | rfl
      · exact ih _ (by omega) b hb
      · rw [hd _ (by omega)]
        omega
theorem dd_head : ∀ (u : Nat), 0 < u → (Lib.decDigits u).head? ≠ some 48 := by
  have hd : ∀ d : Nat, d < 10 → (UInt8.ofNat (48 + d)).toNat = 48 + d := fun d h => by have := u8_d d h; omega
  intro u
  induction u using Nat.strongRecOn with
  | _ u ih =>
    intro hu e
    by_cases h0 : u < 10
    · rw [Lib.decDigits, dif_pos h0, List.head?_cons, Option.some.injEq] at e
      have := hd u h0
      rw [e] at this
      simp at this
      omega
    · rw [Lib.decDigits, dif_neg h0, List.head?_append] at e
      have h1 := ih (u / 10) (by omega) (by omega)
      rcases hh : (Lib.decDigits (u / 10)).head? with _ | x
      · exact dd_ne _ (List.head?_eq_none_iff.1 hh)
      · rw [hh] at e h1
        exact h1 e
theorem dd_one {u : Nat} (h : 1 < (Lib.decDigits u).length) : 0 < u := by
  rcases Nat.eq_zero_or_pos u with rfl | h0
  · rw [Lib.decDigits] at h
    simp at h
  · exact h0
theorem rdL_itoa {n : Int} (h0 : 0 ≤ n) (h1 : n < 1000000) : rdL (Lib.itoa n) = n := by
  obtain ⟨u, rfl⟩ : ∃ u : Nat, n = (u : Int) := ⟨n.toNat, by omega⟩
  rw [itoa_nat]
  unfold rdL
  rw [if_pos, rdD_dec]
  · rfl
  · refine ⟨⟨List.length_pos_iff.2 (dd_ne u), dd_len1 5 u (by omega)⟩, fun ⟨a, b⟩ => dd_head u (dd_one b) a⟩
theorem decFrom_rd : ∀ (l : List UInt8) (a : Nat) (z : Int), rdD l (a : Int) = some z → Lib.decFrom a l = some z.toNat
  | [], a, z, h => by
    simp only [rdD, Option.some.injEq] at h
    subst h
    simp [Lib.decFrom]
  | b :: r, a, z, h => by
    simp only [rdD] at h
    split at h
    · rename_i hb
      have := decFrom_rd r (a * 10 + (b.toNat - 48)) z (by rw [← h]; congr 1; omega)
      simp [Lib.decFrom, Lib.digitVal, hb, this]
    · cases h
theorem atoi_itoa {n : Int} (h0 : 0 ≤ n) (h1 : n < 1000000) : Lib.atoiAll (Lib.itoa n) = .ok n := by
  obtain ⟨u, rfl⟩ : ∃ u : Nat, n = (u : Int) := ⟨n.toNat, by omega⟩
  rw [itoa_nat, Lib.atoiAll_short _ (by have := dd_len1 5 u (by omega); omega)]
  have hf := decFrom_rd (Lib.decDigits u) 0 u (rdD_dec u)
  have hb := dd_byte u
  have hn := dd_ne u
  rcases he : Lib.decDigits u with _ | ⟨b, r⟩
  · exact absurd he hn
  · rw [he] at hf hb
    have h2 := hb b (by simp)
    have e1 : (b == 45) = false := by
      rw [beq_eq_false_iff_ne]
      intro e
      subst e
      simp at h2
    have e2 : (b == 43) = false := by
      rw [beq_eq_false_iff_ne]
      intro e
      subst e
      simp at h2
    simp only [Lib.atoi, e1, e2, Lib.decNat, List.isEmpty_cons, Bool.false_eq_true, if_false, hf]
    simp [Lib.NumEnd.ofOption]
/-- The pieces between blanks; cur is what the piece under way holds. -/
def spF : List UInt8 → List UInt8 → List (List UInt8)
  | cur, [] => [cur]
  | cur, b :: r => if b = 32 then cur :: spF [] r else spF (cur ++ [b]) r
def sp (l : List UInt8) : List (List UInt8) := spF [] l
theorem spF_ne : ∀ (l cur : List UInt8), spF cur l ≠ []
  | [], cur => by simp [spF]
  | b :: r, cur => by
    simp only [spF]
    split
    · simp
    · exact spF_ne r _
theorem spF_run : ∀ (x cur r : List UInt8), (∀ b ∈ x, b ≠ 32) → spF cur (x ++ r) = spF (cur ++ x) r
  | [], cur, r, _ => by simp
  | b :: x, cur, r, h => by
    rw [List.cons_append, spF, if_neg (h b (by simp)), spF_run x _ r (fun z hz => h z (by simp [hz]))]
    simp
theorem spF_join : ∀ (xs : List (List UInt8)) (x cur : List UInt8), (∀ y ∈ x :: xs, ∀ b ∈ y, b ≠ 32) → spF cur (Lib.join (x :: xs) [32]) = (cur ++ x) :: xs
  | [], x, cur, h => by
    have := spF_run x cur [] (h x (by simp))
    rw [List.append_nil] at this
    simp [Lib.join, List.intercalate, List.intersperse, this, spF]
  | y :: r, x, cur, h => by
    have e : Lib.join (x :: y :: r) [32] = x ++ (32 :: Lib.join (y :: r) [32]) := by simp [Lib.join, List.intercalate, List.intersperse]
    rw [e, spF_run x cur _ (h x (by simp)), spF, if_pos rfl, spF_join r y [] (fun z hz => h z (by simp at hz ⊢; exact .inr hz))]
    simp
theorem itoa_no32 {n : Int} (h0 : 0 ≤ n) : ∀ b ∈ Lib.itoa n, b ≠ 32 := by
  obtain ⟨u, rfl⟩ : ∃ u : Nat, n = (u : Int) := ⟨n.toNat, by omega⟩
  rw [itoa_nat]
  intro b hb e
  have := dd_byte u b hb
  subst e
  simp at this
theorem index_cons32 (b : UInt8) (r : List UInt8) : Lib.index (b :: r) [32] = if b = 32 then 0 else if Lib.index r [32] == -1 then -1 else Lib.index r [32] + 1 := by
  rw [Lib.index]
  by_cases h : b = 32
  · subst h; simp [List.isPrefixOf]
  · have hp : ([32] : List UInt8).isPrefixOf (b :: r) = false := by simp [List.isPrefixOf, Ne.symm h]
    simp [hp, h]
theorem spF_index : ∀ (l cur : List UInt8), (Lib.index l [32] = -1 → spF cur l = [cur ++ l]) ∧ (∀ i : Nat, Lib.index l [32] = (i : Int) → spF cur l = (cur ++ l.take i) :: spF [] (l.drop (i + 1)))
  | [], cur => by
    have e : Lib.index [] [32] = -1 := by simp [Lib.index]
    rw [e]
    exact ⟨fun _ => by simp [spF], fun i h => by omega⟩
  | b :: r, cur => by
    rw [index_cons32]
    by_cases h : b = 32
    · rw [if_pos h]
      refine ⟨fun h' => by omega, fun i hi => ?_⟩
      obtain rfl : i = 0 := by omega
      simp [spF, h]
    · rw [if_neg h]
      obtain ⟨h1, h2⟩ := spF_index r (cur ++ [b])
      have hs : spF cur (b :: r) = spF (cur ++ [b]) r := by rw [spF, if_neg h]
      by_cases hm : Lib.index r [32] = -1
      · rw [if_pos (beq_iff_eq.2 hm)]
        refine ⟨fun _ => by rw [hs, h1 hm]; simp, fun i hi => by omega⟩
      · have hge := Lib.index_ge r [32]
        obtain ⟨j, hj⟩ : ∃ j : Nat, Lib.index r [32] = j := ⟨(Lib.index r [32]).toNat, by omega⟩
        rw [if_neg (fun e => hm (beq_iff_eq.1 e)), hj]
        refine ⟨fun h' => by omega, fun i hi => ?_⟩
        obtain rfl : i = j + 1 := by omega
        rw [hs, h2 j hj]
        simp
theorem splitK_sp : ∀ (k : Nat) (l : List UInt8), Lib.count l [32] = k → Lib.splitK [32] 0 k l = sp l
  | 0, l, hk => by
    have hge := Lib.index_ge l [32]
    by_cases hm : Lib.index l [32] = -1
    · rw [sp, (spF_index l []).1 hm]; simp [Lib.splitK]
    · obtain ⟨j, hj⟩ : ∃ j : Nat, Lib.index l [32] = j := ⟨(Lib.index l [32]).toNat, by omega⟩
      rw [Lib.count_hit (by simp) hj] at hk
      omega
  | k + 1, l, hk => by
    have hge := Lib.index_ge l [32]
    by_cases hm : Lib.index l [32] = -1
    · rw [Lib.count_miss hm] at hk
      omega
    · obtain ⟨j, hj⟩ : ∃ j : Nat, Lib.index l [32] = j := ⟨(Lib.index l [32]).toNat, by omega⟩
      rw [Lib.count_hit (by simp) hj] at hk
      have ih := splitK_sp k (l.drop (j + 1)) (by simpa using (by omega : Lib.count (l.drop (j + [(32 : UInt8)].length)) [32] = k))
      rw [sp, (spF_index l []).2 j hj, Lib.splitK, if_neg (fun e => hm (beq_iff_eq.1 e)), hj]
      simp only [Int.toNat_natCast, List.length_cons, List.length_nil, Nat.zero_add, Nat.add_zero, List.nil_append]
      rw [ih]
      rfl
/-- One step of the splitting loop: no blank. -/
theorem spF_step {l : List UInt8} {i f : Nat} {b : UInt8} (hb : l[i]? = some b) (hf : f ≤ i) (h : b ≠ 32) : spF ((l.take (i + 1)).drop f) (l.drop (i + 1)) = spF ((l.take i).drop f) (l.drop i) := by
  obtain ⟨h1, h2⟩ := List.getElem?_eq_some_iff.1 hb
  rw [List.drop_eq_getElem_cons h1, h2, spF, if_neg h, List.take_succ_eq_append_getElem h1, h2, List.drop_append_of_le_length (by rw [List.length_take]; omega)]
theorem spF_cut {l : List UInt8} {i f : Nat} {b : UInt8} (hb : l[i]? = some b) (hf : f ≤ i) (h : b = 32) : spF ((l.take i).drop f) (l.drop i) = (l.take i).drop f :: spF ((l.take (i + 1)).drop (i + 1)) (l.drop (i + 1)) := by
  obtain ⟨h1, h2⟩ := List.getElem?_eq_some_iff.1 hb
  rw [List.drop_eq_getElem_cons h1, h2, spF, if_pos h, List.drop_of_length_le (l := l.take (i + 1)) (by rw [List.length_take]; omega)]
/-- The numbers of a packet. -/
def nums (q : Pk) : List Int := [q.id, q.so, q.de, q.po, q.ma, q.si]
theorem nums_b {q : Pk} (h : q.ok = true) : ∀ n ∈ nums q, 0 ≤ n ∧ n < 1000000 := by
  have g := Pk.ok_iff.1 h
  intro n hn
  simp only [nums, List.mem_cons, List.not_mem_nil, or_false] at hn
  rcases hn with rfl | rfl | rfl | rfl | rfl | rfl <;> omega
theorem sp_ptx {q : Pk} (h : q.ok = true) : sp (ptx q) = (nums q).map Lib.itoa := by
  have hb := nums_b h
  unfold sp ptx
  rw [List.map_cons, spF_join]
  · rfl
  · intro y hy
    obtain ⟨n, hn, rfl⟩ := List.mem_map.1 (show y ∈ (nums q).map Lib.itoa from hy)
    exact itoa_no32 (hb n hn).1
/-- A piece of a text. -/
def pc (l : List UInt8) (k : Nat) : List UInt8 := ((sp l)[k]?).getD []
def vv (l : List UInt8) (k : Nat) : Int := match Lib.atoiAll (pc l k) with | .ok v => v | _ => 0
theorem pc_ptx {q : Pk} (h : q.ok = true) {k : Nat} (hk : k < 6) : ∃ n, (nums q)[k]? = some n ∧ pc (ptx q) k = Lib.itoa n ∧ rdL (pc (ptx q) k) = n ∧ Lib.atoiAll (pc (ptx q) k) = .ok n ∧ vv (ptx q) k = n := by
  have hlt : k < (nums q).length := hk
  have hm : (nums q)[k]? = some ((nums q)[k]) := List.getElem?_eq_getElem hlt
  obtain ⟨b1, b2⟩ := nums_b h _ (List.getElem_mem hlt)
  have hp : pc (ptx q) k = Lib.itoa ((nums q)[k]) := by
    unfold pc
    rw [sp_ptx h, List.getElem?_map, hm]
    rfl
  have ha := atoi_itoa b1 b2
  refine ⟨_, hm, hp, ?_, ?_, ?_⟩
  · rw [hp, rdL_itoa b1 b2]
  · rw [hp, ha]
  · unfold vv
    rw [hp, ha]
def mkP (f : Nat → Int) : Pk := ⟨f 0, f 1, f 2, f 3, f 4, f 5⟩
def rdP (l : List UInt8) : Pk := mkP fun k => rdL (pc l k)
def atP (l : List UInt8) : Pk := mkP (vv l)
theorem mkP_of {q : Pk} {f : Nat → Int} (h : ∀ k, k < 6 → ∃ n, (nums q)[k]? = some n ∧ f k = n) : mkP f = q := by
  obtain ⟨a0, e0, f0⟩ := h 0 (by omega)
  obtain ⟨a1, e1, f1⟩ := h 1 (by omega)
  obtain ⟨a2, e2, f2⟩ := h 2 (by omega)
  obtain ⟨a3, e3, f3⟩ := h 3 (by omega)
  obtain ⟨a4, e4, f4⟩ := h 4 (by omega)
  obtain ⟨a5, e5, f5⟩ := h 5 (by omega)
  obtain ⟨x0, x1, x2, x3, x4, x5⟩ := q
  simp only [nums, List.getElem?_cons_zero, List.getElem?_cons_succ, Option.some.injEq] at e0 e1 e2 e3 e4 e5
  unfold mkP
  rw [f0, f1, f2, f3, f4, f5, e0, e1, e2, e3, e4, e5]
theorem rdP_ptx {q : Pk} (h : q.ok = true) : rdP (ptx q) = q := mkP_of fun k hk => by
  obtain ⟨n, h1, _, h2, _⟩ := pc_ptx h hk
  exact ⟨n, h1, h2⟩
theorem atP_ptx {q : Pk} (h : q.ok = true) : atP (ptx q) = q := mkP_of fun k hk => by
  obtain ⟨n, h1, _, _, _, h2⟩ := pc_ptx h hk
  exact ⟨n, h1, h2⟩
def zPk : Pk := ⟨0, 0, 0, 0, 0, 0⟩
/-- What parsing answers: the packet with the text, if there is one. -/
def PpR (l : List UInt8) (p : Pk) (b : Bool) : Prop := (b = true ∧ p.ok = true ∧ ptx p = l) ∨ (b = false ∧ p = zPk ∧ ∀ q : Pk, q.ok = true → ptx q ≠ l)
theorem PpR_one {l : List UInt8} {p p' : Pk} {b b' : Bool} (h : PpR l p b) (h' : PpR l p' b') : p = p' ∧ b = b' := by
  rcases h with ⟨rfl, h1, h2⟩ | ⟨rfl, rfl, h1⟩ <;> rcases h' with ⟨rfl, k1, k2⟩ | ⟨rfl, rfl, k1⟩
  · refine ⟨?_, rfl⟩
    rw [← rdP_ptx h1, ← rdP_ptx k1, h2, k2]
  · exact absurd h2 (k1 _ h1)
  · exact absurd k2 (h1 _ k1)
  · exact ⟨rfl, rfl⟩
theorem PpR_yes {l : List UInt8} {p : Pk} (h1 : p.ok = true) (h2 : ptx p = l) : PpR l p true := .inl ⟨rfl, h1, h2⟩
theorem PpR_len {l : List UInt8} (h : (sp l).length ≠ 6) : PpR l zPk false := .inr ⟨rfl, rfl, fun q hq e => by
  subst e
  rw [sp_ptx hq] at h
  exact h rfl⟩
theorem PpR_rd {l : List UInt8} (h : (rdP l).ok = true → ptx (rdP l) ≠ l) : PpR l zPk false := .inr ⟨rfl, rfl, fun q hq e => by
  subst e
  rw [rdP_ptx hq] at h
  exact h hq rfl⟩
theorem PpR_at {l : List UInt8} (h : (atP l).ok = true → ptx (atP l) ≠ l) : PpR l zPk false := .inr ⟨rfl, rfl, fun q hq e => by
  subst e
  rw [atP_ptx hq] at h
  exact h hq rfl⟩
theorem PpR_err {l : List UInt8} {k : Nat} (hk : k < 6) (h : ∀ v, Lib.atoiAll (pc l k) ≠ .ok v) : PpR l zPk false := .inr ⟨rfl, rfl, fun q hq e => by
  subst e
  obtain ⟨n, _, _, _, h1, _⟩ := pc_ptx hq hk
  exact h n h1⟩
/-! ### As byte arrays -/
def mkS (x : List UInt8) : ByteArray := ⟨x.toArray⟩
theorem extract_mkS (s : ByteArray) (f i : Nat) : s.extract f i = mkS ((s.data.toList.take i).drop f) := by
  have h := Lib.extract_data s f i
  have e : (s.extract f i).data = ((s.data.toList.drop f).take (i - f)).toArray := by rw [← h]
  rw [List.drop_take]
  exact ByteArray.ext e
theorem splitB_sp (s : ByteArray) : (Lib.splitB ⟨#[32]⟩ 0 (Lib.countB s ⟨#[32]⟩) s) = (sp s.data.toList).map mkS := by
  have h := Lib.splitB_data ⟨#[32]⟩ 0 (Lib.countB s ⟨#[32]⟩) s
  rw [show (⟨#[32]⟩ : ByteArray).data.toList = [32] from rfl, splitK_sp _ s.data.toList rfl] at h
  rw [← h, List.map_map]
  conv => lhs; rw [← List.map_id (Lib.splitB ⟨#[32]⟩ 0 (Lib.countB s ⟨#[32]⟩) s)]
  exact List.map_congr_left fun x _ => by simp [mkS]
theorem spF_size : ∀ (l cur : List UInt8), ∀ y ∈ spF cur l, y.length ≤ cur.length + l.length
  | [], cur, y, h => by
    simp only [spF, List.mem_singleton] at h
    subst h
    simp
  | b :: r, cur, y, h => by
    simp only [spF] at h
    split at h
    · rcases List.mem_cons.1 h with rfl | h
      · simp
      · have := spF_size r [] y h
        simp at this ⊢
        omega
    · have := spF_size r _ y h
      simp at this ⊢
      omega
theorem pc_size (l : List UInt8) (k : Nat) : (pc l k).length ≤ l.length := by
  unfold pc
  rcases h : (sp l)[k]? with _ | y
  · simp
  · have := spF_size l [] y (List.mem_of_getElem? h)
    simpa using this
end Go.Proofs.YtmkmcobomlchfaaDoor
