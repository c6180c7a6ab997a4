
/- table and archipelagoref07: the walks. -/
/- archipelagoref07: the walks. -/
/- tree.Check, archipelagoref08.Check at parents that stand ahead of their sites: the walks. -/
import Derived.Test.YtmbaeloiepjakaaSSh
import Derived.Test.YtmbaeloiepjakaaKRng
import Derived.Test.YtmbaeloiepjakaaAX
import Derived.Test.YtmbaeloiepjakaaAM
set_option linter.unusedSimpArgs false
set_option linter.unusedVariables false
namespace Go.Proofs.Ytmbaeloiepjakaa.A
open Go Go.RowKit
section
variable {P : Program} {st : ASt} {o : Oper}
theorem Pu_and1 {t yt : TypeId} {x y : Operand} {a : Nat} {r : Int} (ho : o.op = .binOp .and t x y yt) (hx : st.ev x = .d (.v (.int .i64 a))) (hy : st.ev y = .d (.v (.int .i64 1))) (ha : a < 9223372036854775808) (hr : ((a % 2 : Nat) : Int) = r) : Pu P st o (.d (.v (.int .i64 r))) := by
  subst hr
  exact Pu_bin ho hx hy (fun h1 h2 w => by
    simp only [Sem.run_bind, guard_int, Result.andThen_ok, binOp]
    have e : IntKind.i64.wrap (BitVec.ofInt IntKind.i64.bits (a : Int) &&& BitVec.ofInt IntKind.i64.bits 1).toNat = ((a % 2 : Nat) : Int) := by
      have e1 : (BitVec.ofInt IntKind.i64.bits (a : Int)).toNat = a := by
        show (BitVec.ofInt 64 (a : Int)).toNat = a
        rw [BitVec.ofInt_natCast, BitVec.toNat_ofNat]; omega
      have e2 : (BitVec.ofInt IntKind.i64.bits 1).toNat = 1 := rfl
      rw [BitVec.toNat_and, e1, e2, Nat.and_one_is_mod]
      exact IntWalk.i64_in _ (by omega)
    simp only [Op.intBits, e, ne_eq, not_true_eq_false, if_false, Sem.run_pure]) (fun h _ => by show inI _; simp only [inI]; omega)
theorem Pu_int_quo {t yt : TypeId} {x y : Operand} {k : IntKind} {a b r : Int} (ho : o.op = .binOp .quo t x y yt) (hx : st.ev x = .d (.v (.int k a))) (hy : st.ev y = .d (.v (.int k b))) (hb : b ≠ 0) (hr : k.wrap (a.tdiv b) = r) (hv : vok (.int k a) → vok (.int k r)) : Pu P st o (.d (.v (.int k r))) :=
  Pu_bin ho hx hy (fun h1 h2 w => by
    simp only [Sem.run_bind, guard_int, Result.andThen_ok, binOp]; simp [Op.intDiv, hb, hr, Sem.run]) (fun h _ => hv h)
theorem quo_nat {a b : Nat} (ha : a < 9223372036854775808) : IntKind.i64.wrap ((a : Int).tdiv (b : Int)) = ((a / b : Nat) : Int) ∧ vok (.int .i64 ((a / b : Nat) : Int)) := by
  have h := Nat.div_le_self a b
  generalize hq : a / b = q at h
  have e : (a : Int).tdiv (b : Int) = (q : Int) := by rw [← hq]; exact Int.ofNat_tdiv a b
  rw [e]
  exact ⟨IntWalk.i64_in _ (by omega), by show inI _; simp only [inI]; omega⟩
end
end Go.Proofs.Ytmbaeloiepjakaa.A
namespace Go.Proofs.Ytmbaeloiepjakaa
open Go.RowKit A R
open A.RowT
namespace T
/-- A row that may be. -/
def ok (c : SRow) : Bool := S.shape c && !c.owners.any (S.badO c.parents.length)
theorem ok_facts {c : SRow} (h : ok c = true) : S.shape c = true ∧ ∀ x ∈ c.owners, 1 ≤ x ∧ x < 2 ^ c.parents.length := by
  unfold ok at h
  rw [Bool.and_eq_true] at h
  refine ⟨h.1, fun x hx => ?_⟩
  by_cases hb : S.badO c.parents.length x = true
  · rw [List.any_eq_true.2 ⟨x, hx, hb⟩] at h; cases h.2
  · simp only [S.badO, Bool.or_eq_true, decide_eq_true_eq, not_or] at hb; omega
/-- The sites that own a key. -/
def owners (c : SRow) (key : ByteArray) : Nat := if ok c then (if findR c.ranges key < 0 then 0 else (c.owners.getD (findR c.ranges key).toNat 0).toNat) else 0
def bit (m : Nat) (s : Int) : Bool := decide (0 ≤ s) && decide (s < 6) && decide (m / 2 ^ s.toNat % 2 = 1)
def firstF (m : Nat) : Int := match (List.range 6).find? (fun s => bit m (s : Nat)) with | some s => s | none => -1
theorem vok64 {m : Nat} (h : m < 64) : vok (.int .i64 (m : Int)) := by show A.inI _; simp only [A.inI]; omega
theorem shr_nat (m : Nat) (s : Int) : (m : Int) / 2 ^ s.toNat = ((m / 2 ^ s.toNat : Nat) : Int) := by
  rw [Int.natCast_ediv, Int.natCast_pow]; rfl
theorem bit_eq (m : Nat) (s : Int) : (decide (0 ≤ s) && decide (s < 6) && decide (((m / 2 ^ s.toNat % 2 : Nat) : Int) = 1)) = bit m s := by
  unfold bit
  congr 1
  exact decide_eq_decide.2 (by omega)
theorem pow_le {n : Nat} (h : n ≤ 6) : (2 : Nat) ^ n ≤ 64 := Nat.pow_le_pow_right (by omega) h
theorem first_eq {m s : Nat} (h : s < 6) (hs : bit m s = true) (hn : ∀ j, j < s → bit m (j : Nat) = false) : firstF m = s := by
  unfold firstF
  have : (List.range 6).find? (fun s => bit m (s : Nat)) = some s := by
    rw [List.find?_range_eq_some]
    exact ⟨hs, List.mem_range.2 h, fun j hj => by rw [hn j hj]; rfl⟩
  rw [this]
theorem first_none {m : Nat} (hn : ∀ j, j < 6 → bit m (j : Nat) = false) : firstF m = -1 := by
  unfold firstF
  have : (List.range 6).find? (fun s => bit m (s : Nat)) = none := by
    rw [List.find?_eq_none]
    intro j hj
    rw [hn j (List.mem_range.1 hj)]; simp
  rw [this]
end T
theorem idxF_le {α : Type} (p : α → Bool) (l : List α) : -1 ≤ idxF p l ∧ idxF p l < l.length ∨ l = [] ∧ idxF p l = -1 := by
  unfold idxF
  cases h : l.findIdx? p with
  | none =>
    cases l with
    | nil => exact .inr ⟨rfl, rfl⟩
    | cons x r => exact .inl ⟨by simp, by simp; omega⟩
  | some i =>
    have : i < l.length := by
      rw [List.findIdx?_eq_some_iff_getElem] at h
      exact h.1
    exact .inl ⟨by simp only []; omega, by simp only []; omega⟩
theorem find_vok (l : List Rng) (key : ByteArray) (h : l.length ≤ 1000000) : vok (.int .i64 (findR l key)) := by
  show A.inI _
  unfold findR
  simp only [A.inI]
  rcases idxF_le (fun r => K.hasB r.f r.t key) l with h1 | ⟨_, h1⟩ <;> omega
theorem find_a (l : List Rng) (key : ByteArray) (hl : l.length ≤ 1000000) : ACall Try.prog 31 [.sl 2 (l.map Rng.row), tv key] (iv (findR l key)) := A.ofv (fun _ _ => by kernel_rfl) (find_vok l key hl) fun M w vs ha => by
  obtain ⟨x, xs, rfl, h1, h2⟩ := allc ha
  obtain ⟨rfl, _⟩ := A.all1 h2
  exact find_any x l key _ w (sl_of (α := Rng) h1)
theorem T.shape_owner {c : SRow} (h : T.ok c = true) {key : ByteArray} (hf : ¬ findR c.ranges key < 0) : ∃ k : Nat, findR c.ranges key = (k : Int) ∧ ∃ hk : k < c.owners.length, 1 ≤ c.owners[k] ∧ c.owners[k] < 64 ∧ (T.owners c key : Int) = c.owners[k] := by
  obtain ⟨hs, ho⟩ := T.ok_facts h
  obtain ⟨n1, n6, n8, no, _⟩ := S.shape_facts hs
  have hi : findR c.ranges key < c.ranges.length := by
    rcases idxF_le (fun r => K.hasB r.f r.t key) c.ranges with h1 | ⟨_, h1⟩
    · exact h1.2
    · exact absurd (show findR c.ranges key < 0 by show idxF _ _ < 0; omega) hf
  refine ⟨(findR c.ranges key).toNat, by omega, by omega, ?_⟩
  have hk : (findR c.ranges key).toNat < c.owners.length := by omega
  have h1 := ho _ (List.getElem_mem hk)
  have h2 := T.pow_le n6
  have h3 : ((2 ^ c.parents.length : Nat) : Int) = (2 : Int) ^ c.parents.length := by rw [Int.natCast_pow]; rfl
  refine ⟨h1.1, by omega, ?_⟩
  unfold T.owners
  rw [if_pos h, if_neg hf, List.getD_eq_getElem?_getD, List.getElem?_eq_getElem hk]
  simp only [Option.getD_some]
  omega
theorem T.owners_lt (c : SRow) (key : ByteArray) : T.owners c key < 64 := by
  by_cases h : T.ok c = true
  · by_cases hf : findR c.ranges key < 0
    · unfold T.owners; rw [if_pos h, if_pos hf]; omega
    · obtain ⟨k, h1, h2, h3, h4, h5⟩ := T.shape_owner h hf
      omega
  · unfold T.owners; rw [if_neg h]; omega
end Go.Proofs.Ytmbaeloiepjakaa

set_option linter.unusedSimpArgs false
set_option linter.unusedVariables false
namespace Go.Proofs.Ytmbaeloiepjakaa
open Go.RowKit A R
open A.RowT
theorem T.pow_cast (n : Nat) : ((2 ^ n : Nat) : Int) = (2 : Int) ^ n := by rw [Int.natCast_pow]; rfl
end Go.Proofs.Ytmbaeloiepjakaa

set_option linter.unusedSimpArgs false
set_option linter.unusedVariables false
namespace Go.Proofs.Ytmbaeloiepjakaa
open Go.RowKit A R
namespace T
/-- Parents, each ahead of its site. -/
structure Ahead (p : List Int) : Prop where
  pos : 1 ≤ p.length
  le : p.length ≤ 6
  root : p.getD 0 0 = -1
  up : ∀ i, 1 ≤ i → i < p.length → 0 ≤ p.getD i 0 ∧ p.getD i 0 < (i : Int)
abbrev DS := List Bool × List Nat
def dstep (p : List Int) (a : Nat) (go : Nat → DS → DS) (so : DS) (i : Nat) : DS := if p.getD i 0 = (a : Int) ∧ so.1.getD i true = false then go i so else so
/-- The walk downwards. -/
def dfs (p : List Int) : Nat → Nat → DS → DS
  | 0, _, so => so
  | f + 1, a, so => (List.range p.length).foldl (dstep p a (dfs p f)) (so.1.set a true, so.2 ++ [a])
/-- .. behind k places of the row. -/
def dfsAt (p : List Int) (f a : Nat) (so : DS) (k : Nat) : DS := (List.range k).foldl (dstep p a (dfs p f)) (so.1.set a true, so.2 ++ [a])
theorem dfsAt_zero (p : List Int) (f a : Nat) (so : DS) : dfsAt p f a so 0 = (so.1.set a true, so.2 ++ [a]) := rfl
theorem dfsAt_succ (p : List Int) (f a : Nat) (so : DS) (k : Nat) : dfsAt p f a so (k + 1) = dstep p a (dfs p f) (dfsAt p f a so k) k := by
  unfold dfsAt
  rw [List.range_succ, List.foldl_append]; rfl
theorem dfsAt_all (p : List Int) (f a : Nat) (so : DS) : dfsAt p f a so p.length = dfs p (f + 1) a so := rfl
theorem dfs_len (p : List Int) (hp : p.length ≤ 6) : ∀ (f a : Nat) (so : DS), (dfs p f a so).1.length = so.1.length ∧ (dfs p f a so).2.length ≤ so.2.length + 7 ^ f
  | 0, a, so => ⟨rfl, by simp [dfs]⟩
  | f + 1, a, so => by
    have key : ∀ k, (dfsAt p f a so k).1.length = so.1.length ∧ (dfsAt p f a so k).2.length ≤ so.2.length + 1 + k * 7 ^ f := by
      intro k
      induction k with
      | zero => rw [dfsAt_zero]; simp
      | succ k ih =>
        rw [dfsAt_succ]
        unfold dstep
        have e : (k + 1) * 7 ^ f = k * 7 ^ f + 7 ^ f := by rw [Nat.add_mul, Nat.one_mul]
        rw [e]
        split
        · obtain ⟨h1, h2⟩ := dfs_len p hp f k (dfsAt p f a so k)
          generalize 7 ^ f = q at *
          generalize k * q = r at *
          exact ⟨by omega, by omega⟩
        · generalize 7 ^ f = q at *
          generalize k * q = r at *
          exact ⟨ih.1, by omega⟩
    have h := key p.length
    rw [dfsAt_all] at h
    refine ⟨h.1, ?_⟩
    have h7 : 0 < 7 ^ f := Nat.pow_pos (by omega)
    have h8 : p.length * 7 ^ f ≤ 6 * 7 ^ f := Nat.mul_le_mul_right _ hp
    have h9 : 7 ^ (f + 1) = 7 * 7 ^ f := by rw [Nat.pow_succ, Nat.mul_comm]
    omega
theorem dfsAt_len (p : List Int) (hp : p.length ≤ 6) (f a : Nat) (so : DS) : ∀ k, (dfsAt p f a so k).1.length = so.1.length ∧ (dfsAt p f a so k).2.length ≤ so.2.length + 1 + k * 7 ^ f := by
  intro k
  induction k with
  | zero => rw [dfsAt_zero]; simp
  | succ k ih =>
    rw [dfsAt_succ]
    unfold dstep
    have e : (k + 1) * 7 ^ f = k * 7 ^ f + 7 ^ f := by rw [Nat.add_mul, Nat.one_mul]
    rw [e]
    split
    · obtain ⟨h1, h2⟩ := dfs_len p hp f k (dfsAt p f a so k)
      generalize 7 ^ f = q at *
      generalize k * q = r at *
      exact ⟨by omega, by omega⟩
    · generalize 7 ^ f = q at *
      generalize k * q = r at *
      exact ⟨ih.1, by omega⟩
def seenR (s : List Bool) : List (List AV) := s.map fun b => [bv b]
def outR (l : List Nat) : List (List AV) := l.map fun x => [iv (x : Nat)]
theorem seenR_un (s : List Bool) : ∀ q ∈ seenR s, q.length = 1 := fun q hq => by
  obtain ⟨b, _, rfl⟩ := List.mem_map.1 hq; rfl
theorem seenR_fl (s : List Bool) : (seenR s).flatten = s.map bv := by
  unfold seenR
  induction s with
  | nil => rfl
  | cons b r ih => simp [ih]
theorem seenR_set {s : List Bool} {a : Nat} (h : a < s.length) : (seenR (s.set a true)).flatten = (seenR s).flatten.take (a * 1) ++ cellsA (bv true) ++ (seenR s).flatten.drop (a * 1 + 1) := by
  rw [seenR_fl, seenR_fl, List.map_set, Nat.mul_one, List.set_eq_take_append_cons_drop, if_pos (by simpa using h)]
  simp [cellsA]
end T
namespace T
def allA : Nat → List (List Int)
  | 0 => [[]]
  | 1 => [[-1]]
  | n + 2 => (allA (n + 1)).flatMap fun p => (List.range (n + 1)).map fun (k : Nat) => p ++ [(k : Int)]
theorem getD_app {p : List Int} {x : Int} {i : Nat} (h : i < p.length) : (p ++ [x]).getD i 0 = p.getD i 0 := by
  rw [List.getD_eq_getElem?_getD, List.getD_eq_getElem?_getD, List.getElem?_append_left h]
theorem ahead_mem : ∀ (n : Nat) (p : List Int), p.length = n → Ahead p → p ∈ allA n
  | 0, p, hn, h => by have := h.pos; omega
  | 1, p, hn, h => by
    match p, hn with
    | [x], _ =>
      have := h.root
      simp at this
      simp [allA, this]
  | n + 2, p, hn, h => by
    have hne : p ≠ [] := fun e => by rw [e] at hn; simp at hn
    obtain ⟨q, x, rfl⟩ : ∃ q x, p = q ++ [x] := ⟨p.dropLast, p.getLast hne, (List.dropLast_concat_getLast hne).symm⟩
    have hql : q.length = n + 1 := by simp at hn; omega
    have hl := h.le
    rw [List.length_append, List.length_singleton] at hl
    have hq : Ahead q := ⟨by omega, by omega, by rw [← getD_app (x := x) (by omega)]; exact h.root, fun i h1 h2 => by
      have := h.up i h1 (by rw [List.length_append, List.length_singleton]; omega)
      rwa [getD_app h2] at this⟩
    have hx := h.up (n + 1) (by omega) (by rw [List.length_append, List.length_singleton]; omega)
    have hxe : (q ++ [x]).getD (n + 1) 0 = x := by
      rw [List.getD_eq_getElem?_getD, List.getElem?_append_right (by omega)]
      simp [hql]
    rw [hxe] at hx
    rw [allA, List.mem_flatMap]
    refine ⟨q, ahead_mem (n + 1) q hql hq, List.mem_map.2 ⟨x.toNat, List.mem_range.2 (by omega), ?_⟩⟩
    rw [show ((x.toNat : Nat) : Int) = x from by omega]
theorem all_dfs : ∀ n ∈ List.range 7, ∀ p ∈ allA n, (dfs p n 0 (List.replicate n false, [])).2.length = n := by decide +kernel
theorem dfs_all {p : List Int} (h : Ahead p) : (dfs p p.length 0 (List.replicate p.length false, [])).2.length = p.length :=
  all_dfs p.length (List.mem_range.2 (by have := h.le; omega)) p (ahead_mem _ p rfl h)
theorem ahead_at {p : List Int} (h : Ahead p) {k : Nat} (hk : k < p.length) : (p[k] = -1 ∧ k = 0) ∨ (0 ≤ p[k] ∧ p[k] < k ∧ 1 ≤ k) := by
  have e : p.getD k 0 = p[k] := by simp [List.getD_eq_getElem?_getD, hk]
  rcases Nat.eq_zero_or_pos k with h0 | h0
  · left
    have := h.root
    subst h0
    rw [e] at this
    exact ⟨this, rfl⟩
  · right
    have := h.up k h0 hk
    rw [e] at this
    exact ⟨this.1, this.2, h0⟩
end T
end Go.Proofs.Ytmbaeloiepjakaa
