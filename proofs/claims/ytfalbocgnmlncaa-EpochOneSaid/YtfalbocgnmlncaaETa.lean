/- table and archipelagoref07: the walks. -/
/- archipelagoref07: the walks. -/
/- tree.Check, archipelagoref08.Check at parents that stand ahead of their sites: the walks. -/
import Derived.Test.YtfalbocgnmlncaaSSh
import Derived.Test.YtfalbocgnmlncaaKFind
import Derived.Test.YtfalbocgnmlncaaAX
import Derived.Test.YtfalbocgnmlncaaAMk
set_option linter.unusedSimpArgs false
set_option linter.unusedVariables false
namespace Go.Proofs.Ytfalbocgnmlncaa.A
open Go Go.RowKit
section
variable {P : Program} {st : ASt} {o : Oper}
theorem Pu_and1 {t yt : TypeId} {x y : Operand} {a : Nat} {r : Int} (ho : o.op = .binOp .and t x y yt) (hx : st.ev x = .d (.v (.int .i64 a))) (hy : st.ev y = .d (.v (.int .i64 1))) (ha : a < 9223372036854775808) (hr : ((a % 2 : Nat) : Int) = r) : Pu P st o (.d (.v (.int .i64 r))) := by
  subst hr
  exact Pu_bin ho hx hy (fun h1 h2 w => by
    simp only [Sem.run_bind, guard_int, Result.andThen_ok, binOp]
    have e : IntKind.i64.wrap (BitVec.ofInt IntKind.i64.bits (a : Int) &&& BitVec.ofInt IntKind.i64.bits 1).toNat = ((a % 2 : Nat) : Int) := by
      have e1 : (BitVec.ofInt IntKind.i64.bits (a : Int)).toNat = a := by
        show (BitVec.ofInt 64 (a : Int)).toNat = a
        rw [BitVec.ofInt_natCast, BitVec.toNat_ofNat]; omega
      have e2 : (BitVec.ofInt IntKind.i64.bits 1).toNat = 1 := rfl
      rw [BitVec.toNat_and, e1, e2, Nat.and_one_is_mod]
      exact IntWalk.i64_in _ (by omega)
    simp only [Op.intBits, e, ne_eq, not_true_eq_false, if_false, Sem.run_pure]) (fun h _ => by show inI _; simp only [inI]; omega)
theorem Pu_int_quo {t yt : TypeId} {x y : Operand} {k : IntKind} {a b r : Int} (ho : o.op = .binOp .quo t x y yt) (hx : st.ev x = .d (.v (.int k a))) (hy : st.ev y = .d (.v (.int k b))) (hb : b ≠ 0) (hr : k.wrap (a.tdiv b) = r) (hv : vok (.int k a) → vok (.int k r)) : Pu P st o (.d (.v (.int k r))) :=
  Pu_bin ho hx hy (fun h1 h2 w => by
    simp only [Sem.run_bind, guard_int, Result.andThen_ok, binOp]; simp [Op.intDiv, hb, hr, Sem.run]) (fun h _ => hv h)
theorem quo_nat {a b : Nat} (ha : a < 9223372036854775808) : IntKind.i64.wrap ((a : Int).tdiv (b : Int)) = ((a / b : Nat) : Int) ∧ vok (.int .i64 ((a / b : Nat) : Int)) := by
  have h := Nat.div_le_self a b
  generalize hq : a / b = q at h
  have e : (a : Int).tdiv (b : Int) = (q : Int) := by rw [← hq]; exact Int.ofNat_tdiv a b
  rw [e]
  exact ⟨IntWalk.i64_in _ (by omega), by show inI _; simp only [inI]; omega⟩
end
end Go.Proofs.Ytfalbocgnmlncaa.A
namespace Go.Proofs.Ytfalbocgnmlncaa
open Go.RowKit A R
open A.RowT
namespace T
/-- A row that may be. -/
def ok (c : SRow) : Bool := S.shape c && !c.owners.any (S.badO c.parents.length)
theorem ok_facts {c : SRow} (h : ok c = true) : S.shape c = true ∧ ∀ x ∈ c.owners, 1 ≤ x ∧ x < 2 ^ c.parents.length := by
  unfold ok at h
  rw [Bool.and_eq_true] at h
  refine ⟨h.1, fun x hx => ?_⟩
  by_cases hb : S.badO c.parents.length x = true
  · rw [List.any_eq_true.2 ⟨x, hx, hb⟩] at h; cases h.2
  · simp only [S.badO, Bool.or_eq_true, decide_eq_true_eq, not_or] at hb; omega
/-- The sites that own a key. -/
def owners (c : SRow) (key : ByteArray) : Nat := if ok c then (if findR c.ranges key < 0 then 0 else (c.owners.getD (findR c.ranges key).toNat 0).toNat) else 0
def bit (m : Nat) (s : Int) : Bool := decide (0 ≤ s) && decide (s < 6) && decide (m / 2 ^ s.toNat % 2 = 1)
def firstF (m : Nat) : Int := match (List.range 6).find? (fun s => bit m (s : Nat)) with | some s => s | none => -1
theorem vok64 {m : Nat} (h : m < 64) : vok (.int .i64 (m : Int)) := by show A.inI _; simp only [A.inI]; omega
theorem shr_nat (m : Nat) (s : Int) : (m : Int) / 2 ^ s.toNat = ((m / 2 ^ s.toNat : Nat) : Int) := by
  rw [Int.natCast_ediv, Int.natCast_pow]; rfl
theorem bit_eq (m : Nat) (s : Int) : (decide (0 ≤ s) && decide (s < 6) && decide (((m / 2 ^ s.toNat % 2 : Nat) : Int) = 1)) = bit m s := by
  unfold bit
  congr 1
  exact decide_eq_decide.2 (by omega)
theorem pow_le {n : Nat} (h : n ≤ 6) : (2 : Nat) ^ n ≤ 64 := Nat.pow_le_pow_right (by omega) h
theorem first_eq {m s : Nat} (h : s < 6) (hs : bit m s = true) (hn : ∀ j, j < s → bit m (j : Nat) = false) : firstF m = s := by
  unfold firstF
  have : (List.range 6).find? (fun s => bit m (s : Nat)) = some s := by
    rw [List.find?_range_eq_some]
    exact ⟨hs, List.mem_range.2 h, fun j hj => by rw [hn j hj]; rfl⟩
  rw [this]
theorem first_none {m : Nat} (hn : ∀ j, j < 6 → bit m (j : Nat) = false) : firstF m = -1 := by
  unfold firstF
  have : (List.range 6).find? (fun s => bit m (s : Nat)) = none := by
    rw [List.find?_eq_none]
    intro j hj
    rw [hn j (List.mem_range.1 hj)]; simp
  rw [this]
end T
theorem idxF_le {α : Type} (p : α → Bool) (l : List α) : -1 ≤ idxF p l ∧ idxF p l < l.length ∨ l = [] ∧ idxF p l = -1 := by
  unfold idxF
  cases h : l.findIdx? p with
  | none =>
    cases l with
    | nil => exact .inr ⟨rfl, rfl⟩
    | cons x r => exact .inl ⟨by simp, by simp; omega⟩
  | some i =>
    have : i < l.length := by
      rw [List.findIdx?_eq_some_iff_getElem] at h
      exact h.1
    exact .inl ⟨by simp only []; omega, by simp only []; omega⟩
theorem find_vok (l : List Rng) (key : ByteArray) (h : l.length ≤ 1000000) : vok (.int .i64 (findR l key)) := by
  show A.inI _
  unfold findR
  simp only [A.inI]
  rcases idxF_le (fun r => K.hasB r.f r.t key) l with h1 | ⟨_, h1⟩ <;> omega
theorem find_a (l : List Rng) (key : ByteArray) (hl : l.length ≤ 1000000) : ACall Try.prog 53 [.sl 2 (l.map Rng.row), tv key] (iv (findR l key)) := A.ofv (fun _ _ => by kernel_rfl) (find_vok l key hl) fun M w vs ha => by
  obtain ⟨x, xs, rfl, h1, h2⟩ := allc ha
  obtain ⟨rfl, _⟩ := A.all1 h2
  exact find_any x l key _ w (sl_of (α := Rng) h1)
theorem rfind_a (l : List Rng) (key : ByteArray) (hl : l.length ≤ 1000000) : ACall Try.prog 15 [.sl 2 (l.map Rng.row), tv key] (iv (findR l key)) := A.ofv (fun _ _ => by kernel_rfl) (find_vok l key hl) fun M w vs ha => by
  obtain ⟨x, xs, rfl, h1, h2⟩ := allc ha
  obtain ⟨rfl, _⟩ := A.all1 h2
  exact rfind_any x l key _ w (sl_of (α := Rng) h1)
set_option maxRecDepth 100000 in
theorem sites_a (c : SRow) : ACall Try.prog 27 [.row c.row] (iv c.parents.length) := by
  refine ACall_enter (fun _ _ => by kernel_rfl) Try.func27 rfl Try.ntmps27 Try.results27 (Nat.le_of_ble_eq_true rfl) (fun hok M0 w0 hnl => ?_)
  refine Aw_seq ?_
  refine Aw_region ?_
  refine Al_pu (Pu_boxN rfl rfl) rfl rfl (by decide) (by kernel_rfl) ?_
  refine Al_pu (Pu_move (.inr rfl) (by conv => lhs; whnf)) rfl rfl (by decide) (by kernel_rfl) ?_
  refine Al_nil ?_
  refine Aw_seq ?_
  refine Aw_region ?_
  refine Al_pu (Pu_field 2 rfl Try.underlying29 rfl rfl Try.sizeOf22 rfl) rfl rfl (by decide) (by kernel_rfl) ?_
  refine Al_pu (Pu_load1 rfl Try.isAgg22 rfl rfl) rfl rfl (by decide) (by kernel_rfl) ?_
  refine Al_pu (Pu_len rfl Try.underlying22 rfl (by first | exact List.length_map .. | exact rfl)) rfl rfl (by decide) (by kernel_rfl) ?_
  refine Al_pu (Pu_move (.inr rfl) (by conv => lhs; whnf)) rfl rfl (by decide) (by kernel_rfl) ?_
  refine Al_nil ?_
  refine Aw_ret ?_
  exact Sub.rfl -- ret 0
set_option maxRecDepth 100000 in
theorem tcheck_a (c : SRow) : ACall Try.prog 42 [.row c.row] (bv (T.ok c)) := by
  refine ACall_enter (fun _ _ => by kernel_rfl) Try.func42 rfl Try.ntmps42 Try.results42 (Nat.le_of_ble_eq_true rfl) (fun hok M0 w0 hnl => ?_)
  refine Aw_seq ?_
  refine Aw_region ?_
  refine Al_pu (Pu_boxN rfl rfl) rfl rfl (by decide) (by kernel_rfl) ?_
  refine Al_pu (Pu_move (.inr rfl) (by conv => lhs; whnf)) rfl rfl (by decide) (by kernel_rfl) ?_
  refine Al_nil ?_
  refine Aw_seq ?_
  refine Aw_region ?_
  refine Al_pu (Pu_loadN rfl Try.isAgg29 Try.sizeOf29 rfl (Nat.le_of_ble_eq_true rfl)) rfl rfl (by decide) (by kernel_rfl) ?_
  refine Al_pu (Pu_call (sites_a c) rfl ⟨Sub.rfl, trivial⟩) rfl rfl (by decide) (by kernel_rfl) ?_
  refine Al_pu (Pu_move (.inr rfl) (by conv => lhs; whnf)) rfl rfl (by decide) (by kernel_rfl) ?_
  refine Al_nil ?_
  refine Aw_seq ?_
  refine Aw_seq ?_
  refine Aw_region ?_
  refine Al_pu (Pu_move (.inl rfl) (by conv => lhs; whnf)) rfl rfl (by decide) (by kernel_rfl) ?_
  refine Al_pu (Pu_cmp rfl rfl rfl rfl) rfl rfl (by decide) (by kernel_rfl) ?_
  refine Al_pu (Pu_move (.inl rfl) (by conv => lhs; whnf)) rfl rfl (by decide) (by kernel_rfl) ?_
  refine Al_st (St_gd [] rfl rfl rfl rfl trivial (fun hg11 => by exact Pu_move (.inl rfl) (by conv => lhs; whnf))) rfl (by decide) (by kernel_rfl) (by intro j b oj dj h1 h2 h3; cases h1; cases h2; cases h3; decide) ?_
  refine Al_st (St_gd [11] rfl rfl rfl rfl ⟨⟨_, rfl⟩, trivial⟩ (fun hg12 => Pu_cmp rfl rfl rfl rfl)) rfl (by decide) (by kernel_rfl) (by intro j b oj dj h1 h2 h3; cases h1; cases h2; cases h3; decide) ?_
  refine Al_pu (Pu_or rfl rfl rfl rfl) rfl rfl (by decide) (by kernel_rfl) ?_
  refine Al_pu (Pu_move (.inl rfl) (by conv => lhs; whnf)) rfl rfl (by decide) (by kernel_rfl) ?_
  refine Al_st (St_gd [] rfl rfl rfl rfl trivial (fun hg15 => Pu_field 0 rfl Try.underlying29 rfl rfl Try.sizeOf27 rfl)) rfl (by decide) (by kernel_rfl) (by intro j b oj dj h1 h2 h3; cases h1; cases h2; cases h3; decide) ?_
  refine Al_st (St_gd [15] rfl rfl rfl rfl ⟨⟨_, rfl⟩, trivial⟩ (fun hg16 => Pu_load1 rfl Try.isAgg27 rfl rfl)) rfl (by decide) (by kernel_rfl) (by intro j b oj dj h1 h2 h3; cases h1; cases h2; cases h3; decide) ?_
  refine Al_st (St_gd [16] rfl rfl rfl rfl ⟨⟨_, rfl⟩, trivial⟩ (fun hg17 => by exact Pu_len rfl Try.underlying27 rfl (by first | exact List.length_map .. | exact rfl))) rfl (by decide) (by kernel_rfl) (by intro j b oj dj h1 h2 h3; cases h1; cases h2; cases h3; decide) ?_
  refine Al_st (St_gd [17] rfl rfl rfl rfl ⟨⟨_, rfl⟩, trivial⟩ (fun hg18 => Pu_cmp rfl rfl rfl rfl)) rfl (by decide) (by kernel_rfl) (by intro j b oj dj h1 h2 h3; cases h1; cases h2; cases h3; decide) ?_
  refine Al_pu (Pu_or rfl rfl rfl rfl) rfl rfl (by decide) (by kernel_rfl) ?_
  refine Al_pu (Pu_move (.inl rfl) (by conv => lhs; whnf)) rfl rfl (by decide) (by kernel_rfl) ?_
  refine Al_st (St_gd [] rfl rfl rfl rfl trivial (fun hg21 => Pu_field 1 rfl Try.underlying29 rfl rfl Try.sizeOf22 rfl)) rfl (by decide) (by kernel_rfl) (by intro j b oj dj h1 h2 h3; cases h1; cases h2; cases h3; decide) ?_
  refine Al_st (St_gd [21] rfl rfl rfl rfl ⟨⟨_, rfl⟩, trivial⟩ (fun hg22 => Pu_load1 rfl Try.isAgg22 rfl rfl)) rfl (by decide) (by kernel_rfl) (by intro j b oj dj h1 h2 h3; cases h1; cases h2; cases h3; decide) ?_
  refine Al_st (St_gd [22] rfl rfl rfl rfl ⟨⟨_, rfl⟩, trivial⟩ (fun hg23 => by exact Pu_len rfl Try.underlying22 rfl (by first | exact List.length_map .. | exact rfl))) rfl (by decide) (by kernel_rfl) (by intro j b oj dj h1 h2 h3; cases h1; cases h2; cases h3; decide) ?_
  refine Al_st (St_gd [] rfl rfl rfl rfl trivial (fun hg24 => Pu_field 0 rfl Try.underlying29 rfl rfl Try.sizeOf27 rfl)) rfl (by decide) (by kernel_rfl) (by intro j b oj dj h1 h2 h3; cases h1; cases h2; cases h3; decide) ?_
  refine Al_st (St_gd [24] rfl rfl rfl rfl ⟨⟨_, rfl⟩, trivial⟩ (fun hg25 => Pu_load1 rfl Try.isAgg27 rfl rfl)) rfl (by decide) (by kernel_rfl) (by intro j b oj dj h1 h2 h3; cases h1; cases h2; cases h3; decide) ?_
  refine Al_st (St_gd [25] rfl rfl rfl rfl ⟨⟨_, rfl⟩, trivial⟩ (fun hg26 => by exact Pu_len rfl Try.underlying27 rfl (by first | exact List.length_map .. | exact rfl))) rfl (by decide) (by kernel_rfl) (by intro j b oj dj h1 h2 h3; cases h1; cases h2; cases h3; decide) ?_
  refine Al_st (St_gd [23, 26] rfl rfl rfl rfl ⟨⟨_, rfl⟩, ⟨_, rfl⟩, trivial⟩ (fun hg27 => Pu_cmp rfl rfl rfl rfl)) rfl (by decide) (by kernel_rfl) (by intro j b oj dj h1 h2 h3; cases h1; cases h2; cases h3; decide) ?_
  refine Al_pu (Pu_or rfl rfl rfl rfl) rfl rfl (by decide) (by kernel_rfl) ?_
  refine Al_pu (Pu_move (.inl rfl) (by conv => lhs; whnf)) rfl rfl (by decide) (by kernel_rfl) ?_
  refine Al_st (St_gd [] rfl rfl rfl rfl trivial (fun hg30 => Pu_field 0 rfl Try.underlying29 rfl rfl Try.sizeOf27 rfl)) rfl (by decide) (by kernel_rfl) (by intro j b oj dj h1 h2 h3; cases h1; cases h2; cases h3; decide) ?_
  refine Al_st (St_gd [30] rfl rfl rfl rfl ⟨⟨_, rfl⟩, trivial⟩ (fun hg31 => Pu_load1 rfl Try.isAgg27 rfl rfl)) rfl (by decide) (by kernel_rfl) (by intro j b oj dj h1 h2 h3; cases h1; cases h2; cases h3; decide) ?_
  refine Al_st (St_gd [31] rfl rfl rfl rfl ⟨⟨_, rfl⟩, trivial⟩ (fun hg32 => Pu_call (whole_a c.ranges) rfl ⟨Sub.rfl, trivial⟩)) rfl (by decide) (by kernel_rfl) (by intro j b oj dj h1 h2 h3; cases h1; cases h2; cases h3; decide) ?_
  refine Al_st (St_gd [32] rfl rfl rfl rfl ⟨⟨_, rfl⟩, trivial⟩ (fun hg33 => Pu_not rfl rfl)) rfl (by decide) (by kernel_rfl) (by intro j b oj dj h1 h2 h3; cases h1; cases h2; cases h3; decide) ?_
  refine Al_pu (Pu_or rfl rfl rfl rfl) rfl rfl (by decide) (by kernel_rfl) ?_
  refine Al_nil ?_
  refine Aw_cond rfl (fun h34 => ?_) (fun h34 => ?_)
  · skip
    have hs : S.shape c = false := by
      have h := S.shape_z c
      rw [h34] at h
      simpa using h.symm
    refine Aw_seq ?_
    refine Aw_region ?_
    refine Al_pu (Pu_move (.inr rfl) (by conv => lhs; whnf)) rfl rfl (by decide) (by kernel_rfl) ?_
    refine Al_nil ?_
    refine Aw_ret ?_
    exact Sub.bool (by unfold T.ok; rw [hs]; rfl) -- ret 0
  · skip
    have hs : S.shape c = true := by
      have h := S.shape_z c
      rw [h34] at h
      simpa using h.symm
    obtain ⟨n1, n6, n8, no, _⟩ := S.shape_facts hs
    have hn : (0 : Int) ≤ (c.parents.length : Int) ∧ (c.parents.length : Int) ≤ (IntKind.i64.bits : Nat) := ⟨by omega, by show (c.parents.length : Int) ≤ 64; omega⟩
    refine Aw_skip ?_
    refine Aw_seq ?_
    refine Aw_seq ?_
    refine Aw_region ?_
    refine Al_pu (Pu_field 1 rfl Try.underlying29 rfl rfl Try.sizeOf22 rfl) rfl rfl (by decide) (by kernel_rfl) ?_
    refine Al_pu (Pu_load1 rfl Try.isAgg22 rfl rfl) rfl rfl (by decide) (by kernel_rfl) ?_
    refine Al_pu (Pu_len rfl Try.underlying22 rfl (by first | exact List.length_map .. | exact rfl)) rfl rfl (by decide) (by kernel_rfl) ?_
    refine Al_pu (Pu_move (.inl rfl) (by conv => lhs; whnf)) rfl rfl (by decide) (by kernel_rfl) ?_
    refine Al_nil ?_
    refine Aw_block ?_
    refine Aw_loopk (ι := Nat) [3, 36, 37] [] (fun k => [(38, .d (iv k))]) (fun k => []) (fun k => k ≤ c.owners.length ∧ (c.owners.take k).any (S.badO c.parents.length) = false) (fun k => c.owners.length - k) (0) (⟨Nat.zero_le _, by simp⟩) ⟨Sub.rfl, trivial⟩ trivial ?_
    rintro k ⟨hk0, hno⟩
    refine Aw_seq ?_
    refine Aw_region ?_
    refine Al_pu (Pu_cmp rfl rfl rfl rfl) rfl rfl (by decide) (by kernel_rfl) ?_
    refine Al_nil ?_
    refine Aw_seq ?_
    refine Aw_cond rfl (fun h39 => ?_) (fun h39 => ?_)
    · (try simp only [decide_eq_true_eq, decide_eq_false_iff_not, Bool.and_eq_true, Bool.or_eq_true, Bool.and_eq_false_iff, Bool.or_eq_false_iff, Bool.not_eq_true', Bool.not_eq_false', beq_iff_eq, Bool.not_eq_eq_eq_not, Bool.not_true, Bool.not_false, List.length_map, Bool.and_true, Bool.and_false, Bool.false_and, Bool.true_and, Bool.or_false, Bool.false_or] at h39)
      have hk : k < c.owners.length := by omega
      refine Aw_skip ?_
      refine Aw_seq ?_
      refine Aw_block ?_
      refine Aw_seq ?_
      refine Aw_region ?_
      refine Al_pu (Pu_index rfl Try.underlying22 Try.sizeOf3 rfl rfl (rfl) (mapget hk)) rfl rfl (by decide) (by kernel_rfl) ?_
      refine Al_pu (Pu_load1 rfl Try.isAgg3 rfl rfl) rfl rfl (by decide) (by kernel_rfl) ?_
      refine Al_pu (Pu_move (.inr rfl) (by conv => lhs; whnf)) rfl rfl (by decide) (by kernel_rfl) ?_
      refine Al_nil ?_
      refine Aw_seq ?_
      refine Aw_region ?_
      refine Al_pu (Pu_move (.inl rfl) (by conv => lhs; whnf)) rfl rfl (by decide) (by kernel_rfl) ?_
      refine Al_pu (Pu_cmp rfl rfl rfl rfl) rfl rfl (by decide) (by kernel_rfl) ?_
      refine Al_pu (Pu_move (.inl rfl) (by conv => lhs; whnf)) rfl rfl (by decide) (by kernel_rfl) ?_
      refine Al_st (St_gd [] rfl rfl rfl rfl trivial (fun hg45 => by exact Pu_move (.inl rfl) (by conv => lhs; whnf))) rfl (by decide) (by kernel_rfl) (by intro j b oj dj h1 h2 h3; cases h1; cases h2; cases h3; decide) ?_
      refine Al_st (St_gd [] rfl rfl rfl rfl trivial (fun hg46 => by exact Pu_move (.inl rfl) (by conv => lhs; whnf))) rfl (by decide) (by kernel_rfl) (by intro j b oj dj h1 h2 h3; cases h1; cases h2; cases h3; decide) ?_
      refine Al_st (St_gd [45, 46] rfl rfl rfl rfl ⟨⟨_, rfl⟩, ⟨_, rfl⟩, trivial⟩ (fun hg47 => Pu_int_shr rfl rfl rfl hn rfl (fun h => div_in _ h))) rfl (by decide) (by kernel_rfl) (by intro j b oj dj h1 h2 h3; cases h1; cases h2; cases h3; decide) ?_
      refine Al_st (St_gd [47] rfl rfl rfl rfl ⟨⟨_, rfl⟩, trivial⟩ (fun hg48 => Pu_cmp rfl rfl rfl rfl)) rfl (by decide) (by kernel_rfl) (by intro j b oj dj h1 h2 h3; cases h1; cases h2; cases h3; decide) ?_
      refine Al_pu (Pu_or rfl rfl rfl rfl) rfl rfl (by decide) (by kernel_rfl) ?_
      refine Al_nil ?_
      refine Aw_cond rfl (fun h49 => ?_) (fun h49 => ?_)
      · skip
        have hb : S.badO c.parents.length (c.owners[k]'hk) = true := by
          unfold S.badO
          by_cases h : c.owners[k]'hk < 1
          · simp [h]
          · have h2 := shr_pos (c.owners[k]'hk) c.parents.length h
            rw [← h2]
            exact h49
        refine Aw_seq ?_
        refine Aw_region ?_
        refine Al_pu (Pu_move (.inr rfl) (by conv => lhs; whnf)) rfl rfl (by decide) (by kernel_rfl) ?_
        refine Al_nil ?_
        refine Aw_ret ?_
        exact Sub.bool (by unfold T.ok; rw [S.any_at hk hb]; simp) -- ret 1
      · skip
        have hb : S.badO c.parents.length (c.owners[k]'hk) = false := by
          unfold S.badO
          by_cases h : c.owners[k]'hk < 1
          · simp [h] at h49
          · have h2 := shr_pos (c.owners[k]'hk) c.parents.length h
            rw [← h2]
            exact h49
        refine Aw_skip ?_
        refine Aw_region ?_
        refine Al_pu (Pu_add rfl rfl rfl (fun h1 h2 => by simp only [A.inI, A.maxI] at *; omega)) rfl rfl (by decide) (by kernel_rfl) ?_
        refine Al_pu (Pu_move (.inl rfl) (by conv => lhs; whnf)) rfl rfl (by decide) (by kernel_rfl) ?_
        refine Al_nil ?_
        exact ⟨k + 1, ⟨by omega, S.any_snoc hk hno hb⟩, by omega, Le.ov ⟨Sub.num (by omega), trivial⟩ ⟨Sub.rfl, Sub.rfl, Sub.rfl, trivial⟩ trivial trivial⟩ -- loop 0 next.0
    · (try simp only [decide_eq_true_eq, decide_eq_false_iff_not, Bool.and_eq_true, Bool.or_eq_true, Bool.and_eq_false_iff, Bool.or_eq_false_iff, Bool.not_eq_true', Bool.not_eq_false', beq_iff_eq, Bool.not_eq_eq_eq_not, Bool.not_true, Bool.not_false, List.length_map, Bool.and_true, Bool.and_false, Bool.false_and, Bool.true_and, Bool.or_false, Bool.false_or] at h39)
      obtain rfl : k = c.owners.length := by omega
      rw [List.take_length] at hno
      refine Aw_exit ?_
      refine Aw_seq ?_
      refine Aw_region ?_
      refine Al_pu (Pu_move (.inr rfl) (by conv => lhs; whnf)) rfl rfl (by decide) (by kernel_rfl) ?_
      refine Al_nil ?_
      refine Aw_ret ?_
      exact Sub.bool (by unfold T.ok; rw [hs, hno]; rfl) -- ret 2
set_option maxRecDepth 100000 in
theorem has_a (m : Nat) (s : Int) (hm : m < 64) : ACall Try.prog 39 [iv m, iv s] (bv (T.bit m s)) := by
  refine ACall_enter (fun _ _ => by kernel_rfl) Try.func39 rfl Try.ntmps39 Try.results39 (Nat.le_of_ble_eq_true rfl) (fun hok M0 w0 hnl => ?_)
  have q14 : (decide (0 ≤ s) && decide (s < 6)) = true → (0 : Int) ≤ s ∧ s ≤ (IntKind.i64.bits : Nat) := fun h => by
    simp only [Bool.and_eq_true, decide_eq_true_eq] at h
    exact ⟨h.1, by show s ≤ 64; omega⟩
  have q15 : m / 2 ^ s.toNat < 64 := by have := Nat.div_le_self m (2 ^ s.toNat); omega
  refine Aw_seq ?_
  refine Aw_region ?_
  refine Al_pu (Pu_move (.inr rfl) (by conv => lhs; whnf)) rfl rfl (by decide) (by kernel_rfl) ?_
  refine Al_nil ?_
  refine Aw_seq ?_
  refine Aw_region ?_
  refine Al_pu (Pu_move (.inl rfl) (by conv => lhs; whnf)) rfl rfl (by decide) (by kernel_rfl) ?_
  refine Al_pu (Pu_cmp rfl rfl rfl rfl) rfl rfl (by decide) (by kernel_rfl) ?_
  refine Al_pu (Pu_move (.inl rfl) (by conv => lhs; whnf)) rfl rfl (by decide) (by kernel_rfl) ?_
  refine Al_st (St_gd [] rfl rfl rfl rfl trivial (fun hg8 => by exact Pu_move (.inl rfl) (by conv => lhs; whnf))) rfl (by decide) (by kernel_rfl) (by intro j b oj dj h1 h2 h3; cases h1; cases h2; cases h3; decide) ?_
  refine Al_st (St_gd [8] rfl rfl rfl rfl ⟨⟨_, rfl⟩, trivial⟩ (fun hg9 => Pu_cmp rfl rfl rfl rfl)) rfl (by decide) (by kernel_rfl) (by intro j b oj dj h1 h2 h3; cases h1; cases h2; cases h3; decide) ?_
  refine Al_pu (Pu_and rfl rfl rfl rfl) rfl rfl (by decide) (by kernel_rfl) ?_
  refine Al_pu (Pu_move (.inl rfl) (by conv => lhs; whnf)) rfl rfl (by decide) (by kernel_rfl) ?_
  refine Al_st (St_gd [] rfl rfl rfl rfl trivial (fun hg12 => by exact Pu_move (.inl rfl) (by conv => lhs; whnf))) rfl (by decide) (by kernel_rfl) (by intro j b oj dj h1 h2 h3; cases h1; cases h2; cases h3; decide) ?_
  refine Al_st (St_gd [] rfl rfl rfl rfl trivial (fun hg13 => by exact Pu_move (.inl rfl) (by conv => lhs; whnf))) rfl (by decide) (by kernel_rfl) (by intro j b oj dj h1 h2 h3; cases h1; cases h2; cases h3; decide) ?_
  refine Al_st (St_gd [12, 13] rfl rfl rfl rfl ⟨⟨_, rfl⟩, ⟨_, rfl⟩, trivial⟩ (fun hg14 => Pu_int_shr (r := ((m / 2 ^ s.toNat : Nat) : Int)) rfl rfl rfl (q14 hg14) (T.shr_nat m s) (fun _ => T.vok64 q15))) rfl (by decide) (by kernel_rfl) (by intro j b oj dj h1 h2 h3; cases h1; cases h2; cases h3; decide) ?_
  refine Al_st (St_gd [14] rfl rfl rfl rfl ⟨⟨_, rfl⟩, trivial⟩ (fun hg15 => by exact Pu_and1 rfl rfl rfl (Nat.lt_trans q15 (by decide)) rfl)) rfl (by decide) (by kernel_rfl) (by intro j b oj dj h1 h2 h3; cases h1; cases h2; cases h3; decide) ?_
  refine Al_st (St_gd [15] rfl rfl rfl rfl ⟨⟨_, rfl⟩, trivial⟩ (fun hg16 => Pu_cmp rfl rfl rfl rfl)) rfl (by decide) (by kernel_rfl) (by intro j b oj dj h1 h2 h3; cases h1; cases h2; cases h3; decide) ?_
  refine Al_pu (Pu_and rfl rfl rfl rfl) rfl rfl (by decide) (by kernel_rfl) ?_
  refine Al_pu (Pu_move (.inr rfl) (by conv => lhs; whnf)) rfl rfl (by decide) (by kernel_rfl) ?_
  refine Al_nil ?_
  refine Aw_ret ?_
  exact Sub.bool (T.bit_eq m s) -- ret 0
theorem T.shape_owner {c : SRow} (h : T.ok c = true) {key : ByteArray} (hf : ¬ findR c.ranges key < 0) : ∃ k : Nat, findR c.ranges key = (k : Int) ∧ ∃ hk : k < c.owners.length, 1 ≤ c.owners[k] ∧ c.owners[k] < 64 ∧ (T.owners c key : Int) = c.owners[k] := by
  obtain ⟨hs, ho⟩ := T.ok_facts h
  obtain ⟨n1, n6, n8, no, _⟩ := S.shape_facts hs
  have hi : findR c.ranges key < c.ranges.length := by
    rcases idxF_le (fun r => K.hasB r.f r.t key) c.ranges with h1 | ⟨_, h1⟩
    · exact h1.2
    · exact absurd (show findR c.ranges key < 0 by show idxF _ _ < 0; omega) hf
  refine ⟨(findR c.ranges key).toNat, by omega, by omega, ?_⟩
  have hk : (findR c.ranges key).toNat < c.owners.length := by omega
  have h1 := ho _ (List.getElem_mem hk)
  have h2 := T.pow_le n6
  have h3 : ((2 ^ c.parents.length : Nat) : Int) = (2 : Int) ^ c.parents.length := by rw [Int.natCast_pow]; rfl
  refine ⟨h1.1, by omega, ?_⟩
  unfold T.owners
  rw [if_pos h, if_neg hf, List.getD_eq_getElem?_getD, List.getElem?_eq_getElem hk]
  simp only [Option.getD_some]
  omega
theorem T.owners_lt (c : SRow) (key : ByteArray) : T.owners c key < 64 := by
  by_cases h : T.ok c = true
  · by_cases hf : findR c.ranges key < 0
    · unfold T.owners; rw [if_pos h, if_pos hf]; omega
    · obtain ⟨k, h1, h2, h3, h4, h5⟩ := T.shape_owner h hf
      omega
  · unfold T.owners; rw [if_neg h]; omega
set_option maxRecDepth 100000 in
theorem owners_a (c : SRow) (key : ByteArray) : ACall Try.prog 40 [.row c.row, tv key] (iv (T.owners c key)) := by
  refine ACall_enter (fun _ _ => by kernel_rfl) Try.func40 rfl Try.ntmps40 Try.results40 (Nat.le_of_ble_eq_true rfl) (fun hok M0 w0 hnl => ?_)
  refine Aw_seq ?_
  refine Aw_region ?_
  refine Al_pu (Pu_boxN rfl rfl) rfl rfl (by decide) (by kernel_rfl) ?_
  refine Al_pu (Pu_move (.inr rfl) (by conv => lhs; whnf)) rfl rfl (by decide) (by kernel_rfl) ?_
  refine Al_nil ?_
  refine Aw_seq ?_
  refine Aw_seq ?_
  refine Aw_region ?_
  refine Al_pu (Pu_loadN rfl Try.isAgg29 Try.sizeOf29 rfl (Nat.le_of_ble_eq_true rfl)) rfl rfl (by decide) (by kernel_rfl) ?_
  refine Al_pu (Pu_call (tcheck_a c) rfl ⟨Sub.rfl, trivial⟩) rfl rfl (by decide) (by kernel_rfl) ?_
  refine Al_pu (Pu_not rfl rfl) rfl rfl (by decide) (by kernel_rfl) ?_
  refine Al_nil ?_
  refine Aw_cond rfl (fun h8 => ?_) (fun h8 => ?_)
  · skip
    have hno : T.owners c key = 0 := by
      unfold T.owners; rw [if_neg]; simpa using h8
    refine Aw_seq ?_
    refine Aw_region ?_
    refine Al_pu (Pu_move (.inr rfl) (by conv => lhs; whnf)) rfl rfl (by decide) (by kernel_rfl) ?_
    refine Al_nil ?_
    refine Aw_ret ?_
    exact Sub.num (by rw [hno]; rfl) -- ret 0
  · skip
    have hok2 : T.ok c = true := by simpa using h8
    have hl := (S.shape_facts (T.ok_facts hok2).1).2.2.1
    refine Aw_skip ?_
    refine Aw_seq ?_
    refine Aw_region ?_
    refine Al_pu (Pu_field 0 rfl Try.underlying29 rfl rfl Try.sizeOf27 rfl) rfl rfl (by decide) (by kernel_rfl) ?_
    refine Al_pu (Pu_load1 rfl Try.isAgg27 rfl rfl) rfl rfl (by decide) (by kernel_rfl) ?_
    refine Al_pu (Pu_move (.inl rfl) (by conv => lhs; whnf)) rfl rfl (by decide) (by kernel_rfl) ?_
    refine Al_pu (Pu_call (find_a c.ranges key (by omega)) rfl ⟨Sub.rfl, Sub.rfl, trivial⟩) rfl rfl (by decide) (by kernel_rfl) ?_
    refine Al_pu (Pu_move (.inr rfl) (by conv => lhs; whnf)) rfl rfl (by decide) (by kernel_rfl) ?_
    refine Al_nil ?_
    refine Aw_seq ?_
    refine Aw_seq ?_
    refine Aw_region ?_
    refine Al_pu (Pu_move (.inl rfl) (by conv => lhs; whnf)) rfl rfl (by decide) (by kernel_rfl) ?_
    refine Al_pu (Pu_cmp rfl rfl rfl rfl) rfl rfl (by decide) (by kernel_rfl) ?_
    refine Al_nil ?_
    refine Aw_cond rfl (fun h14 => ?_) (fun h14 => ?_)
    · (try simp only [decide_eq_true_eq, decide_eq_false_iff_not, Bool.and_eq_true, Bool.or_eq_true, Bool.and_eq_false_iff, Bool.or_eq_false_iff, Bool.not_eq_true', Bool.not_eq_false', beq_iff_eq, Bool.not_eq_eq_eq_not, Bool.not_true, Bool.not_false, List.length_map, Bool.and_true, Bool.and_false, Bool.false_and, Bool.true_and, Bool.or_false, Bool.false_or] at h14)
      have hno : T.owners c key = 0 := by
        unfold T.owners; rw [if_pos hok2, if_pos h14]
      refine Aw_seq ?_
      refine Aw_region ?_
      refine Al_pu (Pu_move (.inr rfl) (by conv => lhs; whnf)) rfl rfl (by decide) (by kernel_rfl) ?_
      refine Al_nil ?_
      refine Aw_ret ?_
      exact Sub.num (by rw [hno]; rfl) -- ret 1
    · (try simp only [decide_eq_true_eq, decide_eq_false_iff_not, Bool.and_eq_true, Bool.or_eq_true, Bool.and_eq_false_iff, Bool.or_eq_false_iff, Bool.not_eq_true', Bool.not_eq_false', beq_iff_eq, Bool.not_eq_eq_eq_not, Bool.not_true, Bool.not_false, List.length_map, Bool.and_true, Bool.and_false, Bool.false_and, Bool.true_and, Bool.or_false, Bool.false_or] at h14)
      obtain ⟨k, e1, hk, e2, e3, e4⟩ := T.shape_owner hok2 h14
      refine Aw_skip ?_
      refine Aw_seq ?_
      refine Aw_region ?_
      refine Al_pu (Pu_field 1 rfl Try.underlying29 rfl rfl Try.sizeOf22 rfl) rfl rfl (by decide) (by kernel_rfl) ?_
      refine Al_pu (Pu_load1 rfl Try.isAgg22 rfl rfl) rfl rfl (by decide) (by kernel_rfl) ?_
      refine Al_pu (Pu_move (.inl rfl) (by conv => lhs; whnf)) rfl rfl (by decide) (by kernel_rfl) ?_
      refine Al_pu (Pu_index rfl Try.underlying22 Try.sizeOf3 rfl rfl (e1) (mapget hk)) rfl rfl (by decide) (by kernel_rfl) ?_
      refine Al_pu (Pu_load1 rfl Try.isAgg3 rfl rfl) rfl rfl (by decide) (by kernel_rfl) ?_
      refine Al_pu (Pu_move (.inr rfl) (by conv => lhs; whnf)) rfl rfl (by decide) (by kernel_rfl) ?_
      refine Al_nil ?_
      refine Aw_ret ?_
      exact Sub.num e4.symm -- ret 2
set_option maxRecDepth 100000 in
theorem owns_a (c : SRow) (s : Int) (key : ByteArray) : ACall Try.prog 26 [.row c.row, iv s, tv key] (bv (T.bit (T.owners c key) s)) := by
  refine ACall_enter (fun _ _ => by kernel_rfl) Try.func26 rfl Try.ntmps26 Try.results26 (Nat.le_of_ble_eq_true rfl) (fun hok M0 w0 hnl => ?_)
  refine Aw_seq ?_
  refine Aw_region ?_
  refine Al_pu (Pu_boxN rfl rfl) rfl rfl (by decide) (by kernel_rfl) ?_
  refine Al_pu (Pu_move (.inr rfl) (by conv => lhs; whnf)) rfl rfl (by decide) (by kernel_rfl) ?_
  refine Al_nil ?_
  refine Aw_seq ?_
  refine Aw_region ?_
  refine Al_pu (Pu_loadN rfl Try.isAgg29 Try.sizeOf29 rfl (Nat.le_of_ble_eq_true rfl)) rfl rfl (by decide) (by kernel_rfl) ?_
  refine Al_pu (Pu_move (.inl rfl) (by conv => lhs; whnf)) rfl rfl (by decide) (by kernel_rfl) ?_
  refine Al_pu (Pu_call (owners_a c key) rfl ⟨Sub.rfl, Sub.rfl, trivial⟩) rfl rfl (by decide) (by kernel_rfl) ?_
  refine Al_pu (Pu_move (.inl rfl) (by conv => lhs; whnf)) rfl rfl (by decide) (by kernel_rfl) ?_
  refine Al_pu (Pu_call (has_a (T.owners c key) s (T.owners_lt c key)) rfl ⟨Sub.rfl, Sub.rfl, trivial⟩) rfl rfl (by decide) (by kernel_rfl) ?_
  refine Al_pu (Pu_move (.inr rfl) (by conv => lhs; whnf)) rfl rfl (by decide) (by kernel_rfl) ?_
  refine Al_nil ?_
  refine Aw_ret ?_
  exact Sub.rfl -- ret 0
set_option maxRecDepth 100000 in
theorem first_a (c : SRow) (key : ByteArray) : ACall Try.prog 28 [.row c.row, tv key] (iv (T.firstF (T.owners c key))) := by
  refine ACall_enter (fun _ _ => by kernel_rfl) Try.func28 rfl Try.ntmps28 Try.results28 (Nat.le_of_ble_eq_true rfl) (fun hok M0 w0 hnl => ?_)
  refine Aw_seq ?_
  refine Aw_region ?_
  refine Al_pu (Pu_boxN rfl rfl) rfl rfl (by decide) (by kernel_rfl) ?_
  refine Al_pu (Pu_move (.inr rfl) (by conv => lhs; whnf)) rfl rfl (by decide) (by kernel_rfl) ?_
  refine Al_nil ?_
  refine Aw_seq ?_
  refine Aw_region ?_
  refine Al_pu (Pu_loadN rfl Try.isAgg29 Try.sizeOf29 rfl (Nat.le_of_ble_eq_true rfl)) rfl rfl (by decide) (by kernel_rfl) ?_
  refine Al_pu (Pu_move (.inl rfl) (by conv => lhs; whnf)) rfl rfl (by decide) (by kernel_rfl) ?_
  refine Al_pu (Pu_call (owners_a c key) rfl ⟨Sub.rfl, Sub.rfl, trivial⟩) rfl rfl (by decide) (by kernel_rfl) ?_
  refine Al_pu (Pu_move (.inr rfl) (by conv => lhs; whnf)) rfl rfl (by decide) (by kernel_rfl) ?_
  refine Al_nil ?_
  refine Aw_seq ?_
  refine Aw_seq ?_
  refine Aw_region ?_
  refine Al_pu (Pu_move (.inl rfl) (by conv => lhs; whnf)) rfl rfl (by decide) (by kernel_rfl) ?_
  refine Al_nil ?_
  refine Aw_block ?_
  refine Aw_loopk (ι := Nat) [5] [] (fun s => [(10, .d (iv s))]) (fun s => []) (fun s => s ≤ 6 ∧ ∀ j, j < s → T.bit (T.owners c key) (j : Nat) = false) (fun s => 6 - s) (0) (⟨Nat.zero_le _, fun j hj => absurd hj (Nat.not_lt_zero _)⟩) ⟨Sub.rfl, trivial⟩ trivial ?_
  rintro s ⟨hk0, hn⟩
  refine Aw_seq ?_
  refine Aw_region ?_
  refine Al_pu (Pu_cmp rfl rfl rfl rfl) rfl rfl (by decide) (by kernel_rfl) ?_
  refine Al_nil ?_
  refine Aw_seq ?_
  refine Aw_cond rfl (fun h11 => ?_) (fun h11 => ?_)
  · (try simp only [decide_eq_true_eq, decide_eq_false_iff_not, Bool.and_eq_true, Bool.or_eq_true, Bool.and_eq_false_iff, Bool.or_eq_false_iff, Bool.not_eq_true', Bool.not_eq_false', beq_iff_eq, Bool.not_eq_eq_eq_not, Bool.not_true, Bool.not_false, List.length_map, Bool.and_true, Bool.and_false, Bool.false_and, Bool.true_and, Bool.or_false, Bool.false_or] at h11)
    have hs6 : s < 6 := by omega
    refine Aw_skip ?_
    refine Aw_seq ?_
    refine Aw_block ?_
    refine Aw_seq ?_
    refine Aw_region ?_
    refine Al_pu (Pu_move (.inl rfl) (by conv => lhs; whnf)) rfl rfl (by decide) (by kernel_rfl) ?_
    refine Al_pu (Pu_move (.inr rfl) (by conv => lhs; whnf)) rfl rfl (by decide) (by kernel_rfl) ?_
    refine Al_nil ?_
    refine Aw_seq ?_
    refine Aw_region ?_
    refine Al_pu (Pu_move (.inl rfl) (by conv => lhs; whnf)) rfl rfl (by decide) (by kernel_rfl) ?_
    refine Al_pu (Pu_move (.inl rfl) (by conv => lhs; whnf)) rfl rfl (by decide) (by kernel_rfl) ?_
    refine Al_pu (Pu_call (has_a (T.owners c key) s (T.owners_lt c key)) rfl ⟨Sub.rfl, Sub.rfl, trivial⟩) rfl rfl (by decide) (by kernel_rfl) ?_
    refine Al_nil ?_
    refine Aw_cond rfl (fun h15 => ?_) (fun h15 => ?_)
    · (try simp only [decide_eq_true_eq, decide_eq_false_iff_not, Bool.and_eq_true, Bool.or_eq_true, Bool.and_eq_false_iff, Bool.or_eq_false_iff, Bool.not_eq_true', Bool.not_eq_false', beq_iff_eq, Bool.not_eq_eq_eq_not, Bool.not_true, Bool.not_false, List.length_map, Bool.and_true, Bool.and_false, Bool.false_and, Bool.true_and, Bool.or_false, Bool.false_or] at h15)
      refine Aw_seq ?_
      refine Aw_region ?_
      refine Al_pu (Pu_move (.inl rfl) (by conv => lhs; whnf)) rfl rfl (by decide) (by kernel_rfl) ?_
      refine Al_pu (Pu_move (.inr rfl) (by conv => lhs; whnf)) rfl rfl (by decide) (by kernel_rfl) ?_
      refine Al_nil ?_
      refine Aw_ret ?_
      exact Sub.num (T.first_eq hs6 h15 hn).symm -- ret 0
    · (try simp only [decide_eq_true_eq, decide_eq_false_iff_not, Bool.and_eq_true, Bool.or_eq_true, Bool.and_eq_false_iff, Bool.or_eq_false_iff, Bool.not_eq_true', Bool.not_eq_false', beq_iff_eq, Bool.not_eq_eq_eq_not, Bool.not_true, Bool.not_false, List.length_map, Bool.and_true, Bool.and_false, Bool.false_and, Bool.true_and, Bool.or_false, Bool.false_or] at h15)
      refine Aw_skip ?_
      refine Aw_region ?_
      refine Al_pu (Pu_add rfl rfl rfl (fun h1 h2 => by simp only [A.inI, A.maxI] at *; omega)) rfl rfl (by decide) (by kernel_rfl) ?_
      refine Al_pu (Pu_move (.inl rfl) (by conv => lhs; whnf)) rfl rfl (by decide) (by kernel_rfl) ?_
      refine Al_nil ?_
      exact ⟨s + 1, ⟨by omega, fun j hj => by rcases Nat.lt_succ_iff_lt_or_eq.1 hj with h | rfl; exact hn j h; exact h15⟩, by omega, Le.ov ⟨Sub.num (by omega), trivial⟩ ⟨Sub.rfl, trivial⟩ trivial trivial⟩ -- loop 0 next.0
  · (try simp only [decide_eq_true_eq, decide_eq_false_iff_not, Bool.and_eq_true, Bool.or_eq_true, Bool.and_eq_false_iff, Bool.or_eq_false_iff, Bool.not_eq_true', Bool.not_eq_false', beq_iff_eq, Bool.not_eq_eq_eq_not, Bool.not_true, Bool.not_false, List.length_map, Bool.and_true, Bool.and_false, Bool.false_and, Bool.true_and, Bool.or_false, Bool.false_or] at h11)
    obtain rfl : s = 6 := by omega
    refine Aw_exit ?_
    refine Aw_seq ?_
    refine Aw_region ?_
    refine Al_pu (Pu_move (.inr rfl) (by conv => lhs; whnf)) rfl rfl (by decide) (by kernel_rfl) ?_
    refine Al_nil ?_
    refine Aw_ret ?_
    exact Sub.num (T.first_none hn).symm -- ret 1
end Go.Proofs.Ytfalbocgnmlncaa

set_option linter.unusedSimpArgs false
set_option linter.unusedVariables false
namespace Go.Proofs.Ytfalbocgnmlncaa
open Go.RowKit A R
open A.RowT
theorem T.pow_cast (n : Nat) : ((2 ^ n : Nat) : Int) = (2 : Int) ^ n := by rw [Int.natCast_pow]; rfl
set_option maxRecDepth 100000 in
theorem two_a (n : Nat) (hn : n ≤ 6) : ACall Try.prog 41 [iv n] (iv ((2 ^ n : Nat) : Int)) := by
  refine ACall_enter (fun _ _ => by kernel_rfl) Try.func41 rfl Try.ntmps41 Try.results41 (Nat.le_of_ble_eq_true rfl) (fun hok M0 w0 hnl => ?_)
  refine Aw_seq ?_
  refine Aw_region ?_
  refine Al_pu (Pu_move (.inr rfl) (by conv => lhs; whnf)) rfl rfl (by decide) (by kernel_rfl) ?_
  refine Al_nil ?_
  refine Aw_seq ?_
  refine Aw_region ?_
  refine Al_pu (Pu_move (.inr rfl) (by conv => lhs; whnf)) rfl rfl (by decide) (by kernel_rfl) ?_
  refine Al_nil ?_
  refine Aw_seq ?_
  refine Aw_seq ?_
  refine Aw_region ?_
  refine Al_pu (Pu_move (.inr rfl) (by conv => lhs; whnf)) rfl rfl (by decide) (by kernel_rfl) ?_
  refine Al_nil ?_
  refine Aw_block ?_
  refine Aw_loopk (ι := Nat) [0] [] (fun k => [(4, .d (iv k)), (3, .d (iv ((2 ^ k : Nat) : Int)))]) (fun k => []) (fun k => k ≤ n) (fun k => n - k) (0) (Nat.zero_le _) ⟨Sub.rfl, Sub.rfl, trivial⟩ trivial ?_
  rintro k hk0
  refine Aw_seq ?_
  refine Aw_seq ?_
  refine Aw_region ?_
  refine Al_pu (Pu_move (.inl rfl) (by conv => lhs; whnf)) rfl rfl (by decide) (by kernel_rfl) ?_
  refine Al_pu (Pu_move (.inl rfl) (by conv => lhs; whnf)) rfl rfl (by decide) (by kernel_rfl) ?_
  refine Al_pu (Pu_cmp rfl rfl rfl rfl) rfl rfl (by decide) (by kernel_rfl) ?_
  refine Al_nil ?_
  refine Aw_cond rfl (fun h7 => ?_) (fun h7 => ?_)
  · (try simp only [decide_eq_true_eq, decide_eq_false_iff_not, Bool.and_eq_true, Bool.or_eq_true, Bool.and_eq_false_iff, Bool.or_eq_false_iff, Bool.not_eq_true', Bool.not_eq_false', beq_iff_eq, Bool.not_eq_eq_eq_not, Bool.not_true, Bool.not_false, List.length_map, Bool.and_true, Bool.and_false, Bool.false_and, Bool.true_and, Bool.or_false, Bool.false_or] at h7)
    have hk6 := T.pow_le (n := k + 1) (by omega)
    have hk5 := T.pow_le (n := k) (by omega)
    have hp : 2 ^ (k + 1) = 2 ^ k * 2 := Nat.pow_succ ..
    refine Aw_skip ?_
    refine Aw_seq ?_
    refine Aw_block ?_
    refine Aw_region ?_
    refine Al_pu (Pu_move (.inl rfl) (by conv => lhs; whnf)) rfl rfl (by decide) (by kernel_rfl) ?_
    refine Al_pu (Pu_int_mul (r := ((2 ^ (k + 1) : Nat) : Int)) rfl rfl rfl (by rw [show ((2 ^ k : Nat) : Int) * 2 = ((2 ^ (k + 1) : Nat) : Int) from by rw [hp]; omega]; exact IntWalk.i64_in _ (by omega)) (fun _ => by show A.inI _; simp only [A.inI]; omega)) rfl rfl (by decide) (by kernel_rfl) ?_
    refine Al_pu (Pu_move (.inr rfl) (by conv => lhs; whnf)) rfl rfl (by decide) (by kernel_rfl) ?_
    refine Al_nil ?_
    refine Aw_region ?_
    refine Al_pu (Pu_move (.inl rfl) (by conv => lhs; whnf)) rfl rfl (by decide) (by kernel_rfl) ?_
    refine Al_pu (Pu_add rfl rfl rfl (fun h1 h2 => by simp only [A.inI, A.maxI] at *; omega)) rfl rfl (by decide) (by kernel_rfl) ?_
    refine Al_pu (Pu_move (.inr rfl) (by conv => lhs; whnf)) rfl rfl (by decide) (by kernel_rfl) ?_
    refine Al_nil ?_
    exact ⟨k + 1, by omega, by omega, Le.ov ⟨Sub.num (by omega), Sub.rfl, trivial⟩ ⟨Sub.rfl, trivial⟩ trivial trivial⟩ -- loop 0 next.0
  · (try simp only [decide_eq_true_eq, decide_eq_false_iff_not, Bool.and_eq_true, Bool.or_eq_true, Bool.and_eq_false_iff, Bool.or_eq_false_iff, Bool.not_eq_true', Bool.not_eq_false', beq_iff_eq, Bool.not_eq_eq_eq_not, Bool.not_true, Bool.not_false, List.length_map, Bool.and_true, Bool.and_false, Bool.false_and, Bool.true_and, Bool.or_false, Bool.false_or] at h7)
    obtain rfl : k = n := by omega
    refine Aw_exit ?_
    refine Aw_seq ?_
    refine Aw_region ?_
    refine Al_pu (Pu_move (.inl rfl) (by conv => lhs; whnf)) rfl rfl (by decide) (by kernel_rfl) ?_
    refine Al_pu (Pu_move (.inr rfl) (by conv => lhs; whnf)) rfl rfl (by decide) (by kernel_rfl) ?_
    refine Al_nil ?_
    refine Aw_ret ?_
    exact Sub.rfl -- ret 0
set_option maxRecDepth 100000 in
theorem rbit_a (m s : Nat) (hm : m < 64) (hs : s < 6) : ACall Try.prog 29 [iv m, iv s] (bv (decide (m / 2 ^ s % 2 = 1))) := by
  refine ACall_enter (fun _ _ => by kernel_rfl) Try.func29 rfl Try.ntmps29 Try.results29 (Nat.le_of_ble_eq_true rfl) (fun hok M0 w0 hnl => ?_)
  have h2 : (2 : Nat) ^ s ≠ 0 := Nat.pos_iff_ne_zero.1 (Nat.pow_pos (by omega))
  have h3 := Nat.div_le_self m (2 ^ s)
  refine Aw_seq ?_
  refine Aw_region ?_
  refine Al_pu (Pu_move (.inr rfl) (by conv => lhs; whnf)) rfl rfl (by decide) (by kernel_rfl) ?_
  refine Al_nil ?_
  refine Aw_seq ?_
  refine Aw_region ?_
  refine Al_pu (Pu_move (.inl rfl) (by conv => lhs; whnf)) rfl rfl (by decide) (by kernel_rfl) ?_
  refine Al_pu (Pu_move (.inl rfl) (by conv => lhs; whnf)) rfl rfl (by decide) (by kernel_rfl) ?_
  refine Al_pu (Pu_call (two_a s (by omega)) rfl ⟨Sub.rfl, trivial⟩) rfl rfl (by decide) (by kernel_rfl) ?_
  refine Al_pu (Pu_int_quo (r := ((m / 2 ^ s : Nat) : Int)) rfl rfl rfl (by omega) (quo_nat (by omega)).1 (fun _ => (quo_nat (by omega)).2)) rfl rfl (by decide) (by kernel_rfl) ?_
  refine Al_pu (Pu_rem (c := ((m / 2 ^ s % 2 : Nat) : Int)) rfl rfl rfl (by decide) (by rw [Int.tmod_eq_emod_of_nonneg (Int.natCast_nonneg _)]; rfl)) rfl rfl (by decide) (by kernel_rfl) ?_
  refine Al_pu (Pu_cmp rfl rfl rfl rfl) rfl rfl (by decide) (by kernel_rfl) ?_
  refine Al_pu (Pu_move (.inr rfl) (by conv => lhs; whnf)) rfl rfl (by decide) (by kernel_rfl) ?_
  refine Al_nil ?_
  refine Aw_ret ?_
  exact Sub.bool (decide_eq_decide.2 (by omega)) -- ret 0
set_option maxRecDepth 100000 in
theorem rtcheck_a (c : SRow) : ACall Try.prog 35 [.row c.row] (bv (T.ok c)) := by
  refine ACall_enter (fun _ _ => by kernel_rfl) Try.func35 rfl Try.ntmps35 Try.results35 (Nat.le_of_ble_eq_true rfl) (fun hok M0 w0 hnl => ?_)
  refine Aw_seq ?_
  refine Aw_region ?_
  refine Al_pu (Pu_boxN rfl rfl) rfl rfl (by decide) (by kernel_rfl) ?_
  refine Al_pu (Pu_move (.inr rfl) (by conv => lhs; whnf)) rfl rfl (by decide) (by kernel_rfl) ?_
  refine Al_nil ?_
  refine Aw_seq ?_
  refine Aw_region ?_
  refine Al_pu (Pu_field 2 rfl Try.underlying29 rfl rfl Try.sizeOf22 rfl) rfl rfl (by decide) (by kernel_rfl) ?_
  refine Al_pu (Pu_load1 rfl Try.isAgg22 rfl rfl) rfl rfl (by decide) (by kernel_rfl) ?_
  refine Al_pu (Pu_len rfl Try.underlying22 rfl (by first | exact List.length_map .. | exact rfl)) rfl rfl (by decide) (by kernel_rfl) ?_
  refine Al_pu (Pu_move (.inr rfl) (by conv => lhs; whnf)) rfl rfl (by decide) (by kernel_rfl) ?_
  refine Al_nil ?_
  refine Aw_seq ?_
  refine Aw_region ?_
  refine Al_pu (Pu_field 0 rfl Try.underlying29 rfl rfl Try.sizeOf27 rfl) rfl rfl (by decide) (by kernel_rfl) ?_
  refine Al_pu (Pu_load1 rfl Try.isAgg27 rfl rfl) rfl rfl (by decide) (by kernel_rfl) ?_
  refine Al_pu (Pu_call (rwhole_a c.ranges) rfl ⟨Sub.rfl, trivial⟩) rfl rfl (by decide) (by kernel_rfl) ?_
  refine Al_pu (Pu_move (.inr rfl) (by conv => lhs; whnf)) rfl rfl (by decide) (by kernel_rfl) ?_
  refine Al_nil ?_
  refine Aw_seq ?_
  refine Aw_seq ?_
  refine Aw_region ?_
  refine Al_pu (Pu_move (.inl rfl) (by conv => lhs; whnf)) rfl rfl (by decide) (by kernel_rfl) ?_
  refine Al_pu (Pu_not rfl rfl) rfl rfl (by decide) (by kernel_rfl) ?_
  refine Al_pu (Pu_move (.inl rfl) (by conv => lhs; whnf)) rfl rfl (by decide) (by kernel_rfl) ?_
  refine Al_st (St_gd [] rfl rfl rfl rfl trivial (fun hg15 => Pu_field 0 rfl Try.underlying29 rfl rfl Try.sizeOf27 rfl)) rfl (by decide) (by kernel_rfl) (by intro j b oj dj h1 h2 h3; cases h1; cases h2; cases h3; decide) ?_
  refine Al_st (St_gd [15] rfl rfl rfl rfl ⟨⟨_, rfl⟩, trivial⟩ (fun hg16 => Pu_load1 rfl Try.isAgg27 rfl rfl)) rfl (by decide) (by kernel_rfl) (by intro j b oj dj h1 h2 h3; cases h1; cases h2; cases h3; decide) ?_
  refine Al_st (St_gd [16] rfl rfl rfl rfl ⟨⟨_, rfl⟩, trivial⟩ (fun hg17 => by exact Pu_len rfl Try.underlying27 rfl (by first | exact List.length_map .. | exact rfl))) rfl (by decide) (by kernel_rfl) (by intro j b oj dj h1 h2 h3; cases h1; cases h2; cases h3; decide) ?_
  refine Al_st (St_gd [17] rfl rfl rfl rfl ⟨⟨_, rfl⟩, trivial⟩ (fun hg18 => Pu_cmp rfl rfl rfl rfl)) rfl (by decide) (by kernel_rfl) (by intro j b oj dj h1 h2 h3; cases h1; cases h2; cases h3; decide) ?_
  refine Al_pu (Pu_or rfl rfl rfl rfl) rfl rfl (by decide) (by kernel_rfl) ?_
  refine Al_pu (Pu_move (.inl rfl) (by conv => lhs; whnf)) rfl rfl (by decide) (by kernel_rfl) ?_
  refine Al_st (St_gd [] rfl rfl rfl rfl trivial (fun hg21 => Pu_field 1 rfl Try.underlying29 rfl rfl Try.sizeOf22 rfl)) rfl (by decide) (by kernel_rfl) (by intro j b oj dj h1 h2 h3; cases h1; cases h2; cases h3; decide) ?_
  refine Al_st (St_gd [21] rfl rfl rfl rfl ⟨⟨_, rfl⟩, trivial⟩ (fun hg22 => Pu_load1 rfl Try.isAgg22 rfl rfl)) rfl (by decide) (by kernel_rfl) (by intro j b oj dj h1 h2 h3; cases h1; cases h2; cases h3; decide) ?_
  refine Al_st (St_gd [22] rfl rfl rfl rfl ⟨⟨_, rfl⟩, trivial⟩ (fun hg23 => by exact Pu_len rfl Try.underlying22 rfl (by first | exact List.length_map .. | exact rfl))) rfl (by decide) (by kernel_rfl) (by intro j b oj dj h1 h2 h3; cases h1; cases h2; cases h3; decide) ?_
  refine Al_st (St_gd [] rfl rfl rfl rfl trivial (fun hg24 => Pu_field 0 rfl Try.underlying29 rfl rfl Try.sizeOf27 rfl)) rfl (by decide) (by kernel_rfl) (by intro j b oj dj h1 h2 h3; cases h1; cases h2; cases h3; decide) ?_
  refine Al_st (St_gd [24] rfl rfl rfl rfl ⟨⟨_, rfl⟩, trivial⟩ (fun hg25 => Pu_load1 rfl Try.isAgg27 rfl rfl)) rfl (by decide) (by kernel_rfl) (by intro j b oj dj h1 h2 h3; cases h1; cases h2; cases h3; decide) ?_
  refine Al_st (St_gd [25] rfl rfl rfl rfl ⟨⟨_, rfl⟩, trivial⟩ (fun hg26 => by exact Pu_len rfl Try.underlying27 rfl (by first | exact List.length_map .. | exact rfl))) rfl (by decide) (by kernel_rfl) (by intro j b oj dj h1 h2 h3; cases h1; cases h2; cases h3; decide) ?_
  refine Al_st (St_gd [23, 26] rfl rfl rfl rfl ⟨⟨_, rfl⟩, ⟨_, rfl⟩, trivial⟩ (fun hg27 => Pu_cmp rfl rfl rfl rfl)) rfl (by decide) (by kernel_rfl) (by intro j b oj dj h1 h2 h3; cases h1; cases h2; cases h3; decide) ?_
  refine Al_pu (Pu_or rfl rfl rfl rfl) rfl rfl (by decide) (by kernel_rfl) ?_
  refine Al_pu (Pu_move (.inl rfl) (by conv => lhs; whnf)) rfl rfl (by decide) (by kernel_rfl) ?_
  refine Al_st (St_gd [] rfl rfl rfl rfl trivial (fun hg30 => by exact Pu_move (.inl rfl) (by conv => lhs; whnf))) rfl (by decide) (by kernel_rfl) (by intro j b oj dj h1 h2 h3; cases h1; cases h2; cases h3; decide) ?_
  refine Al_st (St_gd [30] rfl rfl rfl rfl ⟨⟨_, rfl⟩, trivial⟩ (fun hg31 => Pu_cmp rfl rfl rfl rfl)) rfl (by decide) (by kernel_rfl) (by intro j b oj dj h1 h2 h3; cases h1; cases h2; cases h3; decide) ?_
  refine Al_pu (Pu_or rfl rfl rfl rfl) rfl rfl (by decide) (by kernel_rfl) ?_
  refine Al_pu (Pu_move (.inl rfl) (by conv => lhs; whnf)) rfl rfl (by decide) (by kernel_rfl) ?_
  refine Al_st (St_gd [] rfl rfl rfl rfl trivial (fun hg34 => by exact Pu_move (.inl rfl) (by conv => lhs; whnf))) rfl (by decide) (by kernel_rfl) (by intro j b oj dj h1 h2 h3; cases h1; cases h2; cases h3; decide) ?_
  refine Al_st (St_gd [34] rfl rfl rfl rfl ⟨⟨_, rfl⟩, trivial⟩ (fun hg35 => Pu_cmp rfl rfl rfl rfl)) rfl (by decide) (by kernel_rfl) (by intro j b oj dj h1 h2 h3; cases h1; cases h2; cases h3; decide) ?_
  refine Al_pu (Pu_or rfl rfl rfl rfl) rfl rfl (by decide) (by kernel_rfl) ?_
  refine Al_nil ?_
  refine Aw_cond rfl (fun h36 => ?_) (fun h36 => ?_)
  · skip
    have hs : S.shape c = false := by
      have h := S.shape_z2 c
      rw [h36] at h
      simpa using h.symm
    refine Aw_seq ?_
    refine Aw_region ?_
    refine Al_pu (Pu_move (.inr rfl) (by conv => lhs; whnf)) rfl rfl (by decide) (by kernel_rfl) ?_
    refine Al_nil ?_
    refine Aw_ret ?_
    exact Sub.bool (by unfold T.ok; rw [hs]; rfl) -- ret 0
  · skip
    have hs : S.shape c = true := by
      have h := S.shape_z2 c
      rw [h36] at h
      simpa using h.symm
    obtain ⟨n1, n6, n8, no, _⟩ := S.shape_facts hs
    refine Aw_skip ?_
    refine Aw_seq ?_
    refine Aw_seq ?_
    refine Aw_region ?_
    refine Al_pu (Pu_move (.inr rfl) (by conv => lhs; whnf)) rfl rfl (by decide) (by kernel_rfl) ?_
    refine Al_nil ?_
    refine Aw_block ?_
    refine Aw_loopk (ι := Nat) [1, 3] [] (fun k => [(5, .d (iv k))]) (fun k => []) (fun k => k ≤ c.owners.length ∧ (c.owners.take k).any (S.badO c.parents.length) = false) (fun k => c.owners.length - k) (0) (⟨Nat.zero_le _, by simp⟩) ⟨Sub.rfl, trivial⟩ trivial ?_
    rintro k ⟨hk0, hno⟩
    refine Aw_seq ?_
    refine Aw_seq ?_
    refine Aw_region ?_
    refine Al_pu (Pu_move (.inl rfl) (by conv => lhs; whnf)) rfl rfl (by decide) (by kernel_rfl) ?_
    refine Al_pu (Pu_field 1 rfl Try.underlying29 rfl rfl Try.sizeOf22 rfl) rfl rfl (by decide) (by kernel_rfl) ?_
    refine Al_pu (Pu_load1 rfl Try.isAgg22 rfl rfl) rfl rfl (by decide) (by kernel_rfl) ?_
    refine Al_pu (Pu_len rfl Try.underlying22 rfl (by first | exact List.length_map .. | exact rfl)) rfl rfl (by decide) (by kernel_rfl) ?_
    refine Al_pu (Pu_cmp rfl rfl rfl rfl) rfl rfl (by decide) (by kernel_rfl) ?_
    refine Al_nil ?_
    refine Aw_cond rfl (fun h41 => ?_) (fun h41 => ?_)
    · (try simp only [decide_eq_true_eq, decide_eq_false_iff_not, Bool.and_eq_true, Bool.or_eq_true, Bool.and_eq_false_iff, Bool.or_eq_false_iff, Bool.not_eq_true', Bool.not_eq_false', beq_iff_eq, Bool.not_eq_eq_eq_not, Bool.not_true, Bool.not_false, List.length_map, Bool.and_true, Bool.and_false, Bool.false_and, Bool.true_and, Bool.or_false, Bool.false_or] at h41)
      have hk : k < c.owners.length := by omega
      refine Aw_skip ?_
      refine Aw_seq ?_
      refine Aw_block ?_
      refine Aw_seq ?_
      refine Aw_draw 16 (by kernel_rfl) (by kernel_rfl) ?_
      refine Dr_pu (Pu_field 1 rfl Try.underlying29 rfl rfl Try.sizeOf22 rfl) rfl rfl ?_
      refine Dr_pu (Pu_load1 rfl Try.isAgg22 rfl rfl) rfl rfl ?_
      refine Dr_pu (Pu_move (.inl rfl) (by conv => lhs; whnf)) rfl rfl ?_
      refine Dr_pu (Pu_index rfl Try.underlying22 Try.sizeOf3 rfl rfl (rfl) (mapget hk)) rfl rfl ?_
      refine Dr_pu (Pu_load1 rfl Try.isAgg3 rfl rfl) rfl rfl ?_
      refine Dr_pu (Pu_cmp rfl rfl rfl rfl) rfl rfl ?_
      refine Dr_pu (Pu_move (.inl rfl) (by conv => lhs; whnf)) rfl rfl ?_
      refine Dr_st (St_gd [] rfl rfl rfl rfl trivial (fun hg51 => Pu_field 1 rfl Try.underlying29 rfl rfl Try.sizeOf22 rfl)) rfl ?_
      refine Dr_st (St_gd [51] rfl rfl rfl rfl ⟨⟨_, rfl⟩, trivial⟩ (fun hg52 => Pu_load1 rfl Try.isAgg22 rfl rfl)) rfl ?_
      refine Dr_st (St_gd [] rfl rfl rfl rfl trivial (fun hg53 => by exact Pu_move (.inl rfl) (by conv => lhs; whnf))) rfl ?_
      refine Dr_st (St_gd [52, 53] rfl rfl rfl rfl ⟨⟨_, rfl⟩, ⟨_, rfl⟩, trivial⟩ (fun hg54 => Pu_index rfl Try.underlying22 Try.sizeOf3 rfl rfl (rfl) (mapget hk))) rfl ?_
      refine Dr_st (St_gd [54] rfl rfl rfl rfl ⟨⟨_, rfl⟩, trivial⟩ (fun hg55 => Pu_load1 rfl Try.isAgg3 rfl rfl)) rfl ?_
      refine Dr_st (St_gd [] rfl rfl rfl rfl trivial (fun hg56 => by exact Pu_move (.inl rfl) (by conv => lhs; whnf))) rfl ?_
      refine Dr_st (St_gd [56] rfl rfl rfl rfl ⟨⟨_, rfl⟩, trivial⟩ (fun hg57 => Pu_call (two_a c.parents.length n6) rfl ⟨Sub.rfl, trivial⟩)) rfl ?_
      refine Dr_st (St_gd [55, 57] rfl rfl rfl rfl ⟨⟨_, rfl⟩, ⟨_, rfl⟩, trivial⟩ (fun hg58 => Pu_cmp rfl rfl rfl rfl)) rfl ?_
      refine Dr_pu (Pu_or rfl rfl rfl rfl) rfl rfl ?_
      refine Dr_nil ?_
      refine Al_nil ?_
      refine Aw_cond rfl (fun h59 => ?_) (fun h59 => ?_)
      · skip
        have hb : S.badO c.parents.length (c.owners[k]'hk) = true := by rw [← h59]; unfold S.badO; rw [T.pow_cast]
        refine Aw_seq ?_
        refine Aw_region ?_
        refine Al_pu (Pu_move (.inr rfl) (by conv => lhs; whnf)) rfl rfl (by decide) (by kernel_rfl) ?_
        refine Al_nil ?_
        refine Aw_ret ?_
        exact Sub.bool (by unfold T.ok; rw [S.any_at hk hb]; simp) -- ret 1
      · skip
        have hb : S.badO c.parents.length (c.owners[k]'hk) = false := by rw [← h59]; unfold S.badO; rw [T.pow_cast]
        refine Aw_skip ?_
        refine Aw_region ?_
        refine Al_pu (Pu_move (.inl rfl) (by conv => lhs; whnf)) rfl rfl (by decide) (by kernel_rfl) ?_
        refine Al_pu (Pu_add rfl rfl rfl (fun h1 h2 => by simp only [A.inI, A.maxI] at *; omega)) rfl rfl (by decide) (by kernel_rfl) ?_
        refine Al_pu (Pu_move (.inr rfl) (by conv => lhs; whnf)) rfl rfl (by decide) (by kernel_rfl) ?_
        refine Al_nil ?_
        exact ⟨k + 1, ⟨by omega, S.any_snoc hk hno hb⟩, by omega, Le.ov ⟨Sub.num (by omega), trivial⟩ ⟨Sub.rfl, Sub.rfl, trivial⟩ trivial trivial⟩ -- loop 0 next.0
    · (try simp only [decide_eq_true_eq, decide_eq_false_iff_not, Bool.and_eq_true, Bool.or_eq_true, Bool.and_eq_false_iff, Bool.or_eq_false_iff, Bool.not_eq_true', Bool.not_eq_false', beq_iff_eq, Bool.not_eq_eq_eq_not, Bool.not_true, Bool.not_false, List.length_map, Bool.and_true, Bool.and_false, Bool.false_and, Bool.true_and, Bool.or_false, Bool.false_or] at h41)
      obtain rfl : k = c.owners.length := by omega
      rw [List.take_length] at hno
      refine Aw_exit ?_
      refine Aw_seq ?_
      refine Aw_region ?_
      refine Al_pu (Pu_move (.inr rfl) (by conv => lhs; whnf)) rfl rfl (by decide) (by kernel_rfl) ?_
      refine Al_nil ?_
      refine Aw_ret ?_
      exact Sub.bool (by unfold T.ok; rw [hs, hno]; rfl) -- ret 2
set_option maxRecDepth 100000 in
theorem rowners_a (c : SRow) (key : ByteArray) : ACall Try.prog 17 [.row c.row, tv key] (iv (T.owners c key)) := by
  refine ACall_enter (fun _ _ => by kernel_rfl) Try.func17 rfl Try.ntmps17 Try.results17 (Nat.le_of_ble_eq_true rfl) (fun hok M0 w0 hnl => ?_)
  refine Aw_seq ?_
  refine Aw_region ?_
  refine Al_pu (Pu_boxN rfl rfl) rfl rfl (by decide) (by kernel_rfl) ?_
  refine Al_pu (Pu_move (.inr rfl) (by conv => lhs; whnf)) rfl rfl (by decide) (by kernel_rfl) ?_
  refine Al_nil ?_
  refine Aw_seq ?_
  refine Aw_region ?_
  refine Al_pu (Pu_loadN rfl Try.isAgg29 Try.sizeOf29 rfl (Nat.le_of_ble_eq_true rfl)) rfl rfl (by decide) (by kernel_rfl) ?_
  refine Al_pu (Pu_call (rtcheck_a c) rfl ⟨Sub.rfl, trivial⟩) rfl rfl (by decide) (by kernel_rfl) ?_
  refine Al_pu (Pu_move (.inr rfl) (by conv => lhs; whnf)) rfl rfl (by decide) (by kernel_rfl) ?_
  refine Al_nil ?_
  refine Aw_seq ?_
  refine Aw_seq ?_
  refine Aw_region ?_
  refine Al_pu (Pu_move (.inl rfl) (by conv => lhs; whnf)) rfl rfl (by decide) (by kernel_rfl) ?_
  refine Al_pu (Pu_not rfl rfl) rfl rfl (by decide) (by kernel_rfl) ?_
  refine Al_nil ?_
  refine Aw_cond rfl (fun h10 => ?_) (fun h10 => ?_)
  · skip
    have hno : T.owners c key = 0 := by
      unfold T.owners; rw [if_neg]; simpa using h10
    refine Aw_seq ?_
    refine Aw_region ?_
    refine Al_pu (Pu_move (.inr rfl) (by conv => lhs; whnf)) rfl rfl (by decide) (by kernel_rfl) ?_
    refine Al_nil ?_
    refine Aw_ret ?_
    exact Sub.num (by rw [hno]; rfl) -- ret 0
  · skip
    have hok2 : T.ok c = true := by simpa using h10
    have hl := (S.shape_facts (T.ok_facts hok2).1).2.2.1
    refine Aw_skip ?_
    refine Aw_seq ?_
    refine Aw_region ?_
    refine Al_pu (Pu_field 0 rfl Try.underlying29 rfl rfl Try.sizeOf27 rfl) rfl rfl (by decide) (by kernel_rfl) ?_
    refine Al_pu (Pu_load1 rfl Try.isAgg27 rfl rfl) rfl rfl (by decide) (by kernel_rfl) ?_
    refine Al_pu (Pu_move (.inl rfl) (by conv => lhs; whnf)) rfl rfl (by decide) (by kernel_rfl) ?_
    refine Al_pu (Pu_call (rfind_a c.ranges key (by omega)) rfl ⟨Sub.rfl, Sub.rfl, trivial⟩) rfl rfl (by decide) (by kernel_rfl) ?_
    refine Al_pu (Pu_move (.inr rfl) (by conv => lhs; whnf)) rfl rfl (by decide) (by kernel_rfl) ?_
    refine Al_nil ?_
    refine Aw_seq ?_
    refine Aw_seq ?_
    refine Aw_region ?_
    refine Al_pu (Pu_move (.inl rfl) (by conv => lhs; whnf)) rfl rfl (by decide) (by kernel_rfl) ?_
    refine Al_pu (Pu_cmp rfl rfl rfl rfl) rfl rfl (by decide) (by kernel_rfl) ?_
    refine Al_nil ?_
    refine Aw_cond rfl (fun h16 => ?_) (fun h16 => ?_)
    · (try simp only [decide_eq_true_eq, decide_eq_false_iff_not, Bool.and_eq_true, Bool.or_eq_true, Bool.and_eq_false_iff, Bool.or_eq_false_iff, Bool.not_eq_true', Bool.not_eq_false', beq_iff_eq, Bool.not_eq_eq_eq_not, Bool.not_true, Bool.not_false, List.length_map, Bool.and_true, Bool.and_false, Bool.false_and, Bool.true_and, Bool.or_false, Bool.false_or] at h16)
      have hno : T.owners c key = 0 := by
        unfold T.owners; rw [if_pos hok2, if_pos h16]
      refine Aw_seq ?_
      refine Aw_region ?_
      refine Al_pu (Pu_move (.inr rfl) (by conv => lhs; whnf)) rfl rfl (by decide) (by kernel_rfl) ?_
      refine Al_nil ?_
      refine Aw_ret ?_
      exact Sub.num (by rw [hno]; rfl) -- ret 1
    · (try simp only [decide_eq_true_eq, decide_eq_false_iff_not, Bool.and_eq_true, Bool.or_eq_true, Bool.and_eq_false_iff, Bool.or_eq_false_iff, Bool.not_eq_true', Bool.not_eq_false', beq_iff_eq, Bool.not_eq_eq_eq_not, Bool.not_true, Bool.not_false, List.length_map, Bool.and_true, Bool.and_false, Bool.false_and, Bool.true_and, Bool.or_false, Bool.false_or] at h16)
      obtain ⟨k, e1, hk, e2, e3, e4⟩ := T.shape_owner hok2 h16
      refine Aw_skip ?_
      refine Aw_seq ?_
      refine Aw_region ?_
      refine Al_pu (Pu_field 1 rfl Try.underlying29 rfl rfl Try.sizeOf22 rfl) rfl rfl (by decide) (by kernel_rfl) ?_
      refine Al_pu (Pu_load1 rfl Try.isAgg22 rfl rfl) rfl rfl (by decide) (by kernel_rfl) ?_
      refine Al_pu (Pu_move (.inl rfl) (by conv => lhs; whnf)) rfl rfl (by decide) (by kernel_rfl) ?_
      refine Al_pu (Pu_index rfl Try.underlying22 Try.sizeOf3 rfl rfl (e1) (mapget hk)) rfl rfl (by decide) (by kernel_rfl) ?_
      refine Al_pu (Pu_load1 rfl Try.isAgg3 rfl rfl) rfl rfl (by decide) (by kernel_rfl) ?_
      refine Al_pu (Pu_move (.inr rfl) (by conv => lhs; whnf)) rfl rfl (by decide) (by kernel_rfl) ?_
      refine Al_nil ?_
      refine Aw_ret ?_
      exact Sub.num e4.symm -- ret 2
set_option maxRecDepth 100000 in
theorem rowns_a (c : SRow) (s : Int) (key : ByteArray) : ACall Try.prog 12 [.row c.row, iv s, tv key] (bv (T.bit (T.owners c key) s)) := by
  refine ACall_enter (fun _ _ => by kernel_rfl) Try.func12 rfl Try.ntmps12 Try.results12 (Nat.le_of_ble_eq_true rfl) (fun hok M0 w0 hnl => ?_)
  have q18 : (decide (0 ≤ s) && decide (s < 6)) = true → (s.toNat : Int) = s ∧ s.toNat < 6 := fun h => by
    simp only [Bool.and_eq_true, decide_eq_true_eq] at h
    omega
  refine Aw_seq ?_
  refine Aw_region ?_
  refine Al_pu (Pu_boxN rfl rfl) rfl rfl (by decide) (by kernel_rfl) ?_
  refine Al_pu (Pu_move (.inr rfl) (by conv => lhs; whnf)) rfl rfl (by decide) (by kernel_rfl) ?_
  refine Al_nil ?_
  refine Aw_seq ?_
  refine Aw_region ?_
  refine Al_pu (Pu_move (.inl rfl) (by conv => lhs; whnf)) rfl rfl (by decide) (by kernel_rfl) ?_
  refine Al_pu (Pu_cmp rfl rfl rfl rfl) rfl rfl (by decide) (by kernel_rfl) ?_
  refine Al_pu (Pu_move (.inl rfl) (by conv => lhs; whnf)) rfl rfl (by decide) (by kernel_rfl) ?_
  refine Al_st (St_gd [] rfl rfl rfl rfl trivial (fun hg10 => by exact Pu_move (.inl rfl) (by conv => lhs; whnf))) rfl (by decide) (by kernel_rfl) (by intro j b oj dj h1 h2 h3; cases h1; cases h2; cases h3; decide) ?_
  refine Al_st (St_gd [10] rfl rfl rfl rfl ⟨⟨_, rfl⟩, trivial⟩ (fun hg11 => Pu_cmp rfl rfl rfl rfl)) rfl (by decide) (by kernel_rfl) (by intro j b oj dj h1 h2 h3; cases h1; cases h2; cases h3; decide) ?_
  refine Al_pu (Pu_and rfl rfl rfl rfl) rfl rfl (by decide) (by kernel_rfl) ?_
  refine Al_pu (Pu_move (.inl rfl) (by conv => lhs; whnf)) rfl rfl (by decide) (by kernel_rfl) ?_
  refine Al_st (St_gd [] rfl rfl rfl rfl trivial (fun hg14 => Pu_loadN rfl Try.isAgg29 Try.sizeOf29 rfl (Nat.le_of_ble_eq_true rfl))) rfl (by decide) (by kernel_rfl) (by intro j b oj dj h1 h2 h3; cases h1; cases h2; cases h3; decide) ?_
  refine Al_st (St_gd [] rfl rfl rfl rfl trivial (fun hg15 => by exact Pu_move (.inl rfl) (by conv => lhs; whnf))) rfl (by decide) (by kernel_rfl) (by intro j b oj dj h1 h2 h3; cases h1; cases h2; cases h3; decide) ?_
  refine Al_st (St_gd [14, 15] rfl rfl rfl rfl ⟨⟨_, rfl⟩, ⟨_, rfl⟩, trivial⟩ (fun hg16 => Pu_call (rowners_a c key) rfl ⟨Sub.rfl, Sub.rfl, trivial⟩)) rfl (by decide) (by kernel_rfl) (by intro j b oj dj h1 h2 h3; cases h1; cases h2; cases h3; decide) ?_
  refine Al_st (St_gd [] rfl rfl rfl rfl trivial (fun hg17 => by exact Pu_move (.inl rfl) (by conv => lhs; whnf))) rfl (by decide) (by kernel_rfl) (by intro j b oj dj h1 h2 h3; cases h1; cases h2; cases h3; decide) ?_
  refine Al_st (St_gd [16, 17] rfl rfl rfl rfl ⟨⟨_, rfl⟩, ⟨_, rfl⟩, trivial⟩ (fun hg18 => Pu_call (rbit_a (T.owners c key) s.toNat (T.owners_lt c key) (q18 hg18).2) rfl ⟨Sub.rfl, Sub.num (q18 hg18).1.symm, trivial⟩)) rfl (by decide) (by kernel_rfl) (by intro j b oj dj h1 h2 h3; cases h1; cases h2; cases h3; decide) ?_
  refine Al_pu (Pu_and rfl rfl rfl rfl) rfl rfl (by decide) (by kernel_rfl) ?_
  refine Al_pu (Pu_move (.inr rfl) (by conv => lhs; whnf)) rfl rfl (by decide) (by kernel_rfl) ?_
  refine Al_nil ?_
  refine Aw_ret ?_
  exact Sub.rfl -- ret 0
set_option maxRecDepth 100000 in
theorem rfirst_a (c : SRow) (key : ByteArray) : ACall Try.prog 37 [.row c.row, tv key] (iv (T.firstF (T.owners c key))) := by
  refine ACall_enter (fun _ _ => by kernel_rfl) Try.func37 rfl Try.ntmps37 Try.results37 (Nat.le_of_ble_eq_true rfl) (fun hok M0 w0 hnl => ?_)
  refine Aw_seq ?_
  refine Aw_region ?_
  refine Al_pu (Pu_boxN rfl rfl) rfl rfl (by decide) (by kernel_rfl) ?_
  refine Al_pu (Pu_move (.inr rfl) (by conv => lhs; whnf)) rfl rfl (by decide) (by kernel_rfl) ?_
  refine Al_nil ?_
  refine Aw_seq ?_
  refine Aw_seq ?_
  refine Aw_region ?_
  refine Al_pu (Pu_move (.inr rfl) (by conv => lhs; whnf)) rfl rfl (by decide) (by kernel_rfl) ?_
  refine Al_nil ?_
  refine Aw_block ?_
  refine Aw_loopk (ι := Nat) [1, 2] [] (fun s => [(5, .d (iv s))]) (fun s => []) (fun s => s ≤ 6 ∧ ∀ j, j < s → T.bit (T.owners c key) (j : Nat) = false) (fun s => 6 - s) (0) (⟨Nat.zero_le _, fun j hj => absurd hj (Nat.not_lt_zero _)⟩) ⟨Sub.rfl, trivial⟩ trivial ?_
  rintro s ⟨hk0, hn⟩
  refine Aw_seq ?_
  refine Aw_seq ?_
  refine Aw_region ?_
  refine Al_pu (Pu_move (.inl rfl) (by conv => lhs; whnf)) rfl rfl (by decide) (by kernel_rfl) ?_
  refine Al_pu (Pu_cmp rfl rfl rfl rfl) rfl rfl (by decide) (by kernel_rfl) ?_
  refine Al_nil ?_
  refine Aw_cond rfl (fun h8 => ?_) (fun h8 => ?_)
  · (try simp only [decide_eq_true_eq, decide_eq_false_iff_not, Bool.and_eq_true, Bool.or_eq_true, Bool.and_eq_false_iff, Bool.or_eq_false_iff, Bool.not_eq_true', Bool.not_eq_false', beq_iff_eq, Bool.not_eq_eq_eq_not, Bool.not_true, Bool.not_false, List.length_map, Bool.and_true, Bool.and_false, Bool.false_and, Bool.true_and, Bool.or_false, Bool.false_or] at h8)
    have hs6 : s < 6 := by omega
    refine Aw_skip ?_
    refine Aw_seq ?_
    refine Aw_block ?_
    refine Aw_seq ?_
    refine Aw_region ?_
    refine Al_pu (Pu_loadN rfl Try.isAgg29 Try.sizeOf29 rfl (Nat.le_of_ble_eq_true rfl)) rfl rfl (by decide) (by kernel_rfl) ?_
    refine Al_pu (Pu_move (.inl rfl) (by conv => lhs; whnf)) rfl rfl (by decide) (by kernel_rfl) ?_
    refine Al_pu (Pu_move (.inl rfl) (by conv => lhs; whnf)) rfl rfl (by decide) (by kernel_rfl) ?_
    refine Al_pu (Pu_call (rowns_a c s key) rfl ⟨Sub.rfl, Sub.rfl, Sub.rfl, trivial⟩) rfl rfl (by decide) (by kernel_rfl) ?_
    refine Al_pu (Pu_move (.inr rfl) (by conv => lhs; whnf)) rfl rfl (by decide) (by kernel_rfl) ?_
    refine Al_nil ?_
    refine Aw_seq ?_
    refine Aw_region ?_
    refine Al_pu (Pu_move (.inl rfl) (by conv => lhs; whnf)) rfl rfl (by decide) (by kernel_rfl) ?_
    refine Al_nil ?_
    refine Aw_cond rfl (fun h15 => ?_) (fun h15 => ?_)
    · (try simp only [decide_eq_true_eq, decide_eq_false_iff_not, Bool.and_eq_true, Bool.or_eq_true, Bool.and_eq_false_iff, Bool.or_eq_false_iff, Bool.not_eq_true', Bool.not_eq_false', beq_iff_eq, Bool.not_eq_eq_eq_not, Bool.not_true, Bool.not_false, List.length_map, Bool.and_true, Bool.and_false, Bool.false_and, Bool.true_and, Bool.or_false, Bool.false_or] at h15)
      refine Aw_seq ?_
      refine Aw_region ?_
      refine Al_pu (Pu_move (.inl rfl) (by conv => lhs; whnf)) rfl rfl (by decide) (by kernel_rfl) ?_
      refine Al_pu (Pu_move (.inr rfl) (by conv => lhs; whnf)) rfl rfl (by decide) (by kernel_rfl) ?_
      refine Al_nil ?_
      refine Aw_ret ?_
      exact Sub.num (T.first_eq hs6 h15 hn).symm -- ret 0
    · (try simp only [decide_eq_true_eq, decide_eq_false_iff_not, Bool.and_eq_true, Bool.or_eq_true, Bool.and_eq_false_iff, Bool.or_eq_false_iff, Bool.not_eq_true', Bool.not_eq_false', beq_iff_eq, Bool.not_eq_eq_eq_not, Bool.not_true, Bool.not_false, List.length_map, Bool.and_true, Bool.and_false, Bool.false_and, Bool.true_and, Bool.or_false, Bool.false_or] at h15)
      refine Aw_skip ?_
      refine Aw_region ?_
      refine Al_pu (Pu_move (.inl rfl) (by conv => lhs; whnf)) rfl rfl (by decide) (by kernel_rfl) ?_
      refine Al_pu (Pu_add rfl rfl rfl (fun h1 h2 => by simp only [A.inI, A.maxI] at *; omega)) rfl rfl (by decide) (by kernel_rfl) ?_
      refine Al_pu (Pu_move (.inr rfl) (by conv => lhs; whnf)) rfl rfl (by decide) (by kernel_rfl) ?_
      refine Al_nil ?_
      exact ⟨s + 1, ⟨by omega, fun j hj => by rcases Nat.lt_succ_iff_lt_or_eq.1 hj with h | rfl; exact hn j h; exact h15⟩, by omega, Le.ov ⟨Sub.num (by omega), trivial⟩ ⟨Sub.rfl, Sub.rfl, trivial⟩ trivial trivial⟩ -- loop 0 next.0
  · (try simp only [decide_eq_true_eq, decide_eq_false_iff_not, Bool.and_eq_true, Bool.or_eq_true, Bool.and_eq_false_iff, Bool.or_eq_false_iff, Bool.not_eq_true', Bool.not_eq_false', beq_iff_eq, Bool.not_eq_eq_eq_not, Bool.not_true, Bool.not_false, List.length_map, Bool.and_true, Bool.and_false, Bool.false_and, Bool.true_and, Bool.or_false, Bool.false_or] at h8)
    obtain rfl : s = 6 := by omega
    refine Aw_exit ?_
    refine Aw_seq ?_
    refine Aw_region ?_
    refine Al_pu (Pu_move (.inr rfl) (by conv => lhs; whnf)) rfl rfl (by decide) (by kernel_rfl) ?_
    refine Al_nil ?_
    refine Aw_ret ?_
    exact Sub.num (T.first_none hn).symm -- ret 1
set_option maxRecDepth 100000 in
theorem sameranges_a (l : List Rng) (hl : l.length ≤ 1000000) : ACall Try.prog 18 [.sl 2 (l.map Rng.row), .sl 2 (l.map Rng.row)] (bv true) := by
  refine ACall_enter (fun _ _ => by kernel_rfl) Try.func18 rfl Try.ntmps18 Try.results18 (Nat.le_of_ble_eq_true rfl) (fun hok M0 w0 hnl => ?_)
  refine Aw_seq ?_
  refine Aw_region ?_
  refine Al_pu (Pu_move (.inr rfl) (by conv => lhs; whnf)) rfl rfl (by decide) (by kernel_rfl) ?_
  refine Al_nil ?_
  refine Aw_seq ?_
  refine Aw_seq ?_
  refine Aw_region ?_
  refine Al_pu (Pu_move (.inl rfl) (by conv => lhs; whnf)) rfl rfl (by decide) (by kernel_rfl) ?_
  refine Al_pu (Pu_len rfl Try.underlying27 rfl (by first | exact List.length_map .. | exact rfl)) rfl rfl (by decide) (by kernel_rfl) ?_
  refine Al_pu (Pu_move (.inl rfl) (by conv => lhs; whnf)) rfl rfl (by decide) (by kernel_rfl) ?_
  refine Al_pu (Pu_len rfl Try.underlying27 rfl (by first | exact List.length_map .. | exact rfl)) rfl rfl (by decide) (by kernel_rfl) ?_
  refine Al_pu (Pu_cmp rfl rfl rfl rfl) rfl rfl (by decide) (by kernel_rfl) ?_
  refine Al_nil ?_
  refine Aw_cond rfl (fun h10 => ?_) (fun h10 => ?_)
  · (try simp only [decide_eq_true_eq, decide_eq_false_iff_not, Bool.and_eq_true, Bool.or_eq_true, Bool.and_eq_false_iff, Bool.or_eq_false_iff, Bool.not_eq_true', Bool.not_eq_false', beq_iff_eq, Bool.not_eq_eq_eq_not, Bool.not_true, Bool.not_false, List.length_map, Bool.and_true, Bool.and_false, Bool.false_and, Bool.true_and, Bool.or_false, Bool.false_or] at h10)
    exfalso; simp at h10
  · (try simp only [decide_eq_true_eq, decide_eq_false_iff_not, Bool.and_eq_true, Bool.or_eq_true, Bool.and_eq_false_iff, Bool.or_eq_false_iff, Bool.not_eq_true', Bool.not_eq_false', beq_iff_eq, Bool.not_eq_eq_eq_not, Bool.not_true, Bool.not_false, List.length_map, Bool.and_true, Bool.and_false, Bool.false_and, Bool.true_and, Bool.or_false, Bool.false_or] at h10)
    refine Aw_skip ?_
    refine Aw_seq ?_
    refine Aw_seq ?_
    refine Aw_region ?_
    refine Al_pu (Pu_move (.inr rfl) (by conv => lhs; whnf)) rfl rfl (by decide) (by kernel_rfl) ?_
    refine Al_nil ?_
    refine Aw_block ?_
    refine Aw_loopk (ι := Nat) [0, 1] [] (fun k => [(5, .d (iv k))]) (fun k => []) (fun k => k ≤ l.length) (fun k => l.length - k) (0) (Nat.zero_le _) ⟨Sub.rfl, trivial⟩ trivial ?_
    rintro k hk0
    refine Aw_seq ?_
    refine Aw_seq ?_
    refine Aw_region ?_
    refine Al_pu (Pu_move (.inl rfl) (by conv => lhs; whnf)) rfl rfl (by decide) (by kernel_rfl) ?_
    refine Al_pu (Pu_move (.inl rfl) (by conv => lhs; whnf)) rfl rfl (by decide) (by kernel_rfl) ?_
    refine Al_pu (Pu_len rfl Try.underlying27 rfl (by first | exact List.length_map .. | exact rfl)) rfl rfl (by decide) (by kernel_rfl) ?_
    refine Al_pu (Pu_cmp rfl rfl rfl rfl) rfl rfl (by decide) (by kernel_rfl) ?_
    refine Al_nil ?_
    refine Aw_cond rfl (fun h14 => ?_) (fun h14 => ?_)
    · (try simp only [decide_eq_true_eq, decide_eq_false_iff_not, Bool.and_eq_true, Bool.or_eq_true, Bool.and_eq_false_iff, Bool.or_eq_false_iff, Bool.not_eq_true', Bool.not_eq_false', beq_iff_eq, Bool.not_eq_eq_eq_not, Bool.not_true, Bool.not_false, List.length_map, Bool.and_true, Bool.and_false, Bool.false_and, Bool.true_and, Bool.or_false, Bool.false_or] at h14)
      have hk : k < l.length := by omega
      refine Aw_skip ?_
      refine Aw_seq ?_
      refine Aw_block ?_
      refine Aw_seq ?_
      refine Aw_draw 9 (by kernel_rfl) (by kernel_rfl) ?_
      refine Dr_pu (Pu_move (.inl rfl) (by conv => lhs; whnf)) rfl rfl ?_
      refine Dr_pu (Pu_move (.inl rfl) (by conv => lhs; whnf)) rfl rfl ?_
      refine Dr_pu (Pu_index rfl Try.underlying27 Try.sizeOf35 rfl rfl (rfl) (mapget hk)) rfl rfl ?_
      refine Dr_pu (Pu_loadN rfl Try.isAgg35 Try.sizeOf35 rfl (Nat.le_of_ble_eq_true rfl)) rfl rfl ?_
      refine Dr_pu (Pu_move (.inl rfl) (by conv => lhs; whnf)) rfl rfl ?_
      refine Dr_pu (Pu_move (.inl rfl) (by conv => lhs; whnf)) rfl rfl ?_
      refine Dr_pu (Pu_index rfl Try.underlying27 Try.sizeOf35 rfl rfl (rfl) (mapget hk)) rfl rfl ?_
      refine Dr_pu (Pu_loadN rfl Try.isAgg35 Try.sizeOf35 rfl (Nat.le_of_ble_eq_true rfl)) rfl rfl ?_
      refine Dr_pu (Pu_eqrow [.string _, .string _] [.string _, .string _] (fun w => nev35 _ _ _ _ _ _ w) rfl rfl rfl) rfl rfl ?_
      refine Dr_nil ?_
      refine Al_nil ?_
      refine Aw_cond rfl (fun h25 => ?_) (fun h25 => ?_)
      · (try simp only [decide_eq_true_eq, decide_eq_false_iff_not, Bool.and_eq_true, Bool.or_eq_true, Bool.and_eq_false_iff, Bool.or_eq_false_iff, Bool.not_eq_true', Bool.not_eq_false', beq_iff_eq, Bool.not_eq_eq_eq_not, Bool.not_true, Bool.not_false, List.length_map, Bool.and_true, Bool.and_false, Bool.false_and, Bool.true_and, Bool.or_false, Bool.false_or] at h25)
        exfalso; simp at h25
      · (try simp only [decide_eq_true_eq, decide_eq_false_iff_not, Bool.and_eq_true, Bool.or_eq_true, Bool.and_eq_false_iff, Bool.or_eq_false_iff, Bool.not_eq_true', Bool.not_eq_false', beq_iff_eq, Bool.not_eq_eq_eq_not, Bool.not_true, Bool.not_false, List.length_map, Bool.and_true, Bool.and_false, Bool.false_and, Bool.true_and, Bool.or_false, Bool.false_or] at h25)
        refine Aw_skip ?_
        refine Aw_region ?_
        refine Al_pu (Pu_move (.inl rfl) (by conv => lhs; whnf)) rfl rfl (by decide) (by kernel_rfl) ?_
        refine Al_pu (Pu_add rfl rfl rfl (fun h1 h2 => by simp only [A.inI, A.maxI] at *; omega)) rfl rfl (by decide) (by kernel_rfl) ?_
        refine Al_pu (Pu_move (.inr rfl) (by conv => lhs; whnf)) rfl rfl (by decide) (by kernel_rfl) ?_
        refine Al_nil ?_
        exact ⟨k + 1, by omega, by omega, Le.ov ⟨Sub.num (by omega), trivial⟩ ⟨Sub.rfl, Sub.rfl, trivial⟩ trivial trivial⟩ -- loop 0 next.0
    · (try simp only [decide_eq_true_eq, decide_eq_false_iff_not, Bool.and_eq_true, Bool.or_eq_true, Bool.and_eq_false_iff, Bool.or_eq_false_iff, Bool.not_eq_true', Bool.not_eq_false', beq_iff_eq, Bool.not_eq_eq_eq_not, Bool.not_true, Bool.not_false, List.length_map, Bool.and_true, Bool.and_false, Bool.false_and, Bool.true_and, Bool.or_false, Bool.false_or] at h14)
      refine Aw_exit ?_
      refine Aw_seq ?_
      refine Aw_region ?_
      refine Al_pu (Pu_move (.inr rfl) (by conv => lhs; whnf)) rfl rfl (by decide) (by kernel_rfl) ?_
      refine Al_nil ?_
      refine Aw_ret ?_
      exact Sub.rfl -- ret 0
end Go.Proofs.Ytfalbocgnmlncaa

set_option linter.unusedSimpArgs false
set_option linter.unusedVariables false
namespace Go.Proofs.Ytfalbocgnmlncaa
open Go.RowKit A R
namespace T
/-- Parents, each ahead of its site. -/
structure Ahead (p : List Int) : Prop where
  pos : 1 ≤ p.length
  le : p.length ≤ 6
  root : p.getD 0 0 = -1
  up : ∀ i, 1 ≤ i → i < p.length → 0 ≤ p.getD i 0 ∧ p.getD i 0 < (i : Int)
abbrev DS := List Bool × List Nat
def dstep (p : List Int) (a : Nat) (go : Nat → DS → DS) (so : DS) (i : Nat) : DS := if p.getD i 0 = (a : Int) ∧ so.1.getD i true = false then go i so else so
/-- The walk downwards. -/
def dfs (p : List Int) : Nat → Nat → DS → DS
  | 0, _, so => so
  | f + 1, a, so => (List.range p.length).foldl (dstep p a (dfs p f)) (so.1.set a true, so.2 ++ [a])
/-- .. behind k places of the row. -/
def dfsAt (p : List Int) (f a : Nat) (so : DS) (k : Nat) : DS := (List.range k).foldl (dstep p a (dfs p f)) (so.1.set a true, so.2 ++ [a])
theorem dfsAt_zero (p : List Int) (f a : Nat) (so : DS) : dfsAt p f a so 0 = (so.1.set a true, so.2 ++ [a]) := rfl
theorem dfsAt_succ (p : List Int) (f a : Nat) (so : DS) (k : Nat) : dfsAt p f a so (k + 1) = dstep p a (dfs p f) (dfsAt p f a so k) k := by
  unfold dfsAt
  rw [List.range_succ, List.foldl_append]; rfl
theorem dfsAt_all (p : List Int) (f a : Nat) (so : DS) : dfsAt p f a so p.length = dfs p (f + 1) a so := rfl
theorem dfs_len (p : List Int) (hp : p.length ≤ 6) : ∀ (f a : Nat) (so : DS), (dfs p f a so).1.length = so.1.length ∧ (dfs p f a so).2.length ≤ so.2.length + 7 ^ f
  | 0, a, so => ⟨rfl, by simp [dfs]⟩
  | f + 1, a, so => by
    have key : ∀ k, (dfsAt p f a so k).1.length = so.1.length ∧ (dfsAt p f a so k).2.length ≤ so.2.length + 1 + k * 7 ^ f := by
      intro k
      induction k with
      | zero => rw [dfsAt_zero]; simp
      | succ k ih =>
        rw [dfsAt_succ]
        unfold dstep
        have e : (k + 1) * 7 ^ f = k * 7 ^ f + 7 ^ f := by rw [Nat.add_mul, Nat.one_mul]
        rw [e]
        split
        · obtain ⟨h1, h2⟩ := dfs_len p hp f k (dfsAt p f a so k)
          generalize 7 ^ f = q at *
          generalize k * q = r at *
          exact ⟨by omega, by omega⟩
        · generalize 7 ^ f = q at *
          generalize k * q = r at *
          exact ⟨ih.1, by omega⟩
    have h := key p.length
    rw [dfsAt_all] at h
    refine ⟨h.1, ?_⟩
    have h7 : 0 < 7 ^ f := Nat.pow_pos (by omega)
    have h8 : p.length * 7 ^ f ≤ 6 * 7 ^ f := Nat.mul_le_mul_right _ hp
    have h9 : 7 ^ (f + 1) = 7 * 7 ^ f := by rw [Nat.pow_succ, Nat.mul_comm]
    omega
theorem dfsAt_len (p : List Int) (hp : p.length ≤ 6) (f a : Nat) (so : DS) : ∀ k, (dfsAt p f a so k).1.length = so.1.length ∧ (dfsAt p f a so k).2.length ≤ so.2.length + 1 + k * 7 ^ f := by
  intro k
  induction k with
  | zero => rw [dfsAt_zero]; simp
  | succ k ih =>
    rw [dfsAt_succ]
    unfold dstep
    have e : (k + 1) * 7 ^ f = k * 7 ^ f + 7 ^ f := by rw [Nat.add_mul, Nat.one_mul]
    rw [e]
    split
    · obtain ⟨h1, h2⟩ := dfs_len p hp f k (dfsAt p f a so k)
      generalize 7 ^ f = q at *
      generalize k * q = r at *
      exact ⟨by omega, by omega⟩
    · generalize 7 ^ f = q at *
      generalize k * q = r at *
      exact ⟨ih.1, by omega⟩
def seenR (s : List Bool) : List (List AV) := s.map fun b => [bv b]
def outR (l : List Nat) : List (List AV) := l.map fun x => [iv (x : Nat)]
def inF (p : List Int) : SV := .fnb 65 [] [.bx 1005 0 0, .bx 1006 0 0, .d (.fp [.sl 1 (p.map fun x => [iv x])]), .bx 1007 0 0]
def inObs2 (p : List Int) (so : DS) : Obs := [(1005, .box 80 [.ow 1015 0]), (1015, .arr 4 1 (seenR so.1)), (1006, .box 22 [.ow 1026 0]), (1026, .arr 3 1 (outR so.2)), (1007, .box 81 [inF p])]
def inObs (p : List Int) (so : DS) : Obs := [(1005, .box 80 [.ow 1015 0]), (1015, .arr 4 1 (seenR so.1)), (1006, .box 22 [.ow 1016 0]), (1016, .arr 3 1 (outR so.2)), (1007, .box 81 [inF p])]
theorem seenR_un (s : List Bool) : ∀ q ∈ seenR s, q.length = 1 := fun q hq => by
  obtain ⟨b, _, rfl⟩ := List.mem_map.1 hq; rfl
theorem seenR_fl (s : List Bool) : (seenR s).flatten = s.map bv := by
  unfold seenR
  induction s with
  | nil => rfl
  | cons b r ih => simp [ih]
theorem seenR_set {s : List Bool} {a : Nat} (h : a < s.length) : (seenR (s.set a true)).flatten = (seenR s).flatten.take (a * 1) ++ cellsA (bv true) ++ (seenR s).flatten.drop (a * 1 + 1) := by
  rw [seenR_fl, seenR_fl, List.map_set, Nat.mul_one, List.set_eq_take_append_cons_drop, if_pos (by simpa using h)]
  simp [cellsA]
end T
set_option maxRecDepth 100000 in
set_option maxHeartbeats 2000000 in
theorem in_step (p : List Int) (hp : T.Ahead p) (f a : Nat) (so : T.DS) (hgo : ∀ (a' : Nat) (so' : T.DS), a < a' → a' < p.length → so'.1.length = p.length → so'.2.length + 7 ^ f ≤ 1000000 → GCall Try.prog 65 [.d (iv a'), .bx 1005 0 0, .bx 1006 0 0, .d (.fp [.sl 1 (p.map fun x => [iv x])]), .bx 1007 0 0] (T.inObs p so') (some (T.inObs2 p (T.dfs p f a' so'), .d (.tup []))))
    (ha : a < p.length) (hs : so.1.length = p.length) (ho : so.2.length + 7 ^ (f + 1) ≤ 1000000) : GCall Try.prog 65 [.d (iv a), .bx 1005 0 0, .bx 1006 0 0, .d (.fp [.sl 1 (p.map fun x => [iv x])]), .bx 1007 0 0] (T.inObs p so) (some (T.inObs2 p (T.dfs p (f + 1) a so), .d (.tup []))) := by
  refine GCall_enter (fun _ _ => by kernel_rfl) Try.func65 rfl Try.ntmps65 (ReadsS.r0 Try.results65) (Nat.le_of_ble_eq_true rfl) (fun hok hokB M0 w0 => ?_)
  have hp6 := hp.le
  have h70 : 0 < 7 ^ f := Nat.pow_pos (by omega)
  have h71 : 7 ^ (f + 1) = 7 * 7 ^ f := by rw [Nat.pow_succ, Nat.mul_comm]
  refine Aw_seq ?_
  refine Aw_region ?_
  refine Al_pu (Pu_loadb rfl Try.isAgg80 rfl rfl rfl) rfl rfl (by decide) (by kernel_rfl) ?_
  refine Al_pu (Pu_move (.inl rfl) (by conv => lhs; whnf)) rfl rfl (by decide) (by kernel_rfl) ?_
  refine Al_pu (Pu_indexOw (j := a) rfl Try.underlying80 Try.sizeOf4 rfl rfl rfl rfl (by unfold T.seenR; rw [List.length_map]; omega)) rfl rfl (by decide) (by kernel_rfl) ?_
  refine Al_storeArr (T.seenR (so.1.set a true)) rfl rfl rfl (by kernel_rfl) Try.sizeOf4 rfl rfl rfl rfl rfl (by unfold T.seenR; rw [List.length_map]; omega) (by simp [T.seenR]) (T.seenR_un _) (T.seenR_set (by omega)) ?_
  refine Al_nil ?_
  refine Aw_seq ?_
  refine Aw_region ?_
  refine Al_pu (Pu_loadb rfl Try.isAgg22 rfl rfl rfl) rfl rfl (by decide) (by kernel_rfl) ?_
  refine Al_pu (Pu_move (.inl rfl) (by conv => lhs; whnf)) rfl rfl (by decide) (by kernel_rfl) ?_
  refine Al_pu (Pu_slice1 rfl Try.underlying22 Try.sizeOf3 Try.zeroValue3 rfl (by decide) (by decide) (by kernel_rfl) rfl rfl rfl) rfl rfl (by decide) (by kernel_rfl) ?_
  refine Al_append rfl rfl rfl (by decide) (by kernel_rfl) elem22 (by decide) Try.sizeOf3 rfl rfl rfl ((by simp [T.outR]; omega)) (by decide) (fun g14 => ?_)
  refine Al_store1 rfl rfl rfl (by kernel_rfl) Try.isAgg22 Try.sizeOf22 rfl rfl (Nat.le_of_ble_eq_true rfl) (by conv => lhs; whnf) rfl ?_
  refine Al_nil ?_
  refine Aw_seq ?_
  refine Aw_region ?_
  refine Al_pu (Pu_load1 rfl Try.isAgg22 rfl rfl) rfl rfl (by decide) (by kernel_rfl) ?_
  refine Al_pu (Pu_len rfl Try.underlying22 rfl (by first | exact List.length_map .. | exact rfl)) rfl rfl (by decide) (by kernel_rfl) ?_
  refine Al_pu (Pu_move (.inl rfl) (by conv => lhs; whnf)) rfl rfl (by decide) (by kernel_rfl) ?_
  refine Al_nil ?_
  refine Aw_block ?_
  refine Aw_loopk (ι := Nat × Nat) [0, 1, 4, 15, 16] [1007] (fun (k, g) => [(17, .d (iv k))]) (fun (k, g) => [(1005, 0, .box 80 [.ow 1015 0]), (1015, 0, .arr 4 1 (T.seenR (T.dfsAt p f a so k).1)), (1006, 0, .box 22 [.ow 1016 g]), (1016, g, .arr 3 1 (T.outR (T.dfsAt p f a so k).2))]) (fun (k, g) => k ≤ p.length) (fun (k, g) => p.length - k) ((0, g14)) (Nat.zero_le _) ⟨Sub.rfl, trivial⟩ ⟨rfl, rfl, rfl, obeq (by simp [T.outR, T.dfsAt_zero, A.cellsA]), trivial⟩ ?_
  rintro ⟨k, g⟩ hk0
  refine Aw_seq ?_
  refine Aw_region ?_
  refine Al_pu (Pu_cmp rfl rfl rfl rfl) rfl rfl (by decide) (by kernel_rfl) ?_
  refine Al_nil ?_
  refine Aw_seq ?_
  refine Aw_cond rfl (fun h18 => ?_) (fun h18 => ?_)
  · (try simp only [decide_eq_true_eq, decide_eq_false_iff_not, Bool.and_eq_true, Bool.or_eq_true, Bool.and_eq_false_iff, Bool.or_eq_false_iff, Bool.not_eq_true', Bool.not_eq_false', beq_iff_eq, Bool.not_eq_eq_eq_not, Bool.not_true, Bool.not_false, List.length_map, Bool.and_true, Bool.and_false, Bool.false_and, Bool.true_and, Bool.or_false, Bool.false_or] at h18)
    have hk : k < p.length := by omega
    obtain ⟨d1, d2⟩ := T.dfsAt_len p hp6 f a so k
    have d3 : k * 7 ^ f ≤ 5 * 7 ^ f := Nat.mul_le_mul_right _ (by omega)
    have hks : k < (T.dfsAt p f a so k).1.length := by omega
    have hkb : p.getD k 0 = p[k] := by simp [List.getD_eq_getElem?_getD, hk]
    have hkd : (T.dfsAt p f a so k).1.getD k true = (T.dfsAt p f a so k).1[k] := by simp [List.getD_eq_getElem?_getD, hks]
    have hat : (T.seenR (T.dfsAt p f a so k).1).flatten[k * 1]? = some (bv (T.dfsAt p f a so k).1[k]) := by rw [T.seenR_fl, Nat.mul_one]; simp [hks]
    have hkl : k < (T.seenR (T.dfsAt p f a so k).1).length := by unfold T.seenR; rw [List.length_map]; omega
    refine Aw_skip ?_
    -- join 0: live [0, 1, 4, 15, 16, 17], turned []
    refine Aw_seq ?_
    refine Aw_block ?_
    refine Aw_seq ?_
    refine Aw_region ?_
    refine Al_pu (Pu_move (.inl rfl) (by conv => lhs; whnf)) rfl rfl (by decide) (by kernel_rfl) ?_
    refine Al_pu (Pu_index rfl Try.underlying22 Try.sizeOf3 rfl rfl (rfl) (mapget hk)) rfl rfl (by decide) (by kernel_rfl) ?_
    refine Al_pu (Pu_load1 rfl Try.isAgg3 rfl rfl) rfl rfl (by decide) (by kernel_rfl) ?_
    refine Al_pu (Pu_move (.inr rfl) (by conv => lhs; whnf)) rfl rfl (by decide) (by kernel_rfl) ?_
    refine Al_pu (Pu_move (.inr rfl) (by conv => lhs; whnf)) rfl rfl (by decide) (by kernel_rfl) ?_
    refine Al_nil ?_
    refine Aw_seq ?_
    refine Aw_region ?_
    refine Al_pu (Pu_move (.inl rfl) (by conv => lhs; whnf)) rfl rfl (by decide) (by kernel_rfl) ?_
    refine Al_pu (Pu_move (.inl rfl) (by conv => lhs; whnf)) rfl rfl (by decide) (by kernel_rfl) ?_
    refine Al_pu (Pu_cmp rfl rfl rfl rfl) rfl rfl (by decide) (by kernel_rfl) ?_
    refine Al_pu (Pu_move (.inl rfl) (by conv => lhs; whnf)) rfl rfl (by decide) (by kernel_rfl) ?_
    refine Al_st (St_gd [] rfl rfl rfl rfl trivial (fun hg26 => Pu_loadb rfl Try.isAgg80 rfl rfl rfl)) rfl (by decide) (by kernel_rfl) (by intro j b oj dj h1 h2 h3; cases h1; cases h2; cases h3; decide) ?_
    refine Al_st (St_gd [] rfl rfl rfl rfl trivial (fun hg27 => by exact Pu_move (.inl rfl) (by conv => lhs; whnf))) rfl (by decide) (by kernel_rfl) (by intro j b oj dj h1 h2 h3; cases h1; cases h2; cases h3; decide) ?_
    refine Al_st (St_gd [26, 27] rfl rfl rfl rfl ⟨⟨_, rfl⟩, ⟨_, rfl⟩, trivial⟩ (fun hg28 => Pu_indexOw (j := k) rfl Try.underlying80 Try.sizeOf4 rfl rfl rfl rfl hkl)) rfl (by decide) (by kernel_rfl) (by intro j b oj dj h1 h2 h3; cases h1; cases h2; cases h3; decide) ?_
    refine Al_st (St_gd [28] rfl rfl rfl rfl ⟨⟨_, rfl⟩, trivial⟩ (fun hg29 => Pu_loadArr rfl Try.isAgg4 rfl rfl hat)) rfl (by decide) (by kernel_rfl) (by intro j b oj dj h1 h2 h3; cases h1; cases h2; cases h3; decide) ?_
    refine Al_st (St_gd [29] rfl rfl rfl rfl ⟨⟨_, rfl⟩, trivial⟩ (fun hg30 => Pu_not rfl rfl)) rfl (by decide) (by kernel_rfl) (by intro j b oj dj h1 h2 h3; cases h1; cases h2; cases h3; decide) ?_
    refine Al_pu (Pu_and rfl rfl rfl rfl) rfl rfl (by decide) (by kernel_rfl) ?_
    refine Al_nil ?_
    refine Aw_cond rfl (fun h31 => ?_) (fun h31 => ?_)
    · skip
      have h31' : p.getD k 0 = (a : Int) ∧ (T.dfsAt p f a so k).1.getD k true = false := by
        rw [hkb, hkd]; simpa using h31
      have hak : a < k := by
        rcases Nat.eq_zero_or_pos k with h0 | h0
        · have := hp.root; rw [← h0, h31'.1] at this; omega
        · have := (hp.up k h0 hk).2; rw [h31'.1] at this; omega
      have hnx : T.dfsAt p f a so (k + 1) = T.dfs p f k (T.dfsAt p f a so k) := by rw [T.dfsAt_succ, T.dstep, if_pos h31']
      have hcall := hgo k (T.dfsAt p f a so k) hak hk (by omega) (by omega)
      refine Aw_region ?_
      refine Al_pu (Pu_loadb rfl Try.isAgg81 rfl rfl rfl) rfl rfl (by decide) (by kernel_rfl) ?_
      refine Al_pu (Pu_move (.inl rfl) (by conv => lhs; whnf)) rfl rfl (by decide) (by kernel_rfl) ?_
      refine Al_gcallv [(1005, 1005, 0), (1015, 1015, 0), (1006, 1006, 0), (1016, 1016, g), (1007, 1007, 0)] [(1026, 1016)] hcall rfl rfl rfl (by decide) (by kernel_rfl) rfl ⟨rfl, rfl, rfl, rfl, rfl, trivial⟩ rfl [.d (iv k)] rfl ⟨Sub.rfl, trivial⟩ (fun g34 => ?_)
      refine Al_nil ?_
      refine Aw_region ?_
      refine Al_pu (Pu_add rfl rfl rfl (fun h1 h2 => by simp only [A.inI, A.maxI] at *; omega)) rfl rfl (by decide) (by kernel_rfl) ?_
      refine Al_pu (Pu_move (.inl rfl) (by conv => lhs; whnf)) rfl rfl (by decide) (by kernel_rfl) ?_
      refine Al_nil ?_
      exact ⟨(k + 1, g34), by omega, by simp only []; omega, Le.ov ⟨Sub.num (by omega), trivial⟩ ⟨Sub.rfl, Sub.rfl, Sub.rfl, Sub.rfl, Sub.rfl, trivial⟩ ⟨rfl, obeq (by rw [hnx]), rfl, obeq (by rw [hnx]), trivial⟩ ⟨rfl, trivial⟩⟩ -- loop 0 next.0
    · skip
      have hnx : T.dfsAt p f a so (k + 1) = T.dfsAt p f a so k := by
        rw [T.dfsAt_succ, T.dstep, if_neg]
        rw [hkb, hkd]; rintro ⟨h1, h2⟩; rw [h2] at h31; simp [h1] at h31
      refine Aw_skip ?_
      refine Aw_region ?_
      refine Al_pu (Pu_add rfl rfl rfl (fun h1 h2 => by simp only [A.inI, A.maxI] at *; omega)) rfl rfl (by decide) (by kernel_rfl) ?_
      refine Al_pu (Pu_move (.inl rfl) (by conv => lhs; whnf)) rfl rfl (by decide) (by kernel_rfl) ?_
      refine Al_nil ?_
      exact ⟨(k + 1, g), by omega, by simp only []; omega, Le.ov ⟨Sub.num (by omega), trivial⟩ ⟨Sub.rfl, Sub.rfl, Sub.rfl, Sub.rfl, Sub.rfl, trivial⟩ ⟨rfl, obeq (by rw [hnx]), rfl, obeq (by rw [hnx]), trivial⟩ ⟨rfl, trivial⟩⟩ -- loop 0 next.1
  · (try simp only [decide_eq_true_eq, decide_eq_false_iff_not, Bool.and_eq_true, Bool.or_eq_true, Bool.and_eq_false_iff, Bool.or_eq_false_iff, Bool.not_eq_true', Bool.not_eq_false', beq_iff_eq, Bool.not_eq_eq_eq_not, Bool.not_true, Bool.not_false, List.length_map, Bool.and_true, Bool.and_false, Bool.false_and, Bool.true_and, Bool.or_false, Bool.false_or] at h18)
    have hkk : k = p.length := by omega
    refine Aw_exit ?_
    exact ⟨_, _, [(1026, 1016, g)], rfl, rfl, ⟨rfl, obeq (by rw [hkk, T.dfsAt_all]), rfl, obeq (by rw [hkk, T.dfsAt_all]), rfl, trivial⟩, rfl⟩ -- ret 0
theorem in_g (p : List Int) (hp : T.Ahead p) : ∀ (f a : Nat) (so : T.DS), a < p.length → p.length ≤ a + f → so.1.length = p.length → so.2.length + 7 ^ f ≤ 1000000 → GCall Try.prog 65 [.d (iv a), .bx 1005 0 0, .bx 1006 0 0, .d (.fp [.sl 1 (p.map fun x => [iv x])]), .bx 1007 0 0] (T.inObs p so) (some (T.inObs2 p (T.dfs p f a so), .d (.tup [])))
  | 0, a, so, ha, hf, _, _ => by omega
  | f + 1, a, so, ha, hf, hs, ho => in_step p hp f a so (fun a' so' h1 h2 h3 h4 => in_g p hp f a' so' h2 (by omega) h3 h4) ha hs ho
set_option maxRecDepth 100000 in
set_option maxHeartbeats 2000000 in
theorem below_a (p : List Int) (hp : T.Ahead p) : ACall Try.prog 55 [.sl 1 (p.map fun x => [iv x]), iv (0 : Nat)] (.sl 1 (T.outR (T.dfs p p.length 0 (List.replicate p.length false, [])).2)) := by
  refine ACall_enter (fun _ _ => by kernel_rfl) Try.func55 rfl Try.ntmps55 Try.results55 (Nat.le_of_ble_eq_true rfl) (fun hok M0 w0 hnl => ?_)
  have hp6 := hp.le
  have hin := in_g p hp p.length 0 (List.replicate p.length false, []) hp.pos (by omega) (by simp) (by
    have : (7 : Nat) ^ p.length ≤ 7 ^ 6 := Nat.pow_le_pow_right (by omega) hp6
    simp only [List.length_nil]; omega)
  have hrep : (List.replicate p.length [AV.v (.bool false)]) = T.seenR (List.replicate p.length false) := by simp [T.seenR]
  refine Aw_seq ?_
  refine Aw_region ?_
  refine Al_pu (Pu_box1 rfl rfl (by nofun) (by nofun)) rfl rfl (by decide) (by kernel_rfl) ?_
  refine Al_pu (Pu_move (.inr rfl) (by conv => lhs; whnf)) rfl rfl (by decide) (by kernel_rfl) ?_
  refine Al_nil ?_
  refine Aw_seq ?_
  refine Aw_region ?_
  refine Al_pu (Pu_load1 rfl Try.isAgg22 rfl rfl) rfl rfl (by decide) (by kernel_rfl) ?_
  refine Al_pu (Pu_len rfl Try.underlying22 rfl (by first | exact List.length_map .. | exact rfl)) rfl rfl (by decide) (by kernel_rfl) ?_
  refine Al_make1 (n := p.length) (bytes := 1) (z := .bool false) rfl rfl rfl (by decide) (by kernel_rfl) Try.underlying80 (by kernel_rfl) rfl trivial rfl rfl (by omega) (by decide) (fun g10 => ?_)
  refine Al_alloc rfl rfl rfl (by decide) Try.zeroValue80 rfl (by kernel_rfl) (fun g5 => ?_)
  refine Al_store1 rfl rfl rfl (by kernel_rfl) Try.isAgg80 Try.sizeOf80 rfl rfl (Nat.le_of_ble_eq_true rfl) (by conv => lhs; whnf) rfl ?_
  refine Al_nil ?_
  refine Aw_seq ?_
  refine Aw_region ?_
  refine Al_alloc rfl rfl rfl (by decide) Try.zeroValue22 rfl (by kernel_rfl) (fun g6 => ?_)
  refine Al_nil ?_
  refine Aw_seq ?_
  refine Aw_region ?_
  refine Al_alloc rfl rfl rfl (by decide) Try.zeroValue81 rfl (by kernel_rfl) (fun g7 => ?_)
  refine Al_nil ?_
  refine Aw_seq ?_
  refine Aw_region ?_
  refine Al_pu (Pu_makeFuncS (ys := []) (xs := [_, _, _, _]) [] [.bx 5 g5 0, .bx 6 g6 0, .d (.fp [.sl 1 (p.map fun x => [iv x])]), .bx 7 g7 0] rfl trivial ⟨Sub.rfl, Sub.rfl, Sub.rfl, Sub.rfl, trivial⟩) rfl rfl (by decide) (by kernel_rfl) ?_
  refine Al_store1 rfl rfl rfl (by kernel_rfl) Try.isAgg81 Try.sizeOf81 rfl rfl (Nat.le_of_ble_eq_true rfl) (by conv => lhs; whnf) rfl ?_
  refine Al_nil ?_
  refine Aw_seq ?_
  refine Aw_owncell 0 (k := 6) (k2 := 16) (e := 3) (n := 1) rfl rfl rfl (fun g16 => ?_)
  refine Aw_region ?_
  refine Al_pu (Pu_loadb rfl Try.isAgg81 rfl rfl rfl) rfl rfl (by decide) (by kernel_rfl) ?_
  refine Al_pu (Pu_move (.inl rfl) (by conv => lhs; whnf)) rfl rfl (by decide) (by kernel_rfl) ?_
  refine Al_gcallv [(1005, 5, g5), (1015, 10, g10), (1006, 6, g6), (1016, 16, g16), (1007, 7, g7)] [(1026, 16)] hin rfl rfl rfl (by decide) (by kernel_rfl) rfl ⟨rfl, obeq hrep, rfl, rfl, rfl, trivial⟩ rfl [.d (iv (0 : Nat))] rfl ⟨Sub.rfl, trivial⟩ (fun g14 => ?_)
  refine Al_nil ?_
  refine Aw_seq ?_
  refine Aw_region ?_
  refine Al_pu (Pu_loadb rfl Try.isAgg22 rfl rfl rfl) rfl rfl (by decide) (by kernel_rfl) ?_
  refine Al_pu (Pu_move (.inr rfl) (by conv => lhs; whnf)) rfl rfl (by decide) (by kernel_rfl) ?_
  refine Al_nil ?_
  refine Aw_frz hnl (k := 16) [4] rfl ⟨rfl, trivial⟩ ?_
  refine Aw_ret ?_
  exact Sub.rfl -- ret 0
namespace T
def allA : Nat → List (List Int)
  | 0 => [[]]
  | 1 => [[-1]]
  | n + 2 => (allA (n + 1)).flatMap fun p => (List.range (n + 1)).map fun (k : Nat) => p ++ [(k : Int)]
theorem getD_app {p : List Int} {x : Int} {i : Nat} (h : i < p.length) : (p ++ [x]).getD i 0 = p.getD i 0 := by
  rw [List.getD_eq_getElem?_getD, List.getD_eq_getElem?_getD, List.getElem?_append_left h]
theorem ahead_mem : ∀ (n : Nat) (p : List Int), p.length = n → Ahead p → p ∈ allA n
  | 0, p, hn, h => by have := h.pos; omega
  | 1, p, hn, h => by
    match p, hn with
    | [x], _ =>
      have := h.root
      simp at this
      simp [allA, this]
  | n + 2, p, hn, h => by
    have hne : p ≠ [] := fun e => by rw [e] at hn; simp at hn
    obtain ⟨q, x, rfl⟩ : ∃ q x, p = q ++ [x] := ⟨p.dropLast, p.getLast hne, (List.dropLast_concat_getLast hne).symm⟩
    have hql : q.length = n + 1 := by simp at hn; omega
    have hl := h.le
    rw [List.length_append, List.length_singleton] at hl
    have hq : Ahead q := ⟨by omega, by omega, by rw [← getD_app (x := x) (by omega)]; exact h.root, fun i h1 h2 => by
      have := h.up i h1 (by rw [List.length_append, List.length_singleton]; omega)
      rwa [getD_app h2] at this⟩
    have hx := h.up (n + 1) (by omega) (by rw [List.length_append, List.length_singleton]; omega)
    have hxe : (q ++ [x]).getD (n + 1) 0 = x := by
      rw [List.getD_eq_getElem?_getD, List.getElem?_append_right (by omega)]
      simp [hql]
    rw [hxe] at hx
    rw [allA, List.mem_flatMap]
    refine ⟨q, ahead_mem (n + 1) q hql hq, List.mem_map.2 ⟨x.toNat, List.mem_range.2 (by omega), ?_⟩⟩
    rw [show ((x.toNat : Nat) : Int) = x from by omega]
theorem all_dfs : ∀ n ∈ List.range 7, ∀ p ∈ allA n, (dfs p n 0 (List.replicate n false, [])).2.length = n := by decide +kernel
theorem dfs_all {p : List Int} (h : Ahead p) : (dfs p p.length 0 (List.replicate p.length false, [])).2.length = p.length :=
  all_dfs p.length (List.mem_range.2 (by have := h.le; omega)) p (ahead_mem _ p rfl h)
theorem ahead_at {p : List Int} (h : Ahead p) {k : Nat} (hk : k < p.length) : (p[k] = -1 ∧ k = 0) ∨ (0 ≤ p[k] ∧ p[k] < k ∧ 1 ≤ k) := by
  have e : p.getD k 0 = p[k] := by simp [List.getD_eq_getElem?_getD, hk]
  rcases Nat.eq_zero_or_pos k with h0 | h0
  · left
    have := h.root
    subst h0
    rw [e] at this
    exact ⟨this, rfl⟩
  · right
    have := h.up k h0 hk
    rw [e] at this
    exact ⟨this.1, this.2, h0⟩
end T
set_option maxRecDepth 100000 in
theorem index0_a (p : List Int) (hp : T.Ahead p) : ACall Try.prog 56 [.sl 1 (p.map fun x => [iv x]), iv (-1)] (iv (0 : Nat)) := by
  refine ACall_enter (fun _ _ => by kernel_rfl) Try.func56 rfl Try.ntmps56 Try.results56 (Nat.le_of_ble_eq_true rfl) (fun hok M0 w0 hnl => ?_)
  have hp1 := hp.pos
  have hp6 := hp.le
  refine Aw_seq ?_
  refine Aw_region ?_
  refine Al_pu (Pu_move (.inr rfl) (by conv => lhs; whnf)) rfl rfl (by decide) (by kernel_rfl) ?_
  refine Al_nil ?_
  refine Aw_seq ?_
  refine Aw_seq ?_
  refine Aw_region ?_
  refine Al_pu (Pu_move (.inl rfl) (by conv => lhs; whnf)) rfl rfl (by decide) (by kernel_rfl) ?_
  refine Al_pu (Pu_len rfl Try.underlying22 rfl (by first | exact List.length_map .. | exact rfl)) rfl rfl (by decide) (by kernel_rfl) ?_
  refine Al_pu (Pu_move (.inl rfl) (by conv => lhs; whnf)) rfl rfl (by decide) (by kernel_rfl) ?_
  refine Al_nil ?_
  refine Aw_block ?_
  refine Aw_loopk (ι := Nat) [0, 1, 7] [] (fun k => [(8, .d (iv k))]) (fun k => []) (fun k => k ≤ p.length ∧ k = 0) (fun k => p.length - k) (0) (⟨Nat.zero_le _, rfl⟩) ⟨Sub.rfl, trivial⟩ trivial ?_
  rintro k ⟨hk0, hz⟩
  refine Aw_seq ?_
  refine Aw_region ?_
  refine Al_pu (Pu_cmp rfl rfl rfl rfl) rfl rfl (by decide) (by kernel_rfl) ?_
  refine Al_nil ?_
  refine Aw_seq ?_
  refine Aw_cond rfl (fun h9 => ?_) (fun h9 => ?_)
  · (try simp only [decide_eq_true_eq, decide_eq_false_iff_not, Bool.and_eq_true, Bool.or_eq_true, Bool.and_eq_false_iff, Bool.or_eq_false_iff, Bool.not_eq_true', Bool.not_eq_false', beq_iff_eq, Bool.not_eq_eq_eq_not, Bool.not_true, Bool.not_false, List.length_map, Bool.and_true, Bool.and_false, Bool.false_and, Bool.true_and, Bool.or_false, Bool.false_or] at h9)
    subst hz
    have hk : 0 < p.length := by omega
    have hat := T.ahead_at hp hk
    refine Aw_skip ?_
    refine Aw_seq ?_
    refine Aw_block ?_
    refine Aw_seq ?_
    refine Aw_region ?_
    refine Al_pu (Pu_move (.inl rfl) (by conv => lhs; whnf)) rfl rfl (by decide) (by kernel_rfl) ?_
    refine Al_pu (Pu_move (.inr rfl) (by conv => lhs; whnf)) rfl rfl (by decide) (by kernel_rfl) ?_
    refine Al_nil ?_
    refine Aw_seq ?_
    refine Aw_region ?_
    refine Al_pu (Pu_move (.inl rfl) (by conv => lhs; whnf)) rfl rfl (by decide) (by kernel_rfl) ?_
    refine Al_pu (Pu_move (.inl rfl) (by conv => lhs; whnf)) rfl rfl (by decide) (by kernel_rfl) ?_
    refine Al_pu (Pu_move (.inl rfl) (by conv => lhs; whnf)) rfl rfl (by decide) (by kernel_rfl) ?_
    refine Al_pu (Pu_index rfl Try.underlying22 Try.sizeOf3 rfl rfl (rfl) (mapget hk)) rfl rfl (by decide) (by kernel_rfl) ?_
    refine Al_pu (Pu_load1 rfl Try.isAgg3 rfl rfl) rfl rfl (by decide) (by kernel_rfl) ?_
    refine Al_pu (Pu_cmp rfl rfl rfl rfl) rfl rfl (by decide) (by kernel_rfl) ?_
    refine Al_nil ?_
    refine Aw_cond rfl (fun h16 => ?_) (fun h16 => ?_)
    · (try simp only [decide_eq_true_eq, decide_eq_false_iff_not, Bool.and_eq_true, Bool.or_eq_true, Bool.and_eq_false_iff, Bool.or_eq_false_iff, Bool.not_eq_true', Bool.not_eq_false', beq_iff_eq, Bool.not_eq_eq_eq_not, Bool.not_true, Bool.not_false, List.length_map, Bool.and_true, Bool.and_false, Bool.false_and, Bool.true_and, Bool.or_false, Bool.false_or] at h16)
      refine Aw_seq ?_
      refine Aw_region ?_
      refine Al_pu (Pu_move (.inl rfl) (by conv => lhs; whnf)) rfl rfl (by decide) (by kernel_rfl) ?_
      refine Al_pu (Pu_move (.inr rfl) (by conv => lhs; whnf)) rfl rfl (by decide) (by kernel_rfl) ?_
      refine Al_nil ?_
      refine Aw_ret ?_
      exact Sub.rfl -- ret 0
    · (try simp only [decide_eq_true_eq, decide_eq_false_iff_not, Bool.and_eq_true, Bool.or_eq_true, Bool.and_eq_false_iff, Bool.or_eq_false_iff, Bool.not_eq_true', Bool.not_eq_false', beq_iff_eq, Bool.not_eq_eq_eq_not, Bool.not_true, Bool.not_false, List.length_map, Bool.and_true, Bool.and_false, Bool.false_and, Bool.true_and, Bool.or_false, Bool.false_or] at h16)
      exfalso; omega
  · (try simp only [decide_eq_true_eq, decide_eq_false_iff_not, Bool.and_eq_true, Bool.or_eq_true, Bool.and_eq_false_iff, Bool.or_eq_false_iff, Bool.not_eq_true', Bool.not_eq_false', beq_iff_eq, Bool.not_eq_eq_eq_not, Bool.not_true, Bool.not_false, List.length_map, Bool.and_true, Bool.and_false, Bool.false_and, Bool.true_and, Bool.or_false, Bool.false_or] at h9)
    exfalso; omega
set_option maxRecDepth 100000 in
theorem trcheck_a (p : List Int) (hp : T.Ahead p) : ACall Try.prog 43 [.sl 1 (p.map fun x => [iv x])] (bv true) := by
  refine ACall_enter (fun _ _ => by kernel_rfl) Try.func43 rfl Try.ntmps43 Try.results43 (Nat.le_of_ble_eq_true rfl) (fun hok M0 w0 hnl => ?_)
  have hp1 := hp.pos
  have hp6 := hp.le
  refine Aw_seq ?_
  refine Aw_region ?_
  refine Al_pu (Pu_move (.inr rfl) (by conv => lhs; whnf)) rfl rfl (by decide) (by kernel_rfl) ?_
  refine Al_nil ?_
  refine Aw_seq ?_
  refine Aw_seq ?_
  refine Aw_region ?_
  refine Al_pu (Pu_move (.inl rfl) (by conv => lhs; whnf)) rfl rfl (by decide) (by kernel_rfl) ?_
  refine Al_pu (Pu_len rfl Try.underlying22 rfl (by first | exact List.length_map .. | exact rfl)) rfl rfl (by decide) (by kernel_rfl) ?_
  refine Al_pu (Pu_cmp rfl rfl rfl rfl) rfl rfl (by decide) (by kernel_rfl) ?_
  refine Al_pu (Pu_move (.inl rfl) (by conv => lhs; whnf)) rfl rfl (by decide) (by kernel_rfl) ?_
  refine Al_st (St_gd [] rfl rfl rfl rfl trivial (fun hg10 => by exact Pu_move (.inl rfl) (by conv => lhs; whnf))) rfl (by decide) (by kernel_rfl) (by intro j b oj dj h1 h2 h3; cases h1; cases h2; cases h3; decide) ?_
  refine Al_st (St_gd [10] rfl rfl rfl rfl ⟨⟨_, rfl⟩, trivial⟩ (fun hg11 => by exact Pu_len rfl Try.underlying22 rfl (by first | exact List.length_map .. | exact rfl))) rfl (by decide) (by kernel_rfl) (by intro j b oj dj h1 h2 h3; cases h1; cases h2; cases h3; decide) ?_
  refine Al_st (St_gd [11] rfl rfl rfl rfl ⟨⟨_, rfl⟩, trivial⟩ (fun hg12 => Pu_cmp rfl rfl rfl rfl)) rfl (by decide) (by kernel_rfl) (by intro j b oj dj h1 h2 h3; cases h1; cases h2; cases h3; decide) ?_
  refine Al_pu (Pu_or rfl rfl rfl rfl) rfl rfl (by decide) (by kernel_rfl) ?_
  refine Al_nil ?_
  refine Aw_cond rfl (fun h13 => ?_) (fun h13 => ?_)
  · skip
    exfalso
    simp only [Bool.or_eq_true, decide_eq_true_eq] at h13
    omega
  · skip
    refine Aw_skip ?_
    refine Aw_seq ?_
    refine Aw_region ?_
    refine Al_pu (Pu_move (.inr rfl) (by conv => lhs; whnf)) rfl rfl (by decide) (by kernel_rfl) ?_
    refine Al_nil ?_
    refine Aw_seq ?_
    refine Aw_seq ?_
    refine Aw_region ?_
    refine Al_pu (Pu_move (.inl rfl) (by conv => lhs; whnf)) rfl rfl (by decide) (by kernel_rfl) ?_
    refine Al_pu (Pu_len rfl Try.underlying22 rfl (by first | exact List.length_map .. | exact rfl)) rfl rfl (by decide) (by kernel_rfl) ?_
    refine Al_pu (Pu_move (.inl rfl) (by conv => lhs; whnf)) rfl rfl (by decide) (by kernel_rfl) ?_
    refine Al_nil ?_
    refine Aw_block ?_
    refine Aw_loopk (ι := Nat) [0, 14, 15] [] (fun k => [(16, .d (iv k)), (3, .d (iv (if k = 0 then 0 else 1)))]) (fun k => []) (fun k => k ≤ p.length) (fun k => p.length - k) (0) (Nat.zero_le _) ⟨Sub.rfl, Sub.rfl, trivial⟩ trivial ?_
    rintro k hk0
    refine Aw_seq ?_
    refine Aw_region ?_
    refine Al_pu (Pu_cmp rfl rfl rfl rfl) rfl rfl (by decide) (by kernel_rfl) ?_
    refine Al_nil ?_
    refine Aw_seq ?_
    refine Aw_cond rfl (fun h17 => ?_) (fun h17 => ?_)
    · (try simp only [decide_eq_true_eq, decide_eq_false_iff_not, Bool.and_eq_true, Bool.or_eq_true, Bool.and_eq_false_iff, Bool.or_eq_false_iff, Bool.not_eq_true', Bool.not_eq_false', beq_iff_eq, Bool.not_eq_eq_eq_not, Bool.not_true, Bool.not_false, List.length_map, Bool.and_true, Bool.and_false, Bool.false_and, Bool.true_and, Bool.or_false, Bool.false_or] at h17)
      have hk : k < p.length := by omega
      have hat := T.ahead_at hp hk
      refine Aw_skip ?_
      -- join 0: live [0, 3, 14, 15, 16], turned [3]
      refine Aw_seq ?_
      refine Aw_block ?_
      refine Aw_seq ?_
      refine Aw_region ?_
      refine Al_pu (Pu_index rfl Try.underlying22 Try.sizeOf3 rfl rfl (rfl) (mapget hk)) rfl rfl (by decide) (by kernel_rfl) ?_
      refine Al_pu (Pu_load1 rfl Try.isAgg3 rfl rfl) rfl rfl (by decide) (by kernel_rfl) ?_
      refine Al_pu (Pu_move (.inr rfl) (by conv => lhs; whnf)) rfl rfl (by decide) (by kernel_rfl) ?_
      refine Al_nil ?_
      refine Aw_seq ?_
      refine Aw_seq ?_
      refine Aw_region ?_
      refine Al_pu (Pu_move (.inl rfl) (by conv => lhs; whnf)) rfl rfl (by decide) (by kernel_rfl) ?_
      refine Al_pu (Pu_cmp rfl rfl rfl rfl) rfl rfl (by decide) (by kernel_rfl) ?_
      refine Al_pu (Pu_move (.inl rfl) (by conv => lhs; whnf)) rfl rfl (by decide) (by kernel_rfl) ?_
      refine Al_st (St_gd [] rfl rfl rfl rfl trivial (fun hg23 => by exact Pu_move (.inl rfl) (by conv => lhs; whnf))) rfl (by decide) (by kernel_rfl) (by intro j b oj dj h1 h2 h3; cases h1; cases h2; cases h3; decide) ?_
      refine Al_st (St_gd [] rfl rfl rfl rfl trivial (fun hg24 => by exact Pu_move (.inl rfl) (by conv => lhs; whnf))) rfl (by decide) (by kernel_rfl) (by intro j b oj dj h1 h2 h3; cases h1; cases h2; cases h3; decide) ?_
      refine Al_st (St_gd [24] rfl rfl rfl rfl ⟨⟨_, rfl⟩, trivial⟩ (fun hg25 => by exact Pu_len rfl Try.underlying22 rfl (by first | exact List.length_map .. | exact rfl))) rfl (by decide) (by kernel_rfl) (by intro j b oj dj h1 h2 h3; cases h1; cases h2; cases h3; decide) ?_
      refine Al_st (St_gd [23, 25] rfl rfl rfl rfl ⟨⟨_, rfl⟩, ⟨_, rfl⟩, trivial⟩ (fun hg26 => Pu_cmp rfl rfl rfl rfl)) rfl (by decide) (by kernel_rfl) (by intro j b oj dj h1 h2 h3; cases h1; cases h2; cases h3; decide) ?_
      refine Al_pu (Pu_or rfl rfl rfl rfl) rfl rfl (by decide) (by kernel_rfl) ?_
      refine Al_nil ?_
      refine Aw_cond rfl (fun h27 => ?_) (fun h27 => ?_)
      · skip
        exfalso
        simp only [Bool.or_eq_true, decide_eq_true_eq] at h27
        omega
      · skip
        refine Aw_skip ?_
        refine Aw_seq ?_
        refine Aw_region ?_
        refine Al_pu (Pu_move (.inl rfl) (by conv => lhs; whnf)) rfl rfl (by decide) (by kernel_rfl) ?_
        refine Al_pu (Pu_cmp rfl rfl rfl rfl) rfl rfl (by decide) (by kernel_rfl) ?_
        refine Al_nil ?_
        refine Aw_cond rfl (fun h29 => ?_) (fun h29 => ?_)
        · (try simp only [decide_eq_true_eq, decide_eq_false_iff_not, Bool.and_eq_true, Bool.or_eq_true, Bool.and_eq_false_iff, Bool.or_eq_false_iff, Bool.not_eq_true', Bool.not_eq_false', beq_iff_eq, Bool.not_eq_eq_eq_not, Bool.not_true, Bool.not_false, List.length_map, Bool.and_true, Bool.and_false, Bool.false_and, Bool.true_and, Bool.or_false, Bool.false_or] at h29)
          refine Aw_region ?_
          refine Al_pu (Pu_move (.inl rfl) (by conv => lhs; whnf)) rfl rfl (by decide) (by kernel_rfl) ?_
          refine Al_pu (Pu_add rfl rfl rfl (fun h1 h2 => by simp only [A.inI, A.maxI] at *; omega)) rfl rfl (by decide) (by kernel_rfl) ?_
          refine Al_pu (Pu_move (.inr rfl) (by conv => lhs; whnf)) rfl rfl (by decide) (by kernel_rfl) ?_
          refine Al_nil ?_
          refine Aw_region ?_
          refine Al_pu (Pu_add rfl rfl rfl (fun h1 h2 => by simp only [A.inI, A.maxI] at *; omega)) rfl rfl (by decide) (by kernel_rfl) ?_
          refine Al_pu (Pu_move (.inl rfl) (by conv => lhs; whnf)) rfl rfl (by decide) (by kernel_rfl) ?_
          refine Al_nil ?_
          exact ⟨k + 1, by omega, by omega, Le.ov ⟨Sub.num (by omega), Sub.num (by rw [if_pos (by omega : k = 0), if_neg (by omega)]; rfl), trivial⟩ ⟨Sub.rfl, Sub.rfl, Sub.rfl, trivial⟩ trivial trivial⟩ -- loop 0 next.0
        · (try simp only [decide_eq_true_eq, decide_eq_false_iff_not, Bool.and_eq_true, Bool.or_eq_true, Bool.and_eq_false_iff, Bool.or_eq_false_iff, Bool.not_eq_true', Bool.not_eq_false', beq_iff_eq, Bool.not_eq_eq_eq_not, Bool.not_true, Bool.not_false, List.length_map, Bool.and_true, Bool.and_false, Bool.false_and, Bool.true_and, Bool.or_false, Bool.false_or] at h29)
          refine Aw_skip ?_
          refine Aw_region ?_
          refine Al_pu (Pu_add rfl rfl rfl (fun h1 h2 => by simp only [A.inI, A.maxI] at *; omega)) rfl rfl (by decide) (by kernel_rfl) ?_
          refine Al_pu (Pu_move (.inl rfl) (by conv => lhs; whnf)) rfl rfl (by decide) (by kernel_rfl) ?_
          refine Al_nil ?_
          exact ⟨k + 1, by omega, by omega, Le.ov ⟨Sub.num (by omega), Sub.num (by rw [if_neg (by omega : ¬ k = 0), if_neg (by omega)]), trivial⟩ ⟨Sub.rfl, Sub.rfl, Sub.rfl, trivial⟩ trivial trivial⟩ -- loop 0 next.1
    · (try simp only [decide_eq_true_eq, decide_eq_false_iff_not, Bool.and_eq_true, Bool.or_eq_true, Bool.and_eq_false_iff, Bool.or_eq_false_iff, Bool.not_eq_true', Bool.not_eq_false', beq_iff_eq, Bool.not_eq_eq_eq_not, Bool.not_true, Bool.not_false, List.length_map, Bool.and_true, Bool.and_false, Bool.false_and, Bool.true_and, Bool.or_false, Bool.false_or] at h17)
      have hkk : ¬ k = 0 := by omega
      rw [if_neg hkk]
      refine Aw_exit ?_
      refine Aw_seq ?_
      refine Aw_region ?_
      refine Al_pu (Pu_move (.inl rfl) (by conv => lhs; whnf)) rfl rfl (by decide) (by kernel_rfl) ?_
      refine Al_pu (Pu_cmp rfl rfl rfl rfl) rfl rfl (by decide) (by kernel_rfl) ?_
      refine Al_pu (Pu_move (.inl rfl) (by conv => lhs; whnf)) rfl rfl (by decide) (by kernel_rfl) ?_
      refine Al_st (St_gd [] rfl rfl rfl rfl trivial (fun hg36 => by exact Pu_move (.inl rfl) (by conv => lhs; whnf))) rfl (by decide) (by kernel_rfl) (by intro j b oj dj h1 h2 h3; cases h1; cases h2; cases h3; decide) ?_
      refine Al_st (St_gd [] rfl rfl rfl rfl trivial (fun hg37 => by exact Pu_move (.inl rfl) (by conv => lhs; whnf))) rfl (by decide) (by kernel_rfl) (by intro j b oj dj h1 h2 h3; cases h1; cases h2; cases h3; decide) ?_
      refine Al_st (St_gd [37] rfl rfl rfl rfl ⟨⟨_, rfl⟩, trivial⟩ (fun hg38 => Pu_call (index0_a p hp) rfl ⟨Sub.rfl, Sub.rfl, trivial⟩)) rfl (by decide) (by kernel_rfl) (by intro j b oj dj h1 h2 h3; cases h1; cases h2; cases h3; decide) ?_
      refine Al_st (St_gd [36, 38] rfl rfl rfl rfl ⟨⟨_, rfl⟩, ⟨_, rfl⟩, trivial⟩ (fun hg39 => Pu_call (below_a p hp) rfl ⟨Sub.rfl, Sub.rfl, trivial⟩)) rfl (by decide) (by kernel_rfl) (by intro j b oj dj h1 h2 h3; cases h1; cases h2; cases h3; decide) ?_
      refine Al_st (St_gd [39] rfl rfl rfl rfl ⟨⟨_, rfl⟩, trivial⟩ (fun hg40 => by exact Pu_len rfl Try.underlying22 rfl (by unfold T.outR; exact List.length_map ..))) rfl (by decide) (by kernel_rfl) (by intro j b oj dj h1 h2 h3; cases h1; cases h2; cases h3; decide) ?_
      refine Al_st (St_gd [] rfl rfl rfl rfl trivial (fun hg41 => by exact Pu_move (.inl rfl) (by conv => lhs; whnf))) rfl (by decide) (by kernel_rfl) (by intro j b oj dj h1 h2 h3; cases h1; cases h2; cases h3; decide) ?_
      refine Al_st (St_gd [41] rfl rfl rfl rfl ⟨⟨_, rfl⟩, trivial⟩ (fun hg42 => by exact Pu_len rfl Try.underlying22 rfl (by first | exact List.length_map .. | exact rfl))) rfl (by decide) (by kernel_rfl) (by intro j b oj dj h1 h2 h3; cases h1; cases h2; cases h3; decide) ?_
      refine Al_st (St_gd [40, 42] rfl rfl rfl rfl ⟨⟨_, rfl⟩, ⟨_, rfl⟩, trivial⟩ (fun hg43 => Pu_cmp rfl rfl rfl rfl)) rfl (by decide) (by kernel_rfl) (by intro j b oj dj h1 h2 h3; cases h1; cases h2; cases h3; decide) ?_
      refine Al_pu (Pu_and rfl rfl rfl rfl) rfl rfl (by decide) (by kernel_rfl) ?_
      refine Al_pu (Pu_move (.inr rfl) (by conv => lhs; whnf)) rfl rfl (by decide) (by kernel_rfl) ?_
      refine Al_nil ?_
      refine Aw_ret ?_
      exact Sub.bool (by rw [T.dfs_all hp]; simp) -- ret 0
set_option maxRecDepth 100000 in
theorem rtrcheck_a (p : List Int) (hp : T.Ahead p) : ACall Try.prog 52 [.sl 1 (p.map fun x => [iv x])] (bv true) := by
  refine ACall_enter (fun _ _ => by kernel_rfl) Try.func52 rfl Try.ntmps52 Try.results52 (Nat.le_of_ble_eq_true rfl) (fun hok M0 w0 hnl => ?_)
  have hp1 := hp.pos
  have hp6 := hp.le
  refine Aw_seq ?_
  refine Aw_region ?_
  refine Al_pu (Pu_move (.inr rfl) (by conv => lhs; whnf)) rfl rfl (by decide) (by kernel_rfl) ?_
  refine Al_nil ?_
  refine Aw_seq ?_
  refine Aw_seq ?_
  refine Aw_region ?_
  refine Al_pu (Pu_move (.inl rfl) (by conv => lhs; whnf)) rfl rfl (by decide) (by kernel_rfl) ?_
  refine Al_pu (Pu_len rfl Try.underlying22 rfl (by first | exact List.length_map .. | exact rfl)) rfl rfl (by decide) (by kernel_rfl) ?_
  refine Al_pu (Pu_cmp rfl rfl rfl rfl) rfl rfl (by decide) (by kernel_rfl) ?_
  refine Al_pu (Pu_move (.inl rfl) (by conv => lhs; whnf)) rfl rfl (by decide) (by kernel_rfl) ?_
  refine Al_st (St_gd [] rfl rfl rfl rfl trivial (fun hg11 => by exact Pu_move (.inl rfl) (by conv => lhs; whnf))) rfl (by decide) (by kernel_rfl) (by intro j b oj dj h1 h2 h3; cases h1; cases h2; cases h3; decide) ?_
  refine Al_st (St_gd [11] rfl rfl rfl rfl ⟨⟨_, rfl⟩, trivial⟩ (fun hg12 => by exact Pu_len rfl Try.underlying22 rfl (by first | exact List.length_map .. | exact rfl))) rfl (by decide) (by kernel_rfl) (by intro j b oj dj h1 h2 h3; cases h1; cases h2; cases h3; decide) ?_
  refine Al_st (St_gd [12] rfl rfl rfl rfl ⟨⟨_, rfl⟩, trivial⟩ (fun hg13 => Pu_cmp rfl rfl rfl rfl)) rfl (by decide) (by kernel_rfl) (by intro j b oj dj h1 h2 h3; cases h1; cases h2; cases h3; decide) ?_
  refine Al_pu (Pu_or rfl rfl rfl rfl) rfl rfl (by decide) (by kernel_rfl) ?_
  refine Al_nil ?_
  refine Aw_cond rfl (fun h14 => ?_) (fun h14 => ?_)
  · skip
    exfalso
    simp only [Bool.or_eq_true, decide_eq_true_eq] at h14
    omega
  · skip
    refine Aw_skip ?_
    refine Aw_seq ?_
    refine Aw_region ?_
    refine Al_pu (Pu_move (.inr rfl) (by conv => lhs; whnf)) rfl rfl (by decide) (by kernel_rfl) ?_
    refine Al_nil ?_
    refine Aw_seq ?_
    refine Aw_seq ?_
    refine Aw_region ?_
    refine Al_pu (Pu_move (.inr rfl) (by conv => lhs; whnf)) rfl rfl (by decide) (by kernel_rfl) ?_
    refine Al_nil ?_
    refine Aw_block ?_
    refine Aw_loopk (ι := Nat) [0] [] (fun k => [(4, .d (iv k)), (3, .d (iv (if k = 0 then 0 else 1)))]) (fun k => []) (fun k => k ≤ p.length) (fun k => p.length - k) (0) (Nat.zero_le _) ⟨Sub.rfl, Sub.rfl, trivial⟩ trivial ?_
    rintro k hk0
    refine Aw_seq ?_
    refine Aw_seq ?_
    refine Aw_region ?_
    refine Al_pu (Pu_move (.inl rfl) (by conv => lhs; whnf)) rfl rfl (by decide) (by kernel_rfl) ?_
    refine Al_pu (Pu_move (.inl rfl) (by conv => lhs; whnf)) rfl rfl (by decide) (by kernel_rfl) ?_
    refine Al_pu (Pu_len rfl Try.underlying22 rfl (by first | exact List.length_map .. | exact rfl)) rfl rfl (by decide) (by kernel_rfl) ?_
    refine Al_pu (Pu_cmp rfl rfl rfl rfl) rfl rfl (by decide) (by kernel_rfl) ?_
    refine Al_nil ?_
    refine Aw_cond rfl (fun h18 => ?_) (fun h18 => ?_)
    · (try simp only [decide_eq_true_eq, decide_eq_false_iff_not, Bool.and_eq_true, Bool.or_eq_true, Bool.and_eq_false_iff, Bool.or_eq_false_iff, Bool.not_eq_true', Bool.not_eq_false', beq_iff_eq, Bool.not_eq_eq_eq_not, Bool.not_true, Bool.not_false, List.length_map, Bool.and_true, Bool.and_false, Bool.false_and, Bool.true_and, Bool.or_false, Bool.false_or] at h18)
      have hk : k < p.length := by omega
      have hat := T.ahead_at hp hk
      refine Aw_skip ?_
      refine Aw_join (ι := Unit) [0, 4] [] (fun _ => [(3, .d (iv 1))]) (fun _ => []) (fun _ => True) ?_ ?_ -- join 0
      · refine Aw_block ?_
        refine Aw_seq ?_
        refine Aw_seq ?_
        refine Aw_region ?_
        refine Al_pu (Pu_move (.inl rfl) (by conv => lhs; whnf)) rfl rfl (by decide) (by kernel_rfl) ?_
        refine Al_pu (Pu_move (.inl rfl) (by conv => lhs; whnf)) rfl rfl (by decide) (by kernel_rfl) ?_
        refine Al_pu (Pu_index rfl Try.underlying22 Try.sizeOf3 rfl rfl (rfl) (mapget hk)) rfl rfl (by decide) (by kernel_rfl) ?_
        refine Al_pu (Pu_load1 rfl Try.isAgg3 rfl rfl) rfl rfl (by decide) (by kernel_rfl) ?_
        refine Al_pu (Pu_cmp rfl rfl rfl rfl) rfl rfl (by decide) (by kernel_rfl) ?_
        refine Al_pu (Pu_move (.inl rfl) (by conv => lhs; whnf)) rfl rfl (by decide) (by kernel_rfl) ?_
        refine Al_st (St_gd [] rfl rfl rfl rfl trivial (fun hg27 => by exact Pu_move (.inl rfl) (by conv => lhs; whnf))) rfl (by decide) (by kernel_rfl) (by intro j b oj dj h1 h2 h3; cases h1; cases h2; cases h3; decide) ?_
        refine Al_st (St_gd [] rfl rfl rfl rfl trivial (fun hg28 => by exact Pu_move (.inl rfl) (by conv => lhs; whnf))) rfl (by decide) (by kernel_rfl) (by intro j b oj dj h1 h2 h3; cases h1; cases h2; cases h3; decide) ?_
        refine Al_st (St_gd [27, 28] rfl rfl rfl rfl ⟨⟨_, rfl⟩, ⟨_, rfl⟩, trivial⟩ (fun hg29 => Pu_index rfl Try.underlying22 Try.sizeOf3 rfl rfl (rfl) (mapget hk))) rfl (by decide) (by kernel_rfl) (by intro j b oj dj h1 h2 h3; cases h1; cases h2; cases h3; decide) ?_
        refine Al_st (St_gd [29] rfl rfl rfl rfl ⟨⟨_, rfl⟩, trivial⟩ (fun hg30 => Pu_load1 rfl Try.isAgg3 rfl rfl)) rfl (by decide) (by kernel_rfl) (by intro j b oj dj h1 h2 h3; cases h1; cases h2; cases h3; decide) ?_
        refine Al_st (St_gd [] rfl rfl rfl rfl trivial (fun hg31 => by exact Pu_move (.inl rfl) (by conv => lhs; whnf))) rfl (by decide) (by kernel_rfl) (by intro j b oj dj h1 h2 h3; cases h1; cases h2; cases h3; decide) ?_
        refine Al_st (St_gd [31] rfl rfl rfl rfl ⟨⟨_, rfl⟩, trivial⟩ (fun hg32 => by exact Pu_len rfl Try.underlying22 rfl (by first | exact List.length_map .. | exact rfl))) rfl (by decide) (by kernel_rfl) (by intro j b oj dj h1 h2 h3; cases h1; cases h2; cases h3; decide) ?_
        refine Al_st (St_gd [30, 32] rfl rfl rfl rfl ⟨⟨_, rfl⟩, ⟨_, rfl⟩, trivial⟩ (fun hg33 => Pu_cmp rfl rfl rfl rfl)) rfl (by decide) (by kernel_rfl) (by intro j b oj dj h1 h2 h3; cases h1; cases h2; cases h3; decide) ?_
        refine Al_pu (Pu_or rfl rfl rfl rfl) rfl rfl (by decide) (by kernel_rfl) ?_
        refine Al_nil ?_
        refine Aw_cond rfl (fun h34 => ?_) (fun h34 => ?_)
        · skip
          exfalso
          simp only [Bool.or_eq_true, decide_eq_true_eq] at h34
          omega
        · skip
          refine Aw_skip ?_
          -- join 1: live [0, 3, 4], turned [3]
          refine Aw_seq ?_
          refine Aw_seq ?_
          refine Aw_region ?_
          refine Al_pu (Pu_move (.inl rfl) (by conv => lhs; whnf)) rfl rfl (by decide) (by kernel_rfl) ?_
          refine Al_pu (Pu_move (.inl rfl) (by conv => lhs; whnf)) rfl rfl (by decide) (by kernel_rfl) ?_
          refine Al_pu (Pu_index rfl Try.underlying22 Try.sizeOf3 rfl rfl (rfl) (mapget hk)) rfl rfl (by decide) (by kernel_rfl) ?_
          refine Al_pu (Pu_load1 rfl Try.isAgg3 rfl rfl) rfl rfl (by decide) (by kernel_rfl) ?_
          refine Al_pu (Pu_cmp rfl rfl rfl rfl) rfl rfl (by decide) (by kernel_rfl) ?_
          refine Al_nil ?_
          refine Aw_cond rfl (fun h39 => ?_) (fun h39 => ?_)
          · (try simp only [decide_eq_true_eq, decide_eq_false_iff_not, Bool.and_eq_true, Bool.or_eq_true, Bool.and_eq_false_iff, Bool.or_eq_false_iff, Bool.not_eq_true', Bool.not_eq_false', beq_iff_eq, Bool.not_eq_eq_eq_not, Bool.not_true, Bool.not_false, List.length_map, Bool.and_true, Bool.and_false, Bool.false_and, Bool.true_and, Bool.or_false, Bool.false_or] at h39)
            refine Aw_region ?_
            refine Al_pu (Pu_move (.inl rfl) (by conv => lhs; whnf)) rfl rfl (by decide) (by kernel_rfl) ?_
            refine Al_pu (Pu_add rfl rfl rfl (fun h1 h2 => by simp only [A.inI, A.maxI] at *; omega)) rfl rfl (by decide) (by kernel_rfl) ?_
            refine Al_pu (Pu_move (.inr rfl) (by conv => lhs; whnf)) rfl rfl (by decide) (by kernel_rfl) ?_
            refine Al_nil ?_
            refine Aw_seq ?_
            refine Aw_region ?_
            refine Al_pu (Pu_move (.inl rfl) (by conv => lhs; whnf)) rfl rfl (by decide) (by kernel_rfl) ?_
            refine Al_pu (Pu_move (.inr rfl) (by conv => lhs; whnf)) rfl rfl (by decide) (by kernel_rfl) ?_
            refine Al_nil ?_
            refine Aw_seq ?_
            refine Aw_seq ?_
            refine Aw_region ?_
            refine Al_pu (Pu_move (.inr rfl) (by conv => lhs; whnf)) rfl rfl (by decide) (by kernel_rfl) ?_
            refine Al_nil ?_
            refine Aw_block ?_
            refine Aw_loopk (ι := Nat × Int) [0, 3, 4] [] (fun (j, z) => [(6, .d (iv j)), (5, .d (iv z))]) (fun (j, z) => []) (fun (j, z) => j ≤ 7 ∧ (z = -1 ∨ (0 ≤ z ∧ z + j ≤ k))) (fun (j, z) => 7 - j) ((0, (k : Int))) (⟨Nat.zero_le _, .inr ⟨by omega, by simp⟩⟩) ⟨Sub.rfl, Sub.rfl, trivial⟩ trivial ?_
            rintro ⟨j, z⟩ ⟨hk1, hz⟩
            refine Aw_seq ?_
            refine Aw_seq ?_
            refine Aw_region ?_
            refine Al_pu (Pu_move (.inl rfl) (by conv => lhs; whnf)) rfl rfl (by decide) (by kernel_rfl) ?_
            refine Al_pu (Pu_cmp rfl rfl rfl rfl) rfl rfl (by decide) (by kernel_rfl) ?_
            refine Al_pu (Pu_move (.inl rfl) (by conv => lhs; whnf)) rfl rfl (by decide) (by kernel_rfl) ?_
            refine Al_st (St_gd [] rfl rfl rfl rfl trivial (fun hg46 => by exact Pu_move (.inl rfl) (by conv => lhs; whnf))) rfl (by decide) (by kernel_rfl) (by intro j b oj dj h1 h2 h3; cases h1; cases h2; cases h3; decide) ?_
            refine Al_st (St_gd [46] rfl rfl rfl rfl ⟨⟨_, rfl⟩, trivial⟩ (fun hg47 => Pu_cmp rfl rfl rfl rfl)) rfl (by decide) (by kernel_rfl) (by intro j b oj dj h1 h2 h3; cases h1; cases h2; cases h3; decide) ?_
            refine Al_pu (Pu_and rfl rfl rfl rfl) rfl rfl (by decide) (by kernel_rfl) ?_
            refine Al_nil ?_
            refine Aw_cond rfl (fun h48 => ?_) (fun h48 => ?_)
            · (try simp only [decide_eq_true_eq, decide_eq_false_iff_not, Bool.and_eq_true, Bool.or_eq_true, Bool.and_eq_false_iff, Bool.or_eq_false_iff, Bool.not_eq_true', Bool.not_eq_false', beq_iff_eq, Bool.not_eq_eq_eq_not, Bool.not_true, Bool.not_false, List.length_map, Bool.and_true, Bool.and_false, Bool.false_and, Bool.true_and, Bool.or_false, Bool.false_or] at h48)
              obtain ⟨h481, h482⟩ := h48
              obtain ⟨y, rfl⟩ : ∃ y : Nat, z = (y : Int) := ⟨z.toNat, by omega⟩
              have hy : y < p.length := by omega
              have hay := T.ahead_at hp hy
              refine Aw_skip ?_
              refine Aw_seq ?_
              refine Aw_block ?_
              refine Aw_seq ?_
              refine Aw_region ?_
              refine Al_pu (Pu_move (.inl rfl) (by conv => lhs; whnf)) rfl rfl (by decide) (by kernel_rfl) ?_
              refine Al_pu (Pu_move (.inl rfl) (by conv => lhs; whnf)) rfl rfl (by decide) (by kernel_rfl) ?_
              refine Al_pu (Pu_index rfl Try.underlying22 Try.sizeOf3 rfl rfl (rfl) (mapget hy)) rfl rfl (by decide) (by kernel_rfl) ?_
              refine Al_pu (Pu_load1 rfl Try.isAgg3 rfl rfl) rfl rfl (by decide) (by kernel_rfl) ?_
              refine Al_pu (Pu_move (.inr rfl) (by conv => lhs; whnf)) rfl rfl (by decide) (by kernel_rfl) ?_
              refine Al_nil ?_
              refine Aw_seq ?_
              refine Aw_region ?_
              refine Al_pu (Pu_move (.inl rfl) (by conv => lhs; whnf)) rfl rfl (by decide) (by kernel_rfl) ?_
              refine Al_pu (Pu_cmp rfl rfl rfl rfl) rfl rfl (by decide) (by kernel_rfl) ?_
              refine Al_pu (Pu_move (.inl rfl) (by conv => lhs; whnf)) rfl rfl (by decide) (by kernel_rfl) ?_
              refine Al_st (St_gd [] rfl rfl rfl rfl trivial (fun hg58 => by exact Pu_move (.inl rfl) (by conv => lhs; whnf))) rfl (by decide) (by kernel_rfl) (by intro j b oj dj h1 h2 h3; cases h1; cases h2; cases h3; decide) ?_
              refine Al_st (St_gd [] rfl rfl rfl rfl trivial (fun hg59 => by exact Pu_move (.inl rfl) (by conv => lhs; whnf))) rfl (by decide) (by kernel_rfl) (by intro j b oj dj h1 h2 h3; cases h1; cases h2; cases h3; decide) ?_
              refine Al_st (St_gd [59] rfl rfl rfl rfl ⟨⟨_, rfl⟩, trivial⟩ (fun hg60 => by exact Pu_len rfl Try.underlying22 rfl (by first | exact List.length_map .. | exact rfl))) rfl (by decide) (by kernel_rfl) (by intro j b oj dj h1 h2 h3; cases h1; cases h2; cases h3; decide) ?_
              refine Al_st (St_gd [58, 60] rfl rfl rfl rfl ⟨⟨_, rfl⟩, ⟨_, rfl⟩, trivial⟩ (fun hg61 => Pu_cmp rfl rfl rfl rfl)) rfl (by decide) (by kernel_rfl) (by intro j b oj dj h1 h2 h3; cases h1; cases h2; cases h3; decide) ?_
              refine Al_pu (Pu_or rfl rfl rfl rfl) rfl rfl (by decide) (by kernel_rfl) ?_
              refine Al_nil ?_
              refine Aw_cond rfl (fun h62 => ?_) (fun h62 => ?_)
              · skip
                exfalso
                simp only [Bool.or_eq_true, decide_eq_true_eq] at h62
                omega
              · skip
                refine Aw_skip ?_
                refine Aw_region ?_
                refine Al_pu (Pu_move (.inl rfl) (by conv => lhs; whnf)) rfl rfl (by decide) (by kernel_rfl) ?_
                refine Al_pu (Pu_add rfl rfl rfl (fun h1 h2 => by simp only [A.inI, A.maxI] at *; omega)) rfl rfl (by decide) (by kernel_rfl) ?_
                refine Al_pu (Pu_move (.inr rfl) (by conv => lhs; whnf)) rfl rfl (by decide) (by kernel_rfl) ?_
                refine Al_nil ?_
                exact ⟨(j + 1, p[y]), ⟨by omega, by omega⟩, by simp only []; omega, Le.ov ⟨Sub.num (by omega), Sub.rfl, trivial⟩ ⟨Sub.rfl, Sub.rfl, Sub.rfl, trivial⟩ trivial trivial⟩ -- loop 1 next.0
            · (try simp only [decide_eq_true_eq, decide_eq_false_iff_not, Bool.and_eq_true, Bool.or_eq_true, Bool.and_eq_false_iff, Bool.or_eq_false_iff, Bool.not_eq_true', Bool.not_eq_false', beq_iff_eq, Bool.not_eq_eq_eq_not, Bool.not_true, Bool.not_false, List.length_map, Bool.and_true, Bool.and_false, Bool.false_and, Bool.true_and, Bool.or_false, Bool.false_or] at h48)
              have hz1 : z = -1 := by omega
              refine Aw_exit ?_
              refine Aw_seq ?_
              refine Aw_region ?_
              refine Al_pu (Pu_move (.inl rfl) (by conv => lhs; whnf)) rfl rfl (by decide) (by kernel_rfl) ?_
              refine Al_pu (Pu_cmp rfl rfl rfl rfl) rfl rfl (by decide) (by kernel_rfl) ?_
              refine Al_nil ?_
              refine Aw_cond rfl (fun h64 => ?_) (fun h64 => ?_)
              · (try simp only [decide_eq_true_eq, decide_eq_false_iff_not, Bool.and_eq_true, Bool.or_eq_true, Bool.and_eq_false_iff, Bool.or_eq_false_iff, Bool.not_eq_true', Bool.not_eq_false', beq_iff_eq, Bool.not_eq_eq_eq_not, Bool.not_true, Bool.not_false, List.length_map, Bool.and_true, Bool.and_false, Bool.false_and, Bool.true_and, Bool.or_false, Bool.false_or] at h64)
                exfalso; simp [hz1] at h64
              · (try simp only [decide_eq_true_eq, decide_eq_false_iff_not, Bool.and_eq_true, Bool.or_eq_true, Bool.and_eq_false_iff, Bool.or_eq_false_iff, Bool.not_eq_true', Bool.not_eq_false', beq_iff_eq, Bool.not_eq_eq_eq_not, Bool.not_true, Bool.not_false, List.length_map, Bool.and_true, Bool.and_false, Bool.false_and, Bool.true_and, Bool.or_false, Bool.false_or] at h64)
                refine Aw_skip ?_
                exact ⟨(), trivial, Le.ov ⟨Sub.num (by rw [if_pos (by omega : k = 0)]; rfl), trivial⟩ ⟨Sub.rfl, Sub.rfl, trivial⟩ trivial trivial⟩ -- join 0 next.0
          · (try simp only [decide_eq_true_eq, decide_eq_false_iff_not, Bool.and_eq_true, Bool.or_eq_true, Bool.and_eq_false_iff, Bool.or_eq_false_iff, Bool.not_eq_true', Bool.not_eq_false', beq_iff_eq, Bool.not_eq_eq_eq_not, Bool.not_true, Bool.not_false, List.length_map, Bool.and_true, Bool.and_false, Bool.false_and, Bool.true_and, Bool.or_false, Bool.false_or] at h39)
            refine Aw_skip ?_
            refine Aw_seq ?_
            refine Aw_region ?_
            refine Al_pu (Pu_move (.inl rfl) (by conv => lhs; whnf)) rfl rfl (by decide) (by kernel_rfl) ?_
            refine Al_pu (Pu_move (.inr rfl) (by conv => lhs; whnf)) rfl rfl (by decide) (by kernel_rfl) ?_
            refine Al_nil ?_
            refine Aw_seq ?_
            refine Aw_seq ?_
            refine Aw_region ?_
            refine Al_pu (Pu_move (.inr rfl) (by conv => lhs; whnf)) rfl rfl (by decide) (by kernel_rfl) ?_
            refine Al_nil ?_
            refine Aw_block ?_
            refine Aw_loopk (ι := Nat × Int) [0, 3, 4] [] (fun (j, z) => [(6, .d (iv j)), (5, .d (iv z))]) (fun (j, z) => []) (fun (j, z) => j ≤ 7 ∧ (z = -1 ∨ (0 ≤ z ∧ z + j ≤ k))) (fun (j, z) => 7 - j) ((0, (k : Int))) (⟨Nat.zero_le _, .inr ⟨by omega, by simp⟩⟩) ⟨Sub.rfl, Sub.rfl, trivial⟩ trivial ?_
            rintro ⟨j, z⟩ ⟨hk1, hz⟩
            refine Aw_seq ?_
            refine Aw_seq ?_
            refine Aw_region ?_
            refine Al_pu (Pu_move (.inl rfl) (by conv => lhs; whnf)) rfl rfl (by decide) (by kernel_rfl) ?_
            refine Al_pu (Pu_cmp rfl rfl rfl rfl) rfl rfl (by decide) (by kernel_rfl) ?_
            refine Al_pu (Pu_move (.inl rfl) (by conv => lhs; whnf)) rfl rfl (by decide) (by kernel_rfl) ?_
            refine Al_st (St_gd [] rfl rfl rfl rfl trivial (fun hg46 => by exact Pu_move (.inl rfl) (by conv => lhs; whnf))) rfl (by decide) (by kernel_rfl) (by intro j b oj dj h1 h2 h3; cases h1; cases h2; cases h3; decide) ?_
            refine Al_st (St_gd [46] rfl rfl rfl rfl ⟨⟨_, rfl⟩, trivial⟩ (fun hg47 => Pu_cmp rfl rfl rfl rfl)) rfl (by decide) (by kernel_rfl) (by intro j b oj dj h1 h2 h3; cases h1; cases h2; cases h3; decide) ?_
            refine Al_pu (Pu_and rfl rfl rfl rfl) rfl rfl (by decide) (by kernel_rfl) ?_
            refine Al_nil ?_
            refine Aw_cond rfl (fun h48 => ?_) (fun h48 => ?_)
            · (try simp only [decide_eq_true_eq, decide_eq_false_iff_not, Bool.and_eq_true, Bool.or_eq_true, Bool.and_eq_false_iff, Bool.or_eq_false_iff, Bool.not_eq_true', Bool.not_eq_false', beq_iff_eq, Bool.not_eq_eq_eq_not, Bool.not_true, Bool.not_false, List.length_map, Bool.and_true, Bool.and_false, Bool.false_and, Bool.true_and, Bool.or_false, Bool.false_or] at h48)
              obtain ⟨h481, h482⟩ := h48
              obtain ⟨y, rfl⟩ : ∃ y : Nat, z = (y : Int) := ⟨z.toNat, by omega⟩
              have hy : y < p.length := by omega
              have hay := T.ahead_at hp hy
              refine Aw_skip ?_
              refine Aw_seq ?_
              refine Aw_block ?_
              refine Aw_seq ?_
              refine Aw_region ?_
              refine Al_pu (Pu_move (.inl rfl) (by conv => lhs; whnf)) rfl rfl (by decide) (by kernel_rfl) ?_
              refine Al_pu (Pu_move (.inl rfl) (by conv => lhs; whnf)) rfl rfl (by decide) (by kernel_rfl) ?_
              refine Al_pu (Pu_index rfl Try.underlying22 Try.sizeOf3 rfl rfl (rfl) (mapget hy)) rfl rfl (by decide) (by kernel_rfl) ?_
              refine Al_pu (Pu_load1 rfl Try.isAgg3 rfl rfl) rfl rfl (by decide) (by kernel_rfl) ?_
              refine Al_pu (Pu_move (.inr rfl) (by conv => lhs; whnf)) rfl rfl (by decide) (by kernel_rfl) ?_
              refine Al_nil ?_
              refine Aw_seq ?_
              refine Aw_region ?_
              refine Al_pu (Pu_move (.inl rfl) (by conv => lhs; whnf)) rfl rfl (by decide) (by kernel_rfl) ?_
              refine Al_pu (Pu_cmp rfl rfl rfl rfl) rfl rfl (by decide) (by kernel_rfl) ?_
              refine Al_pu (Pu_move (.inl rfl) (by conv => lhs; whnf)) rfl rfl (by decide) (by kernel_rfl) ?_
              refine Al_st (St_gd [] rfl rfl rfl rfl trivial (fun hg58 => by exact Pu_move (.inl rfl) (by conv => lhs; whnf))) rfl (by decide) (by kernel_rfl) (by intro j b oj dj h1 h2 h3; cases h1; cases h2; cases h3; decide) ?_
              refine Al_st (St_gd [] rfl rfl rfl rfl trivial (fun hg59 => by exact Pu_move (.inl rfl) (by conv => lhs; whnf))) rfl (by decide) (by kernel_rfl) (by intro j b oj dj h1 h2 h3; cases h1; cases h2; cases h3; decide) ?_
              refine Al_st (St_gd [59] rfl rfl rfl rfl ⟨⟨_, rfl⟩, trivial⟩ (fun hg60 => by exact Pu_len rfl Try.underlying22 rfl (by first | exact List.length_map .. | exact rfl))) rfl (by decide) (by kernel_rfl) (by intro j b oj dj h1 h2 h3; cases h1; cases h2; cases h3; decide) ?_
              refine Al_st (St_gd [58, 60] rfl rfl rfl rfl ⟨⟨_, rfl⟩, ⟨_, rfl⟩, trivial⟩ (fun hg61 => Pu_cmp rfl rfl rfl rfl)) rfl (by decide) (by kernel_rfl) (by intro j b oj dj h1 h2 h3; cases h1; cases h2; cases h3; decide) ?_
              refine Al_pu (Pu_or rfl rfl rfl rfl) rfl rfl (by decide) (by kernel_rfl) ?_
              refine Al_nil ?_
              refine Aw_cond rfl (fun h62 => ?_) (fun h62 => ?_)
              · skip
                exfalso
                simp only [Bool.or_eq_true, decide_eq_true_eq] at h62
                omega
              · skip
                refine Aw_skip ?_
                refine Aw_region ?_
                refine Al_pu (Pu_move (.inl rfl) (by conv => lhs; whnf)) rfl rfl (by decide) (by kernel_rfl) ?_
                refine Al_pu (Pu_add rfl rfl rfl (fun h1 h2 => by simp only [A.inI, A.maxI] at *; omega)) rfl rfl (by decide) (by kernel_rfl) ?_
                refine Al_pu (Pu_move (.inr rfl) (by conv => lhs; whnf)) rfl rfl (by decide) (by kernel_rfl) ?_
                refine Al_nil ?_
                exact ⟨(j + 1, p[y]), ⟨by omega, by omega⟩, by simp only []; omega, Le.ov ⟨Sub.num (by omega), Sub.rfl, trivial⟩ ⟨Sub.rfl, Sub.rfl, Sub.rfl, trivial⟩ trivial trivial⟩ -- loop 1 next.0
            · (try simp only [decide_eq_true_eq, decide_eq_false_iff_not, Bool.and_eq_true, Bool.or_eq_true, Bool.and_eq_false_iff, Bool.or_eq_false_iff, Bool.not_eq_true', Bool.not_eq_false', beq_iff_eq, Bool.not_eq_eq_eq_not, Bool.not_true, Bool.not_false, List.length_map, Bool.and_true, Bool.and_false, Bool.false_and, Bool.true_and, Bool.or_false, Bool.false_or] at h48)
              have hz1 : z = -1 := by omega
              refine Aw_exit ?_
              refine Aw_seq ?_
              refine Aw_region ?_
              refine Al_pu (Pu_move (.inl rfl) (by conv => lhs; whnf)) rfl rfl (by decide) (by kernel_rfl) ?_
              refine Al_pu (Pu_cmp rfl rfl rfl rfl) rfl rfl (by decide) (by kernel_rfl) ?_
              refine Al_nil ?_
              refine Aw_cond rfl (fun h64 => ?_) (fun h64 => ?_)
              · (try simp only [decide_eq_true_eq, decide_eq_false_iff_not, Bool.and_eq_true, Bool.or_eq_true, Bool.and_eq_false_iff, Bool.or_eq_false_iff, Bool.not_eq_true', Bool.not_eq_false', beq_iff_eq, Bool.not_eq_eq_eq_not, Bool.not_true, Bool.not_false, List.length_map, Bool.and_true, Bool.and_false, Bool.false_and, Bool.true_and, Bool.or_false, Bool.false_or] at h64)
                exfalso; simp [hz1] at h64
              · (try simp only [decide_eq_true_eq, decide_eq_false_iff_not, Bool.and_eq_true, Bool.or_eq_true, Bool.and_eq_false_iff, Bool.or_eq_false_iff, Bool.not_eq_true', Bool.not_eq_false', beq_iff_eq, Bool.not_eq_eq_eq_not, Bool.not_true, Bool.not_false, List.length_map, Bool.and_true, Bool.and_false, Bool.false_and, Bool.true_and, Bool.or_false, Bool.false_or] at h64)
                refine Aw_skip ?_
                exact ⟨(), trivial, Le.ov ⟨Sub.num (by rw [if_neg (by omega : ¬ k = 0)]), trivial⟩ ⟨Sub.rfl, Sub.rfl, trivial⟩ trivial trivial⟩ -- join 0 next.1
      · rintro _ hj0
        refine Aw_region ?_
        refine Al_pu (Pu_move (.inl rfl) (by conv => lhs; whnf)) rfl rfl (by decide) (by kernel_rfl) ?_
        refine Al_pu (Pu_add rfl rfl rfl (fun h1 h2 => by simp only [A.inI, A.maxI] at *; omega)) rfl rfl (by decide) (by kernel_rfl) ?_
        refine Al_pu (Pu_move (.inr rfl) (by conv => lhs; whnf)) rfl rfl (by decide) (by kernel_rfl) ?_
        refine Al_nil ?_
        exact ⟨k + 1, by omega, by omega, Le.ov ⟨Sub.num (by omega), Sub.num (by rw [if_neg (by omega)]), trivial⟩ ⟨Sub.rfl, trivial⟩ trivial trivial⟩ -- loop 0 next.0
    · (try simp only [decide_eq_true_eq, decide_eq_false_iff_not, Bool.and_eq_true, Bool.or_eq_true, Bool.and_eq_false_iff, Bool.or_eq_false_iff, Bool.not_eq_true', Bool.not_eq_false', beq_iff_eq, Bool.not_eq_eq_eq_not, Bool.not_true, Bool.not_false, List.length_map, Bool.and_true, Bool.and_false, Bool.false_and, Bool.true_and, Bool.or_false, Bool.false_or] at h18)
      have hkk : ¬ k = 0 := by omega
      rw [if_neg hkk]
      refine Aw_exit ?_
      refine Aw_seq ?_
      refine Aw_region ?_
      refine Al_pu (Pu_move (.inl rfl) (by conv => lhs; whnf)) rfl rfl (by decide) (by kernel_rfl) ?_
      refine Al_pu (Pu_cmp rfl rfl rfl rfl) rfl rfl (by decide) (by kernel_rfl) ?_
      refine Al_pu (Pu_move (.inr rfl) (by conv => lhs; whnf)) rfl rfl (by decide) (by kernel_rfl) ?_
      refine Al_nil ?_
      refine Aw_ret ?_
      exact Sub.bool (by simp) -- ret 0
end Go.Proofs.Ytfalbocgnmlncaa
