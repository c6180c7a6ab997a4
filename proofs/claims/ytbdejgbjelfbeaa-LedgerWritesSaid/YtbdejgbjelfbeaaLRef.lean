/- The reference's ledger: last, has, key, part, over abstract states. -/
import Derived.Test.YtbdejgbjelfbeaaAEv
set_option linter.unusedSimpArgs false
set_option linter.unusedVariables false
namespace Go.Proofs.Ytbdejgbjelfbeaa
open Go.RowKit A
instance : DecidableEq Dep := fun a b => decidable_of_iff (a.key = b.key ∧ a.n = b.n ∧ a.s = b.s) (by cases a; cases b; simp)
namespace L
/-- What the last event of a client ahead of a place had seen. -/
def lastS (l : List Event) (c : Int) : Nat → List Dep
  | 0 => []
  | k + 1 => if h : k < l.length then (if l[k].client = c then l[k].seen else lastS l c k) else []
def keyB (l : List Dep) (k : ByteArray) : Bool := l.any fun d => d.key.toList == k.toList
end L
set_option maxRecDepth 100000 in
theorem rlast_a (l : List Event) (i : Nat) (hi : i < l.length) : ACall Try.prog 39 [.sl 6 (l.map Event.row), iv i] (.sl 3 ((L.lastS l l[i].client i).map Dep.row)) := by
  refine ACall_enter (fun _ _ => by kernel_rfl) Try.func39 rfl Try.ntmps39 Try.results39 (Nat.le_of_ble_eq_true rfl) (fun hok M0 w0 => ?_)
  refine Aw_seq ?_
  refine Aw_region ?_
  refine Al_pu (Pu_move (.inr rfl) (by conv => lhs; whnf)) rfl rfl (by decide) (by kernel_rfl) ?_
  refine Al_nil ?_
  refine Aw_seq ?_
  refine Aw_seq ?_
  refine Aw_region ?_
  refine Al_pu (Pu_move (.inl rfl) (by conv => lhs; whnf)) rfl rfl (by decide) (by kernel_rfl) ?_
  refine Al_pu (Pu_sub rfl rfl rfl (fun h1 h2 => by simp only [A.inI, A.maxI] at *; omega)) rfl rfl (by decide) (by kernel_rfl) ?_
  refine Al_pu (Pu_move (.inr rfl) (by conv => lhs; whnf)) rfl rfl (by decide) (by kernel_rfl) ?_
  refine Al_nil ?_
  refine Aw_block ?_
  refine Aw_loopk (ι := Nat) [0, 1] [] (fun k => [(5, .d (iv ((k : Int) - 1)))]) (fun k => []) (fun k => k ≤ i ∧ L.lastS l l[i].client k = L.lastS l l[i].client i) (fun k => k) (i) (⟨Nat.le_refl _, rfl⟩) ⟨Sub.rfl, trivial⟩ trivial ?_
  rintro k ⟨hk, he⟩
  refine Aw_seq ?_
  refine Aw_seq ?_
  refine Aw_region ?_
  refine Al_pu (Pu_move (.inl rfl) (by conv => lhs; whnf)) rfl rfl (by decide) (by kernel_rfl) ?_
  refine Al_pu (Pu_cmp rfl rfl rfl rfl) rfl rfl (by decide) (by kernel_rfl) ?_
  refine Al_nil ?_
  refine Aw_cond rfl (fun h9 => ?_) (fun h9 => ?_)
  · (try simp only [decide_eq_true_eq, decide_eq_false_iff_not, Bool.and_eq_true, Bool.or_eq_true, Bool.and_eq_false_iff, Bool.or_eq_false_iff, Bool.not_eq_true', Bool.not_eq_false', beq_iff_eq, Bool.not_eq_eq_eq_not, Bool.not_true, Bool.not_false, List.length_map, Bool.and_true, Bool.and_false, Bool.false_and, Bool.true_and, Bool.or_false, Bool.false_or] at h9)
    obtain ⟨k, rfl⟩ : ∃ j, k = j + 1 := ⟨k - 1, by omega⟩
    have hkl : k < l.length := by omega
    refine Aw_skip ?_
    refine Aw_seq ?_
    refine Aw_block ?_
    refine Aw_seq ?_
    refine Aw_draw 11 (by kernel_rfl) (by kernel_rfl) ?_
    refine Dr_pu (Pu_move (.inl rfl) (by conv => lhs; whnf)) rfl rfl ?_
    refine Dr_pu (Pu_move (.inl rfl) (by conv => lhs; whnf)) rfl rfl ?_
    refine Dr_pu (Pu_index rfl Try.underlying22 Try.sizeOf29 rfl rfl ((show (((k + 1 : Nat) : Int) - 1) = (k : Int) by omega)) (mapget hkl)) rfl rfl ?_
    refine Dr_pu (Pu_field 1 rfl Try.underlying29 rfl rfl Try.sizeOf3 rfl) rfl rfl ?_
    refine Dr_pu (Pu_load1 rfl Try.isAgg3 rfl rfl) rfl rfl ?_
    refine Dr_pu (Pu_move (.inl rfl) (by conv => lhs; whnf)) rfl rfl ?_
    refine Dr_pu (Pu_move (.inl rfl) (by conv => lhs; whnf)) rfl rfl ?_
    refine Dr_pu (Pu_index rfl Try.underlying22 Try.sizeOf29 rfl rfl (rfl) (mapget hi)) rfl rfl ?_
    refine Dr_pu (Pu_field 1 rfl Try.underlying29 rfl rfl Try.sizeOf3 rfl) rfl rfl ?_
    refine Dr_pu (Pu_load1 rfl Try.isAgg3 rfl rfl) rfl rfl ?_
    refine Dr_pu (Pu_cmp rfl rfl rfl rfl) rfl rfl ?_
    refine Dr_nil ?_
    refine Al_nil ?_
    refine Aw_cond rfl (fun h22 => ?_) (fun h22 => ?_)
    · (try simp only [decide_eq_true_eq, decide_eq_false_iff_not, Bool.and_eq_true, Bool.or_eq_true, Bool.and_eq_false_iff, Bool.or_eq_false_iff, Bool.not_eq_true', Bool.not_eq_false', beq_iff_eq, Bool.not_eq_eq_eq_not, Bool.not_true, Bool.not_false, List.length_map, Bool.and_true, Bool.and_false, Bool.false_and, Bool.true_and, Bool.or_false, Bool.false_or] at h22)
      refine Aw_seq ?_
      refine Aw_region ?_
      refine Al_pu (Pu_move (.inl rfl) (by conv => lhs; whnf)) rfl rfl (by decide) (by kernel_rfl) ?_
      refine Al_pu (Pu_move (.inl rfl) (by conv => lhs; whnf)) rfl rfl (by decide) (by kernel_rfl) ?_
      refine Al_pu (Pu_index rfl Try.underlying22 Try.sizeOf29 rfl rfl ((show (((k + 1 : Nat) : Int) - 1) = (k : Int) by omega)) (mapget hkl)) rfl rfl (by decide) (by kernel_rfl) ?_
      refine Al_pu (Pu_field 5 rfl Try.underlying29 rfl rfl Try.sizeOf27 rfl) rfl rfl (by decide) (by kernel_rfl) ?_
      refine Al_pu (Pu_load1 rfl Try.isAgg27 rfl rfl) rfl rfl (by decide) (by kernel_rfl) ?_
      refine Al_pu (Pu_move (.inr rfl) (by conv => lhs; whnf)) rfl rfl (by decide) (by kernel_rfl) ?_
      refine Al_nil ?_
      refine Aw_ret ?_
      exact Sub.d (by rw [← he, L.lastS, dif_pos hkl, if_pos h22]) -- ret 0
    · (try simp only [decide_eq_true_eq, decide_eq_false_iff_not, Bool.and_eq_true, Bool.or_eq_true, Bool.and_eq_false_iff, Bool.or_eq_false_iff, Bool.not_eq_true', Bool.not_eq_false', beq_iff_eq, Bool.not_eq_eq_eq_not, Bool.not_true, Bool.not_false, List.length_map, Bool.and_true, Bool.and_false, Bool.false_and, Bool.true_and, Bool.or_false, Bool.false_or] at h22)
      refine Aw_skip ?_
      refine Aw_region ?_
      refine Al_pu (Pu_move (.inl rfl) (by conv => lhs; whnf)) rfl rfl (by decide) (by kernel_rfl) ?_
      refine Al_pu (Pu_sub rfl rfl rfl (fun h1 h2 => by simp only [A.inI, A.maxI] at *; omega)) rfl rfl (by decide) (by kernel_rfl) ?_
      refine Al_pu (Pu_move (.inr rfl) (by conv => lhs; whnf)) rfl rfl (by decide) (by kernel_rfl) ?_
      refine Al_nil ?_
      exact ⟨k, ⟨by omega, by rw [← he, L.lastS, dif_pos hkl, if_neg h22]⟩, by omega, Le.ov ⟨Sub.num (by omega), trivial⟩ ⟨Sub.rfl, Sub.rfl, trivial⟩ trivial trivial⟩ -- loop 0 next.0
  · (try simp only [decide_eq_true_eq, decide_eq_false_iff_not, Bool.and_eq_true, Bool.or_eq_true, Bool.and_eq_false_iff, Bool.or_eq_false_iff, Bool.not_eq_true', Bool.not_eq_false', beq_iff_eq, Bool.not_eq_eq_eq_not, Bool.not_true, Bool.not_false, List.length_map, Bool.and_true, Bool.and_false, Bool.false_and, Bool.true_and, Bool.or_false, Bool.false_or] at h9)
    obtain rfl : k = 0 := by omega
    refine Aw_exit ?_
    refine Aw_seq ?_
    refine Aw_region ?_
    refine Al_pu (Pu_move (.inr rfl) (by conv => lhs; whnf)) rfl rfl (by decide) (by kernel_rfl) ?_
    refine Al_nil ?_
    refine Aw_ret ?_
    rw [show L.lastS l l[i].client i = [] from by rw [← he]; rfl]; exact Sub.nil -- ret 1
namespace L
def hasD (l : List Dep) (d : Dep) : Bool := l.any fun x => decide (x = d)
theorem any_step {α : Type} (p : α → Bool) (l : List α) {k : Nat} (h : k < l.length) : (l.drop k).any p = (p l[k] || (l.drop (k + 1)).any p) := by
  rw [List.drop_eq_getElem_cons h, List.any_cons]
theorem any_end {α : Type} (p : α → Bool) (l : List α) : (l.drop l.length).any p = false := by rw [List.drop_length]; rfl
end L
theorem byte_beq (a b : ByteArray) : (a == b) = decide (a = b) := by
  rw [beq_toListBytes, Bool.eq_iff_iff]
  simp only [beq_iff_eq, decide_eq_true_eq]
  exact ⟨fun h => by rw [← V.ba_data a, ← V.ba_data b, ← ByteArray.toList_eq, ← ByteArray.toList_eq, h], fun h => h ▸ rfl⟩
theorem dep_eqB (x d : Dep) : ((x.key.toList == d.key.toList) && ((x.n == d.n) && (x.s == d.s))) = decide (x = d) := by
  have hk : (x.key.toList == d.key.toList) = decide (x.key = d.key) := by rw [← beq_toListBytes]; exact byte_beq _ _
  rw [hk]
  cases x; cases d
  rw [Bool.eq_iff_iff]
  simp only [Bool.and_eq_true, beq_iff_eq, decide_eq_true_eq, Dep.mk.injEq]
set_option maxRecDepth 100000 in
theorem rhas_a (l : List Dep) (d : Dep) : ACall Try.prog 66 [.sl 3 (l.map Dep.row), .row d.row] (bv (L.hasD l d)) := by
  refine ACall_enter (fun _ _ => by kernel_rfl) Try.func66 rfl Try.ntmps66 Try.results66 (Nat.le_of_ble_eq_true rfl) (fun hok M0 w0 => ?_)
  have hlen := (hok _ (List.mem_cons_self ..)).len
  rw [List.length_map] at hlen
  refine Aw_seq ?_
  refine Aw_region ?_
  refine Al_pu (Pu_boxN rfl rfl) rfl rfl (by decide) (by kernel_rfl) ?_
  refine Al_pu (Pu_move (.inr rfl) (by conv => lhs; whnf)) rfl rfl (by decide) (by kernel_rfl) ?_
  refine Al_nil ?_
  refine Aw_seq ?_
  refine Aw_seq ?_
  refine Aw_region ?_
  refine Al_pu (Pu_move (.inr rfl) (by conv => lhs; whnf)) rfl rfl (by decide) (by kernel_rfl) ?_
  refine Al_nil ?_
  refine Aw_block ?_
  refine Aw_loopk (ι := Nat) [0, 3] [] (fun k => [(5, .d (iv k))]) (fun k => []) (fun k => k ≤ l.length ∧ L.hasD l d = (l.drop k).any fun x => decide (x = d)) (fun k => l.length - k) (0) (⟨Nat.zero_le _, rfl⟩) ⟨Sub.rfl, trivial⟩ trivial ?_
  rintro k ⟨hk0, he⟩
  refine Aw_seq ?_
  refine Aw_seq ?_
  refine Aw_region ?_
  refine Al_pu (Pu_move (.inl rfl) (by conv => lhs; whnf)) rfl rfl (by decide) (by kernel_rfl) ?_
  refine Al_pu (Pu_move (.inl rfl) (by conv => lhs; whnf)) rfl rfl (by decide) (by kernel_rfl) ?_
  refine Al_pu (Pu_len rfl Try.underlying27 rfl (by first | exact List.length_map .. | exact rfl)) rfl rfl (by decide) (by kernel_rfl) ?_
  refine Al_pu (Pu_cmp rfl rfl rfl rfl) rfl rfl (by decide) (by kernel_rfl) ?_
  refine Al_nil ?_
  refine Aw_cond rfl (fun h9 => ?_) (fun h9 => ?_)
  · (try simp only [decide_eq_true_eq, decide_eq_false_iff_not, Bool.and_eq_true, Bool.or_eq_true, Bool.and_eq_false_iff, Bool.or_eq_false_iff, Bool.not_eq_true', Bool.not_eq_false', beq_iff_eq, Bool.not_eq_eq_eq_not, Bool.not_true, Bool.not_false, List.length_map, Bool.and_true, Bool.and_false, Bool.false_and, Bool.true_and, Bool.or_false, Bool.false_or] at h9)
    refine Aw_skip ?_
    refine Aw_seq ?_
    refine Aw_block ?_
    refine Aw_seq ?_
    refine Aw_draw 6 (by kernel_rfl) (by kernel_rfl) ?_
    refine Dr_pu (Pu_move (.inl rfl) (by conv => lhs; whnf)) rfl rfl ?_
    refine Dr_pu (Pu_move (.inl rfl) (by conv => lhs; whnf)) rfl rfl ?_
    refine Dr_pu (Pu_index rfl Try.underlying27 Try.sizeOf56 rfl rfl (rfl) (mapget (by omega))) rfl rfl ?_
    refine Dr_pu (Pu_loadN rfl Try.isAgg56 Try.sizeOf56 rfl (Nat.le_of_ble_eq_true rfl)) rfl rfl ?_
    refine Dr_pu (Pu_loadN rfl Try.isAgg56 Try.sizeOf56 rfl (Nat.le_of_ble_eq_true rfl)) rfl rfl ?_
    refine Dr_pu (Pu_eqrow [.string _, .int .i64 _, .int .i64 _] [.string _, .int .i64 _, .int .i64 _] (fun w => eqv56 _ _ _ _ _ _ _ _ w) rfl rfl rfl) rfl rfl ?_
    refine Dr_nil ?_
    refine Al_nil ?_
    refine Aw_cond rfl (fun h17 => ?_) (fun h17 => ?_)
    · skip
      rw [L.any_step _ _ (show k < l.length by omega), ← dep_eqB, h17, Bool.true_or] at he
      refine Aw_seq ?_
      refine Aw_region ?_
      refine Al_pu (Pu_move (.inr rfl) (by conv => lhs; whnf)) rfl rfl (by decide) (by kernel_rfl) ?_
      refine Al_nil ?_
      refine Aw_ret ?_
      rw [he]; exact Sub.rfl -- ret 0
    · skip
      rw [L.any_step _ _ (show k < l.length by omega), ← dep_eqB, h17, Bool.false_or] at he
      refine Aw_skip ?_
      refine Aw_region ?_
      refine Al_pu (Pu_move (.inl rfl) (by conv => lhs; whnf)) rfl rfl (by decide) (by kernel_rfl) ?_
      refine Al_pu (Pu_add rfl rfl rfl (fun h1 h2 => by simp only [A.inI, A.maxI] at *; omega)) rfl rfl (by decide) (by kernel_rfl) ?_
      refine Al_pu (Pu_move (.inr rfl) (by conv => lhs; whnf)) rfl rfl (by decide) (by kernel_rfl) ?_
      refine Al_nil ?_
      exact ⟨k + 1, ⟨by omega, he⟩, by omega, Le.ov ⟨Sub.num (by omega), trivial⟩ ⟨Sub.rfl, Sub.rfl, trivial⟩ trivial trivial⟩ -- loop 0 next.0
  · (try simp only [decide_eq_true_eq, decide_eq_false_iff_not, Bool.and_eq_true, Bool.or_eq_true, Bool.and_eq_false_iff, Bool.or_eq_false_iff, Bool.not_eq_true', Bool.not_eq_false', beq_iff_eq, Bool.not_eq_eq_eq_not, Bool.not_true, Bool.not_false, List.length_map, Bool.and_true, Bool.and_false, Bool.false_and, Bool.true_and, Bool.or_false, Bool.false_or] at h9)
    obtain rfl : k = l.length := by omega
    rw [L.any_end] at he
    refine Aw_exit ?_
    refine Aw_seq ?_
    refine Aw_region ?_
    refine Al_pu (Pu_move (.inr rfl) (by conv => lhs; whnf)) rfl rfl (by decide) (by kernel_rfl) ?_
    refine Al_nil ?_
    refine Aw_ret ?_
    rw [he]; exact Sub.rfl -- ret 1
set_option maxRecDepth 100000 in
theorem rkey_a (l : List Dep) (k : ByteArray) : ACall Try.prog 67 [.sl 3 (l.map Dep.row), tv k] (bv (L.keyB l k)) := by
  refine ACall_enter (fun _ _ => by kernel_rfl) Try.func67 rfl Try.ntmps67 Try.results67 (Nat.le_of_ble_eq_true rfl) (fun hok M0 w0 => ?_)
  have hlen := (hok _ (List.mem_cons_self ..)).len
  rw [List.length_map] at hlen
  refine Aw_seq ?_
  refine Aw_region ?_
  refine Al_pu (Pu_move (.inr rfl) (by conv => lhs; whnf)) rfl rfl (by decide) (by kernel_rfl) ?_
  refine Al_nil ?_
  refine Aw_seq ?_
  refine Aw_seq ?_
  refine Aw_region ?_
  refine Al_pu (Pu_move (.inr rfl) (by conv => lhs; whnf)) rfl rfl (by decide) (by kernel_rfl) ?_
  refine Al_nil ?_
  refine Aw_block ?_
  refine Aw_loopk (ι := Nat) [0, 1] [] (fun j => [(5, .d (iv j))]) (fun j => []) (fun j => j ≤ l.length ∧ L.keyB l k = (l.drop j).any fun x => x.key.toList == k.toList) (fun j => l.length - j) (0) (⟨Nat.zero_le _, rfl⟩) ⟨Sub.rfl, trivial⟩ trivial ?_
  rintro j ⟨hk0, he⟩
  refine Aw_seq ?_
  refine Aw_seq ?_
  refine Aw_region ?_
  refine Al_pu (Pu_move (.inl rfl) (by conv => lhs; whnf)) rfl rfl (by decide) (by kernel_rfl) ?_
  refine Al_pu (Pu_move (.inl rfl) (by conv => lhs; whnf)) rfl rfl (by decide) (by kernel_rfl) ?_
  refine Al_pu (Pu_len rfl Try.underlying27 rfl (by first | exact List.length_map .. | exact rfl)) rfl rfl (by decide) (by kernel_rfl) ?_
  refine Al_pu (Pu_cmp rfl rfl rfl rfl) rfl rfl (by decide) (by kernel_rfl) ?_
  refine Al_nil ?_
  refine Aw_cond rfl (fun h9 => ?_) (fun h9 => ?_)
  · (try simp only [decide_eq_true_eq, decide_eq_false_iff_not, Bool.and_eq_true, Bool.or_eq_true, Bool.and_eq_false_iff, Bool.or_eq_false_iff, Bool.not_eq_true', Bool.not_eq_false', beq_iff_eq, Bool.not_eq_eq_eq_not, Bool.not_true, Bool.not_false, List.length_map, Bool.and_true, Bool.and_false, Bool.false_and, Bool.true_and, Bool.or_false, Bool.false_or] at h9)
    refine Aw_skip ?_
    refine Aw_seq ?_
    refine Aw_block ?_
    refine Aw_seq ?_
    refine Aw_region ?_
    refine Al_pu (Pu_move (.inl rfl) (by conv => lhs; whnf)) rfl rfl (by decide) (by kernel_rfl) ?_
    refine Al_pu (Pu_move (.inl rfl) (by conv => lhs; whnf)) rfl rfl (by decide) (by kernel_rfl) ?_
    refine Al_pu (Pu_index rfl Try.underlying27 Try.sizeOf56 rfl rfl (rfl) (mapget (by omega))) rfl rfl (by decide) (by kernel_rfl) ?_
    refine Al_pu (Pu_field 0 rfl Try.underlying56 rfl rfl Try.sizeOf9 rfl) rfl rfl (by decide) (by kernel_rfl) ?_
    refine Al_pu (Pu_load1 rfl Try.isAgg9 rfl rfl) rfl rfl (by decide) (by kernel_rfl) ?_
    refine Al_pu (Pu_move (.inl rfl) (by conv => lhs; whnf)) rfl rfl (by decide) (by kernel_rfl) ?_
    refine Al_pu (Pu_str rfl rfl rfl rfl) rfl rfl (by decide) (by kernel_rfl) ?_
    refine Al_nil ?_
    refine Aw_cond rfl (fun h18 => ?_) (fun h18 => ?_)
    · skip
      rw [L.any_step _ _ (show j < l.length by omega), h18, Bool.true_or] at he
      refine Aw_seq ?_
      refine Aw_region ?_
      refine Al_pu (Pu_move (.inr rfl) (by conv => lhs; whnf)) rfl rfl (by decide) (by kernel_rfl) ?_
      refine Al_nil ?_
      refine Aw_ret ?_
      rw [he]; exact Sub.rfl -- ret 0
    · skip
      rw [L.any_step _ _ (show j < l.length by omega), h18, Bool.false_or] at he
      refine Aw_skip ?_
      refine Aw_region ?_
      refine Al_pu (Pu_move (.inl rfl) (by conv => lhs; whnf)) rfl rfl (by decide) (by kernel_rfl) ?_
      refine Al_pu (Pu_add rfl rfl rfl (fun h1 h2 => by simp only [A.inI, A.maxI] at *; omega)) rfl rfl (by decide) (by kernel_rfl) ?_
      refine Al_pu (Pu_move (.inr rfl) (by conv => lhs; whnf)) rfl rfl (by decide) (by kernel_rfl) ?_
      refine Al_nil ?_
      exact ⟨j + 1, ⟨by omega, he⟩, by omega, Le.ov ⟨Sub.num (by omega), trivial⟩ ⟨Sub.rfl, Sub.rfl, trivial⟩ trivial trivial⟩ -- loop 0 next.0
  · (try simp only [decide_eq_true_eq, decide_eq_false_iff_not, Bool.and_eq_true, Bool.or_eq_true, Bool.and_eq_false_iff, Bool.or_eq_false_iff, Bool.not_eq_true', Bool.not_eq_false', beq_iff_eq, Bool.not_eq_eq_eq_not, Bool.not_true, Bool.not_false, List.length_map, Bool.and_true, Bool.and_false, Bool.false_and, Bool.true_and, Bool.or_false, Bool.false_or] at h9)
    obtain rfl : j = l.length := by omega
    rw [L.any_end] at he
    refine Aw_exit ?_
    refine Aw_seq ?_
    refine Aw_region ?_
    refine Al_pu (Pu_move (.inr rfl) (by conv => lhs; whnf)) rfl rfl (by decide) (by kernel_rfl) ?_
    refine Al_nil ?_
    refine Aw_ret ?_
    rw [he]; exact Sub.rfl -- ret 1
namespace L
def rmore (e : Event) (ahead : List Dep) : List Dep := e.seen.filter fun d => !hasD ahead d
def rless (e : Event) (ahead : List Dep) : List Dep := ahead.filter fun d => !keyB e.seen d.key
def rstampOpt (n s : Int) : List UInt8 := if n = 0 then V.num 0 else V.num 1 ++ V.stamp n s
def rhead (e : Event) : List UInt8 := V.num e.kind.toNat ++ V.num e.client.toNat ++ V.text e.key ++ rstampOpt e.n e.s
def rpart (e : Event) (ahead : List Dep) : List UInt8 := rhead e ++ V.num (rmore e ahead).length ++ (rmore e ahead).flatMap depBytes ++ V.num (rless e ahead).length ++ (rless e ahead).flatMap fun d => V.text d.key
theorem filter_snoc {α : Type} (p : α → Bool) (l : List α) {j : Nat} (hj : j < l.length) : (l.take (j + 1)).filter p = (l.take j).filter p ++ (if p l[j] then [l[j]] else []) := by
  rw [List.take_succ_eq_append_getElem hj, List.filter_append]
  congr 1
  simp only [List.filter]
  split <;> simp_all
end L
set_option maxRecDepth 100000 in
theorem rpart_a (e : Event) (ahead : List Dep) (h0 : 0 ≤ e.kind) (h1 : 0 ≤ e.client) (hkey : e.key.size ≤ 1000) (hs : e.seen.length ≤ 64) (hsk : ∀ d ∈ e.seen, d.key.size ≤ 1000) (hal : ahead.length ≤ 64) (hak : ∀ d ∈ ahead, d.key.size ≤ 1000) :
    ACall Try.prog 38 [.row e.row, .sl 3 (ahead.map Dep.row)] (tv (V.ba (L.rpart e ahead))) := by
  refine ACall_enter (fun _ _ => by kernel_rfl) Try.func38 rfl Try.ntmps38 Try.results38 (Nat.le_of_ble_eq_true rfl) (fun hok M0 w0 => ?_)
  have hr := (hok _ (List.mem_cons_self ..)).row
  have i0 := (hr (iv e.kind) (by simp [Event.row])).int
  have i1 := (hr (iv e.client) (by simp [Event.row])).int
  simp only [A.inI] at i0 i1
  have l0 := V.num_len64 (n := e.kind.toNat) (by omega)
  have l1 := V.num_len64 (n := e.client.toNat) (by omega)
  have l2 := V.num_len64 (n := e.key.size) (by omega)
  have l3 : (V.text e.key).length ≤ 1010 := by simp [V.text]; omega
  have l4 := stamp_len e.n e.s
  have l5 := V.num_len64 (n := 0) (by omega)
  have l6 := V.num_len64 (n := 1) (by omega)
  refine Aw_seq ?_
  refine Aw_region ?_
  refine Al_pu (Pu_boxN rfl rfl) rfl rfl (by decide) (by kernel_rfl) ?_
  refine Al_pu (Pu_move (.inr rfl) (by conv => lhs; whnf)) rfl rfl (by decide) (by kernel_rfl) ?_
  refine Al_nil ?_
  refine Aw_seq ?_
  refine Aw_draw 13 (by kernel_rfl) (by kernel_rfl) ?_
  refine Dr_pu (Pu_field 0 rfl Try.underlying29 rfl rfl Try.sizeOf3 rfl) rfl rfl ?_
  refine Dr_pu (Pu_load1 rfl Try.isAgg3 rfl rfl) rfl rfl ?_
  refine Dr_pu (Pu_conv rfl Try.underlying3 Try.underlying51 rfl (fun hv => u64_nat (by omega) (by simp only [vok, A.inI] at hv; omega))) rfl rfl ?_
  refine Dr_pu (Pu_call (rnumber_az _ (by omega) (by omega)) rfl ⟨Sub.rfl, trivial⟩) rfl rfl ?_
  refine Dr_pu (Pu_field 1 rfl Try.underlying29 rfl rfl Try.sizeOf3 rfl) rfl rfl ?_
  refine Dr_pu (Pu_load1 rfl Try.isAgg3 rfl rfl) rfl rfl ?_
  refine Dr_pu (Pu_conv rfl Try.underlying3 Try.underlying51 rfl (fun hv => u64_nat (by omega) (by simp only [vok, A.inI] at hv; omega))) rfl rfl ?_
  refine Dr_pu (Pu_call (rnumber_az _ (by omega) (by omega)) rfl ⟨Sub.rfl, trivial⟩) rfl rfl ?_
  refine Dr_pu (Pu_catB rfl rfl rfl (by simp only [ba_size, List.length_append, A.maxI]; omega)) rfl rfl ?_
  refine Dr_pu (Pu_field 2 rfl Try.underlying29 rfl rfl Try.sizeOf9 rfl) rfl rfl ?_
  refine Dr_pu (Pu_load1 rfl Try.isAgg9 rfl rfl) rfl rfl ?_
  refine Dr_pu (Pu_call (rtext_a _ (by omega)) rfl ⟨Sub.rfl, trivial⟩) rfl rfl ?_
  refine Dr_pu (Pu_catB rfl rfl rfl (by simp only [ba_size, List.length_append, A.maxI]; omega)) rfl rfl ?_
  refine Dr_nil ?_
  refine Al_pu (Pu_move (.inr rfl) (by conv => lhs; whnf)) rfl rfl (by decide) (by kernel_rfl) ?_
  refine Al_nil ?_
  refine Aw_join (ι := Unit) [1, 2] [] (fun _ => [(5, .d (tv (V.ba (L.rhead e))))]) (fun _ => []) (fun _ => True) ?_ ?_ -- join 0
  · refine Aw_seq ?_
    refine Aw_region ?_
    refine Al_pu (Pu_field 3 rfl Try.underlying29 rfl rfl Try.sizeOf26 rfl) rfl rfl (by decide) (by kernel_rfl) ?_
    refine Al_pu (Pu_field 0 rfl Try.underlying26 rfl rfl Try.sizeOf3 rfl) rfl rfl (by decide) (by kernel_rfl) ?_
    refine Al_pu (Pu_load1 rfl Try.isAgg3 rfl rfl) rfl rfl (by decide) (by kernel_rfl) ?_
    refine Al_pu (Pu_cmp rfl rfl rfl rfl) rfl rfl (by decide) (by kernel_rfl) ?_
    refine Al_nil ?_
    refine Aw_cond rfl (fun h30 => ?_) (fun h30 => ?_)
    · (try simp only [decide_eq_true_eq, decide_eq_false_iff_not, Bool.and_eq_true, Bool.or_eq_true, Bool.and_eq_false_iff, Bool.or_eq_false_iff, Bool.not_eq_true', Bool.not_eq_false', beq_iff_eq, Bool.not_eq_eq_eq_not, Bool.not_true, Bool.not_false, List.length_map, Bool.and_true, Bool.and_false, Bool.false_and, Bool.true_and, Bool.or_false, Bool.false_or] at h30)
      refine Aw_region ?_
      refine Al_pu (Pu_move (.inl rfl) (by conv => lhs; whnf)) rfl rfl (by decide) (by kernel_rfl) ?_
      refine Al_pu (Pu_call (rnumber_a 0 (by omega)) rfl ⟨Sub.rfl, trivial⟩) rfl rfl (by decide) (by kernel_rfl) ?_
      refine Al_pu (Pu_catB rfl rfl rfl (by simp only [ba_size, List.length_append, A.maxI]; omega)) rfl rfl (by decide) (by kernel_rfl) ?_
      refine Al_pu (Pu_move (.inr rfl) (by conv => lhs; whnf)) rfl rfl (by decide) (by kernel_rfl) ?_
      refine Al_nil ?_
      exact ⟨(), trivial, Le.ov ⟨Sub.str (by unfold L.rhead L.rstampOpt; rw [if_pos h30]), trivial⟩ ⟨Sub.rfl, Sub.rfl, trivial⟩ trivial trivial⟩ -- join 0 next.0
    · (try simp only [decide_eq_true_eq, decide_eq_false_iff_not, Bool.and_eq_true, Bool.or_eq_true, Bool.and_eq_false_iff, Bool.or_eq_false_iff, Bool.not_eq_true', Bool.not_eq_false', beq_iff_eq, Bool.not_eq_eq_eq_not, Bool.not_true, Bool.not_false, List.length_map, Bool.and_true, Bool.and_false, Bool.false_and, Bool.true_and, Bool.or_false, Bool.false_or] at h30)
      refine Aw_draw 7 (by kernel_rfl) (by kernel_rfl) ?_
      refine Dr_pu (Pu_move (.inl rfl) (by conv => lhs; whnf)) rfl rfl ?_
      refine Dr_pu (Pu_call (rnumber_a 1 (by omega)) rfl ⟨Sub.rfl, trivial⟩) rfl rfl ?_
      refine Dr_pu (Pu_catB rfl rfl rfl (by simp only [ba_size, List.length_append, A.maxI]; omega)) rfl rfl ?_
      refine Dr_pu (Pu_field 3 rfl Try.underlying29 rfl rfl Try.sizeOf26 rfl) rfl rfl ?_
      refine Dr_pu (Pu_loadN rfl Try.isAgg26 Try.sizeOf26 rfl (Nat.le_of_ble_eq_true rfl)) rfl rfl ?_
      refine Dr_pu (Pu_call (rstbytes_a _ _) rfl ⟨Sub.rfl, trivial⟩) rfl rfl ?_
      refine Dr_pu (Pu_catB rfl rfl rfl (by simp only [ba_size, List.length_append, A.maxI]; omega)) rfl rfl ?_
      refine Dr_nil ?_
      refine Al_pu (Pu_move (.inr rfl) (by conv => lhs; whnf)) rfl rfl (by decide) (by kernel_rfl) ?_
      refine Al_nil ?_
      exact ⟨(), trivial, Le.ov ⟨Sub.str (by unfold L.rhead L.rstampOpt; rw [if_neg h30]; simp only [List.append_assoc]), trivial⟩ ⟨Sub.rfl, Sub.rfl, trivial⟩ trivial trivial⟩ -- join 0 next.1
  · rintro _ hj0
    have l7 : (L.rhead e).length ≤ 2000 := by unfold L.rhead L.rstampOpt; split <;> simp only [List.length_append] <;> omega
    refine Aw_seq ?_
    refine Aw_region ?_
    refine Al_pu (Pu_move (.inr rfl) (by conv => lhs; whnf)) rfl rfl (by decide) (by kernel_rfl) ?_
    refine Al_nil ?_
    refine Aw_seq ?_
    refine Aw_region ?_
    refine Al_pu (Pu_move (.inr rfl) (by conv => lhs; whnf)) rfl rfl (by decide) (by kernel_rfl) ?_
    refine Al_nil ?_
    refine Aw_seq ?_
    refine Aw_seq ?_
    refine Aw_region ?_
    refine Al_pu (Pu_move (.inr rfl) (by conv => lhs; whnf)) rfl rfl (by decide) (by kernel_rfl) ?_
    refine Al_nil ?_
    refine Aw_block ?_
    refine Aw_loopk (ι := Nat) [1, 2, 5] [] (fun j => [(8, .d (iv j)), (6, .d (tv (V.ba (((e.seen.take j).filter fun d => !L.hasD ahead d).flatMap L.depBytes)))), (7, .d (iv (((e.seen.take j).filter fun d => !L.hasD ahead d).length)))]) (fun j => []) (fun j => j ≤ e.seen.length) (fun j => e.seen.length - j) (0) (Nat.zero_le _) ⟨Sub.rfl, Sub.rfl, Sub.rfl, trivial⟩ trivial ?_
    rintro j hk0
    refine Aw_seq ?_
    refine Aw_seq ?_
    refine Aw_region ?_
    refine Al_pu (Pu_move (.inl rfl) (by conv => lhs; whnf)) rfl rfl (by decide) (by kernel_rfl) ?_
    refine Al_pu (Pu_field 5 rfl Try.underlying29 rfl rfl Try.sizeOf27 rfl) rfl rfl (by decide) (by kernel_rfl) ?_
    refine Al_pu (Pu_load1 rfl Try.isAgg27 rfl rfl) rfl rfl (by decide) (by kernel_rfl) ?_
    refine Al_pu (Pu_len rfl Try.underlying27 rfl (by first | exact List.length_map .. | exact rfl)) rfl rfl (by decide) (by kernel_rfl) ?_
    refine Al_pu (Pu_cmp rfl rfl rfl rfl) rfl rfl (by decide) (by kernel_rfl) ?_
    refine Al_nil ?_
    refine Aw_cond rfl (fun h45 => ?_) (fun h45 => ?_)
    · (try simp only [decide_eq_true_eq, decide_eq_false_iff_not, Bool.and_eq_true, Bool.or_eq_true, Bool.and_eq_false_iff, Bool.or_eq_false_iff, Bool.not_eq_true', Bool.not_eq_false', beq_iff_eq, Bool.not_eq_eq_eq_not, Bool.not_true, Bool.not_false, List.length_map, Bool.and_true, Bool.and_false, Bool.false_and, Bool.true_and, Bool.or_false, Bool.false_or] at h45)
      have hj : j < e.seen.length := by omega
      have hsn := L.filter_snoc (fun d => !L.hasD ahead d) e.seen hj
      have hfl := (dep_flat ((e.seen.take j).filter fun d => !L.hasD ahead d) (fun d hd => hsk d (List.mem_of_mem_take (List.mem_filter.1 hd).1))).1
      have hfn : ((e.seen.take j).filter fun d => !L.hasD ahead d).length ≤ j := Nat.le_trans (List.length_filter_le _ _) (by rw [List.length_take]; omega)
      have k0 := hsk e.seen[j] (List.getElem_mem hj)
      have k1 := V.num_len64 (n := e.seen[j].key.size) (by omega)
      have k2 : (V.text e.seen[j].key).length ≤ 1010 := by simp [V.text]; omega
      have k3 := stamp_len e.seen[j].n e.seen[j].s
      refine Aw_skip ?_
      refine Aw_join (ι := Unit) [1, 2, 5, 8] [] (fun _ => [(6, .d (tv (V.ba (((e.seen.take (j + 1)).filter fun d => !L.hasD ahead d).flatMap L.depBytes)))), (7, .d (iv (((e.seen.take (j + 1)).filter fun d => !L.hasD ahead d).length)))]) (fun _ => []) (fun _ => True) ?_ ?_ -- join 1
      · refine Aw_block ?_
        refine Aw_seq ?_
        refine Aw_region ?_
        refine Al_pu (Pu_move (.inl rfl) (by conv => lhs; whnf)) rfl rfl (by decide) (by kernel_rfl) ?_
        refine Al_pu (Pu_field 5 rfl Try.underlying29 rfl rfl Try.sizeOf27 rfl) rfl rfl (by decide) (by kernel_rfl) ?_
        refine Al_pu (Pu_load1 rfl Try.isAgg27 rfl rfl) rfl rfl (by decide) (by kernel_rfl) ?_
        refine Al_pu (Pu_move (.inl rfl) (by conv => lhs; whnf)) rfl rfl (by decide) (by kernel_rfl) ?_
        refine Al_pu (Pu_index rfl Try.underlying27 Try.sizeOf56 rfl rfl (rfl) (mapget (by omega))) rfl rfl (by decide) (by kernel_rfl) ?_
        refine Al_pu (Pu_loadN rfl Try.isAgg56 Try.sizeOf56 rfl (Nat.le_of_ble_eq_true rfl)) rfl rfl (by decide) (by kernel_rfl) ?_
        refine Al_pu (Pu_call (rhas_a _ _) rfl ⟨Sub.rfl, Sub.rfl, trivial⟩) rfl rfl (by decide) (by kernel_rfl) ?_
        refine Al_pu (Pu_move (.inr rfl) (by conv => lhs; whnf)) rfl rfl (by decide) (by kernel_rfl) ?_
        refine Al_nil ?_
        refine Aw_seq ?_
        refine Aw_region ?_
        refine Al_pu (Pu_move (.inl rfl) (by conv => lhs; whnf)) rfl rfl (by decide) (by kernel_rfl) ?_
        refine Al_pu (Pu_not rfl rfl) rfl rfl (by decide) (by kernel_rfl) ?_
        refine Al_nil ?_
        refine Aw_cond rfl (fun h56 => ?_) (fun h56 => ?_)
        · (try simp only [decide_eq_true_eq, decide_eq_false_iff_not, Bool.and_eq_true, Bool.or_eq_true, Bool.and_eq_false_iff, Bool.or_eq_false_iff, Bool.not_eq_true', Bool.not_eq_false', beq_iff_eq, Bool.not_eq_eq_eq_not, Bool.not_true, Bool.not_false, List.length_map, Bool.and_true, Bool.and_false, Bool.false_and, Bool.true_and, Bool.or_false, Bool.false_or] at h56)
          refine Aw_seq ?_
          refine Aw_region ?_
          refine Al_pu (Pu_move (.inl rfl) (by conv => lhs; whnf)) rfl rfl (by decide) (by kernel_rfl) ?_
          refine Al_pu (Pu_add rfl rfl rfl (fun h1 h2 => by simp only [A.inI, A.maxI] at *; omega)) rfl rfl (by decide) (by kernel_rfl) ?_
          refine Al_pu (Pu_move (.inr rfl) (by conv => lhs; whnf)) rfl rfl (by decide) (by kernel_rfl) ?_
          refine Al_nil ?_
          refine Aw_draw 17 (by kernel_rfl) (by kernel_rfl) ?_
          refine Dr_pu (Pu_move (.inl rfl) (by conv => lhs; whnf)) rfl rfl ?_
          refine Dr_pu (Pu_field 5 rfl Try.underlying29 rfl rfl Try.sizeOf27 rfl) rfl rfl ?_
          refine Dr_pu (Pu_load1 rfl Try.isAgg27 rfl rfl) rfl rfl ?_
          refine Dr_pu (Pu_move (.inl rfl) (by conv => lhs; whnf)) rfl rfl ?_
          refine Dr_pu (Pu_index rfl Try.underlying27 Try.sizeOf56 rfl rfl (rfl) (mapget (by omega))) rfl rfl ?_
          refine Dr_pu (Pu_field 0 rfl Try.underlying56 rfl rfl Try.sizeOf9 rfl) rfl rfl ?_
          refine Dr_pu (Pu_load1 rfl Try.isAgg9 rfl rfl) rfl rfl ?_
          refine Dr_pu (Pu_call (rtext_a _ (by omega)) rfl ⟨Sub.rfl, trivial⟩) rfl rfl ?_
          refine Dr_pu (Pu_catB rfl rfl rfl (by simp only [ba_size, List.length_append, A.maxI]; omega)) rfl rfl ?_
          refine Dr_pu (Pu_field 5 rfl Try.underlying29 rfl rfl Try.sizeOf27 rfl) rfl rfl ?_
          refine Dr_pu (Pu_load1 rfl Try.isAgg27 rfl rfl) rfl rfl ?_
          refine Dr_pu (Pu_move (.inl rfl) (by conv => lhs; whnf)) rfl rfl ?_
          refine Dr_pu (Pu_index rfl Try.underlying27 Try.sizeOf56 rfl rfl (rfl) (mapget (by omega))) rfl rfl ?_
          refine Dr_pu (Pu_field 1 rfl Try.underlying56 rfl rfl Try.sizeOf26 rfl) rfl rfl ?_
          refine Dr_pu (Pu_loadN rfl Try.isAgg26 Try.sizeOf26 rfl (Nat.le_of_ble_eq_true rfl)) rfl rfl ?_
          refine Dr_pu (Pu_call (rstbytes_a _ _) rfl ⟨Sub.rfl, trivial⟩) rfl rfl ?_
          refine Dr_pu (Pu_catB rfl rfl rfl (by simp only [ba_size, List.length_append, A.maxI]; omega)) rfl rfl ?_
          refine Dr_nil ?_
          refine Al_pu (Pu_move (.inr rfl) (by conv => lhs; whnf)) rfl rfl (by decide) (by kernel_rfl) ?_
          refine Al_nil ?_
          exact ⟨(), trivial, Le.ov ⟨Sub.str (by rw [hsn, h56]; simp [L.depBytes]), Sub.num (by rw [hsn, h56]; simp), trivial⟩ ⟨Sub.rfl, Sub.rfl, Sub.rfl, Sub.rfl, trivial⟩ trivial trivial⟩ -- join 1 next.0
        · (try simp only [decide_eq_true_eq, decide_eq_false_iff_not, Bool.and_eq_true, Bool.or_eq_true, Bool.and_eq_false_iff, Bool.or_eq_false_iff, Bool.not_eq_true', Bool.not_eq_false', beq_iff_eq, Bool.not_eq_eq_eq_not, Bool.not_true, Bool.not_false, List.length_map, Bool.and_true, Bool.and_false, Bool.false_and, Bool.true_and, Bool.or_false, Bool.false_or] at h56)
          refine Aw_skip ?_
          exact ⟨(), trivial, Le.ov ⟨Sub.str (by rw [hsn, h56]; simp), Sub.num (by rw [hsn, h56]; simp), trivial⟩ ⟨Sub.rfl, Sub.rfl, Sub.rfl, Sub.rfl, trivial⟩ trivial trivial⟩ -- join 1 next.1
      · rintro _ hj1
        refine Aw_region ?_
        refine Al_pu (Pu_move (.inl rfl) (by conv => lhs; whnf)) rfl rfl (by decide) (by kernel_rfl) ?_
        refine Al_pu (Pu_add rfl rfl rfl (fun h1 h2 => by simp only [A.inI, A.maxI] at *; omega)) rfl rfl (by decide) (by kernel_rfl) ?_
        refine Al_pu (Pu_move (.inr rfl) (by conv => lhs; whnf)) rfl rfl (by decide) (by kernel_rfl) ?_
        refine Al_nil ?_
        exact ⟨j + 1, by omega, by omega, Le.ov ⟨Sub.num (by omega), Sub.rfl, Sub.rfl, trivial⟩ ⟨Sub.rfl, Sub.rfl, Sub.rfl, trivial⟩ trivial trivial⟩ -- loop 0 next.0
    · (try simp only [decide_eq_true_eq, decide_eq_false_iff_not, Bool.and_eq_true, Bool.or_eq_true, Bool.and_eq_false_iff, Bool.or_eq_false_iff, Bool.not_eq_true', Bool.not_eq_false', beq_iff_eq, Bool.not_eq_eq_eq_not, Bool.not_true, Bool.not_false, List.length_map, Bool.and_true, Bool.and_false, Bool.false_and, Bool.true_and, Bool.or_false, Bool.false_or] at h45)
      obtain rfl : j = e.seen.length := by omega
      rw [List.take_length]
      have hmo : (e.seen.filter fun d => !L.hasD ahead d) = L.rmore e ahead := rfl
      have hml : (L.rmore e ahead).length ≤ 64 := Nat.le_trans (List.length_filter_le _ _) hs
      have hfm := (dep_flat (L.rmore e ahead) (fun d hd => hsk d (List.mem_filter.1 hd).1)).1
      rw [hmo]
      generalize hmo2 : L.rmore e ahead = mo at *
      refine Aw_exit ?_
      refine Aw_seq ?_
      refine Aw_region ?_
      refine Al_pu (Pu_move (.inr rfl) (by conv => lhs; whnf)) rfl rfl (by decide) (by kernel_rfl) ?_
      refine Al_nil ?_
      refine Aw_seq ?_
      refine Aw_region ?_
      refine Al_pu (Pu_move (.inr rfl) (by conv => lhs; whnf)) rfl rfl (by decide) (by kernel_rfl) ?_
      refine Al_nil ?_
      refine Aw_seq ?_
      refine Aw_seq ?_
      refine Aw_region ?_
      refine Al_pu (Pu_move (.inr rfl) (by conv => lhs; whnf)) rfl rfl (by decide) (by kernel_rfl) ?_
      refine Al_nil ?_
      refine Aw_block ?_
      refine Aw_loopk (ι := Nat) [1, 2, 5, 6, 7] [] (fun j => [(12, .d (iv j)), (10, .d (tv (V.ba (((ahead.take j).filter fun d => !L.keyB e.seen d.key).flatMap fun d => V.text d.key)))), (11, .d (iv (((ahead.take j).filter fun d => !L.keyB e.seen d.key).length)))]) (fun j => []) (fun j => j ≤ ahead.length) (fun j => ahead.length - j) (0) (Nat.zero_le _) ⟨Sub.rfl, Sub.rfl, Sub.rfl, trivial⟩ trivial ?_
      rintro j hk1
      refine Aw_seq ?_
      refine Aw_seq ?_
      refine Aw_region ?_
      refine Al_pu (Pu_move (.inl rfl) (by conv => lhs; whnf)) rfl rfl (by decide) (by kernel_rfl) ?_
      refine Al_pu (Pu_move (.inl rfl) (by conv => lhs; whnf)) rfl rfl (by decide) (by kernel_rfl) ?_
      refine Al_pu (Pu_len rfl Try.underlying27 rfl (by first | exact List.length_map .. | exact rfl)) rfl rfl (by decide) (by kernel_rfl) ?_
      refine Al_pu (Pu_cmp rfl rfl rfl rfl) rfl rfl (by decide) (by kernel_rfl) ?_
      refine Al_nil ?_
      refine Aw_cond rfl (fun h79 => ?_) (fun h79 => ?_)
      · (try simp only [decide_eq_true_eq, decide_eq_false_iff_not, Bool.and_eq_true, Bool.or_eq_true, Bool.and_eq_false_iff, Bool.or_eq_false_iff, Bool.not_eq_true', Bool.not_eq_false', beq_iff_eq, Bool.not_eq_eq_eq_not, Bool.not_true, Bool.not_false, List.length_map, Bool.and_true, Bool.and_false, Bool.false_and, Bool.true_and, Bool.or_false, Bool.false_or] at h79)
        have hj : j < ahead.length := by omega
        have hsn := L.filter_snoc (fun d => !L.keyB e.seen d.key) ahead hj
        have hfl := (dep_flat ((ahead.take j).filter fun d => !L.keyB e.seen d.key) (fun d hd => hak d (List.mem_of_mem_take (List.mem_filter.1 hd).1))).2
        have hfn : ((ahead.take j).filter fun d => !L.keyB e.seen d.key).length ≤ j := Nat.le_trans (List.length_filter_le _ _) (by rw [List.length_take]; omega)
        have k0 := hak ahead[j] (List.getElem_mem hj)
        have k1 := V.num_len64 (n := ahead[j].key.size) (by omega)
        have k2 : (V.text ahead[j].key).length ≤ 1010 := by simp [V.text]; omega
        refine Aw_skip ?_
        refine Aw_join (ι := Unit) [1, 2, 5, 6, 7, 12] [] (fun _ => [(10, .d (tv (V.ba (((ahead.take (j + 1)).filter fun d => !L.keyB e.seen d.key).flatMap fun d => V.text d.key)))), (11, .d (iv (((ahead.take (j + 1)).filter fun d => !L.keyB e.seen d.key).length)))]) (fun _ => []) (fun _ => True) ?_ ?_ -- join 2
        · refine Aw_block ?_
          refine Aw_seq ?_
          refine Aw_draw 8 (by kernel_rfl) (by kernel_rfl) ?_
          refine Dr_pu (Pu_field 5 rfl Try.underlying29 rfl rfl Try.sizeOf27 rfl) rfl rfl ?_
          refine Dr_pu (Pu_load1 rfl Try.isAgg27 rfl rfl) rfl rfl ?_
          refine Dr_pu (Pu_move (.inl rfl) (by conv => lhs; whnf)) rfl rfl ?_
          refine Dr_pu (Pu_move (.inl rfl) (by conv => lhs; whnf)) rfl rfl ?_
          refine Dr_pu (Pu_index rfl Try.underlying27 Try.sizeOf56 rfl rfl (rfl) (mapget (by omega))) rfl rfl ?_
          refine Dr_pu (Pu_field 0 rfl Try.underlying56 rfl rfl Try.sizeOf9 rfl) rfl rfl ?_
          refine Dr_pu (Pu_load1 rfl Try.isAgg9 rfl rfl) rfl rfl ?_
          refine Dr_pu (Pu_call (rkey_a _ _) rfl ⟨Sub.rfl, Sub.rfl, trivial⟩) rfl rfl ?_
          refine Dr_nil ?_
          refine Al_pu (Pu_move (.inr rfl) (by conv => lhs; whnf)) rfl rfl (by decide) (by kernel_rfl) ?_
          refine Al_nil ?_
          refine Aw_seq ?_
          refine Aw_region ?_
          refine Al_pu (Pu_move (.inl rfl) (by conv => lhs; whnf)) rfl rfl (by decide) (by kernel_rfl) ?_
          refine Al_pu (Pu_not rfl rfl) rfl rfl (by decide) (by kernel_rfl) ?_
          refine Al_nil ?_
          refine Aw_cond rfl (fun h91 => ?_) (fun h91 => ?_)
          · (try simp only [decide_eq_true_eq, decide_eq_false_iff_not, Bool.and_eq_true, Bool.or_eq_true, Bool.and_eq_false_iff, Bool.or_eq_false_iff, Bool.not_eq_true', Bool.not_eq_false', beq_iff_eq, Bool.not_eq_eq_eq_not, Bool.not_true, Bool.not_false, List.length_map, Bool.and_true, Bool.and_false, Bool.false_and, Bool.true_and, Bool.or_false, Bool.false_or] at h91)
            refine Aw_seq ?_
            refine Aw_region ?_
            refine Al_pu (Pu_move (.inl rfl) (by conv => lhs; whnf)) rfl rfl (by decide) (by kernel_rfl) ?_
            refine Al_pu (Pu_add rfl rfl rfl (fun h1 h2 => by simp only [A.inI, A.maxI] at *; omega)) rfl rfl (by decide) (by kernel_rfl) ?_
            refine Al_pu (Pu_move (.inr rfl) (by conv => lhs; whnf)) rfl rfl (by decide) (by kernel_rfl) ?_
            refine Al_nil ?_
            refine Aw_region ?_
            refine Al_pu (Pu_move (.inl rfl) (by conv => lhs; whnf)) rfl rfl (by decide) (by kernel_rfl) ?_
            refine Al_pu (Pu_move (.inl rfl) (by conv => lhs; whnf)) rfl rfl (by decide) (by kernel_rfl) ?_
            refine Al_pu (Pu_move (.inl rfl) (by conv => lhs; whnf)) rfl rfl (by decide) (by kernel_rfl) ?_
            refine Al_pu (Pu_index rfl Try.underlying27 Try.sizeOf56 rfl rfl (rfl) (mapget (by omega))) rfl rfl (by decide) (by kernel_rfl) ?_
            refine Al_pu (Pu_field 0 rfl Try.underlying56 rfl rfl Try.sizeOf9 rfl) rfl rfl (by decide) (by kernel_rfl) ?_
            refine Al_pu (Pu_load1 rfl Try.isAgg9 rfl rfl) rfl rfl (by decide) (by kernel_rfl) ?_
            refine Al_pu (Pu_call (rtext_a _ (by omega)) rfl ⟨Sub.rfl, trivial⟩) rfl rfl (by decide) (by kernel_rfl) ?_
            refine Al_pu (Pu_catB rfl rfl rfl (by simp only [ba_size, List.length_append, A.maxI]; omega)) rfl rfl (by decide) (by kernel_rfl) ?_
            refine Al_pu (Pu_move (.inr rfl) (by conv => lhs; whnf)) rfl rfl (by decide) (by kernel_rfl) ?_
            refine Al_nil ?_
            exact ⟨(), trivial, Le.ov ⟨Sub.str (by rw [hsn, h91]; simp), Sub.num (by rw [hsn, h91]; simp), trivial⟩ ⟨Sub.rfl, Sub.rfl, Sub.rfl, Sub.rfl, Sub.rfl, Sub.rfl, trivial⟩ trivial trivial⟩ -- join 2 next.0
          · (try simp only [decide_eq_true_eq, decide_eq_false_iff_not, Bool.and_eq_true, Bool.or_eq_true, Bool.and_eq_false_iff, Bool.or_eq_false_iff, Bool.not_eq_true', Bool.not_eq_false', beq_iff_eq, Bool.not_eq_eq_eq_not, Bool.not_true, Bool.not_false, List.length_map, Bool.and_true, Bool.and_false, Bool.false_and, Bool.true_and, Bool.or_false, Bool.false_or] at h91)
            refine Aw_skip ?_
            exact ⟨(), trivial, Le.ov ⟨Sub.str (by rw [hsn, h91]; simp), Sub.num (by rw [hsn, h91]; simp), trivial⟩ ⟨Sub.rfl, Sub.rfl, Sub.rfl, Sub.rfl, Sub.rfl, Sub.rfl, trivial⟩ trivial trivial⟩ -- join 2 next.1
        · rintro _ hj2
          refine Aw_region ?_
          refine Al_pu (Pu_move (.inl rfl) (by conv => lhs; whnf)) rfl rfl (by decide) (by kernel_rfl) ?_
          refine Al_pu (Pu_add rfl rfl rfl (fun h1 h2 => by simp only [A.inI, A.maxI] at *; omega)) rfl rfl (by decide) (by kernel_rfl) ?_
          refine Al_pu (Pu_move (.inr rfl) (by conv => lhs; whnf)) rfl rfl (by decide) (by kernel_rfl) ?_
          refine Al_nil ?_
          exact ⟨j + 1, by omega, by omega, Le.ov ⟨Sub.num (by omega), Sub.rfl, Sub.rfl, trivial⟩ ⟨Sub.rfl, Sub.rfl, Sub.rfl, Sub.rfl, Sub.rfl, trivial⟩ trivial trivial⟩ -- loop 1 next.0
      · (try simp only [decide_eq_true_eq, decide_eq_false_iff_not, Bool.and_eq_true, Bool.or_eq_true, Bool.and_eq_false_iff, Bool.or_eq_false_iff, Bool.not_eq_true', Bool.not_eq_false', beq_iff_eq, Bool.not_eq_eq_eq_not, Bool.not_true, Bool.not_false, List.length_map, Bool.and_true, Bool.and_false, Bool.false_and, Bool.true_and, Bool.or_false, Bool.false_or] at h79)
        obtain rfl : j = ahead.length := by omega
        rw [List.take_length]
        have hle : (ahead.filter fun d => !L.keyB e.seen d.key) = L.rless e ahead := rfl
        have hll : (L.rless e ahead).length ≤ 64 := Nat.le_trans (List.length_filter_le _ _) hal
        have hfn := (dep_flat (L.rless e ahead) (fun d hd => hak d (List.mem_filter.1 hd).1)).2
        have n1 := V.num_len64 (n := mo.length) (by omega)
        have n2 := V.num_len64 (n := (L.rless e ahead).length) (by omega)
        rw [hle]
        refine Aw_exit ?_
        refine Aw_seq ?_
        refine Aw_region ?_
        refine Al_pu (Pu_move (.inl rfl) (by conv => lhs; whnf)) rfl rfl (by decide) (by kernel_rfl) ?_
        refine Al_pu (Pu_move (.inl rfl) (by conv => lhs; whnf)) rfl rfl (by decide) (by kernel_rfl) ?_
        refine Al_pu (Pu_conv rfl Try.underlying3 Try.underlying51 rfl (fun hv => u64_nat (by omega) (by simp only [vok, A.inI] at hv; omega))) rfl rfl (by decide) (by kernel_rfl) ?_
        refine Al_pu (Pu_call (rnumber_a _ (by omega)) rfl ⟨Sub.rfl, trivial⟩) rfl rfl (by decide) (by kernel_rfl) ?_
        refine Al_pu (Pu_catB rfl rfl rfl (by simp only [ba_size, List.length_append, A.maxI]; omega)) rfl rfl (by decide) (by kernel_rfl) ?_
        refine Al_pu (Pu_move (.inl rfl) (by conv => lhs; whnf)) rfl rfl (by decide) (by kernel_rfl) ?_
        refine Al_pu (Pu_catB rfl rfl rfl (by simp only [ba_size, List.length_append, A.maxI]; omega)) rfl rfl (by decide) (by kernel_rfl) ?_
        refine Al_pu (Pu_move (.inl rfl) (by conv => lhs; whnf)) rfl rfl (by decide) (by kernel_rfl) ?_
        refine Al_pu (Pu_conv rfl Try.underlying3 Try.underlying51 rfl (fun hv => u64_nat (by omega) (by simp only [vok, A.inI] at hv; omega))) rfl rfl (by decide) (by kernel_rfl) ?_
        refine Al_pu (Pu_call (rnumber_a _ (by omega)) rfl ⟨Sub.rfl, trivial⟩) rfl rfl (by decide) (by kernel_rfl) ?_
        refine Al_pu (Pu_catB rfl rfl rfl (by simp only [ba_size, List.length_append, A.maxI]; omega)) rfl rfl (by decide) (by kernel_rfl) ?_
        refine Al_pu (Pu_move (.inl rfl) (by conv => lhs; whnf)) rfl rfl (by decide) (by kernel_rfl) ?_
        refine Al_pu (Pu_catB rfl rfl rfl (by simp only [ba_size, List.length_append, A.maxI]; omega)) rfl rfl (by decide) (by kernel_rfl) ?_
        refine Al_pu (Pu_move (.inr rfl) (by conv => lhs; whnf)) rfl rfl (by decide) (by kernel_rfl) ?_
        refine Al_nil ?_
        refine Aw_ret ?_
        exact Sub.str (by unfold L.rpart; rw [hmo2]) -- ret 0
end Go.Proofs.Ytbdejgbjelfbeaa
