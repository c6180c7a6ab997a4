
/- Rows that are the same: the reference's, the library's. -/
import Derived.Test.YtmbaeloiepjakaaGDat
set_option linter.unusedSimpArgs false
set_option linter.unusedVariables false
namespace Go.Proofs.Ytmbaeloiepjakaa
open Go.RowKit A
theorem byte_beq (a b : ByteArray) : (a == b) = decide (a = b) := by
  rw [beq_toListBytes, Bool.eq_iff_iff]
  simp only [beq_iff_eq, decide_eq_true_eq]
  exact ⟨fun h => by rw [← V.ba_data a, ← V.ba_data b, ← ByteArray.toList_eq, ← ByteArray.toList_eq, h], fun h => h ▸ rfl⟩
theorem dep_eqB (x d : Dep) : ((x.key.toList == d.key.toList) && ((x.n == d.n) && (x.s == d.s))) = decide (x = d) := by
  have hk : (x.key.toList == d.key.toList) = decide (x.key = d.key) := by rw [← beq_toListBytes]; exact byte_beq _ _
  rw [hk]
  cases x; cases d
  rw [Bool.eq_iff_iff]
  simp only [Bool.and_eq_true, beq_iff_eq, decide_eq_true_eq, Dep.mk.injEq]
theorem str_eqB (a b : ByteArray) : (a.toList == b.toList) = decide (a = b) := by rw [← beq_toListBytes]; exact byte_beq _ _
namespace L
theorem same_step {α : Type} {l m : List α} {k : Nat} (h : l.take k = m.take k) (hl : k < l.length) (hm : k < m.length) (e : l[k] = m[k]) : l.take (k + 1) = m.take (k + 1) := by
  rw [List.take_succ_eq_append_getElem hl, List.take_succ_eq_append_getElem hm, h, e]
theorem same_end {α : Type} {l m : List α} {k : Nat} (h : l.take k = m.take k) (hk : ¬ k < l.length) (e : l.length = m.length) : l = m := by
  rwa [List.take_of_length_le (by omega), List.take_of_length_le (by omega)] at h
theorem same_ne {α : Type} [DecidableEq α] {l m : List α} {k : Nat} (hl : k < l.length) (hm : k < m.length) (e : l[k] ≠ m[k]) : decide (l = m) = false := by
  rw [decide_eq_false_iff_not]; rintro rfl; exact e rfl
theorem same_len {α : Type} [DecidableEq α] {l m : List α} (e : l.length ≠ m.length) : decide (l = m) = false := by
  rw [decide_eq_false_iff_not]; rintro rfl; exact e rfl
end L
set_option maxRecDepth 100000 in
theorem dsame_a (l m : List Dep) : ACall Try.prog 24 [.sl 3 (l.map Dep.row), .sl 3 (m.map Dep.row)] (bv (decide (l = m))) := by
  refine ACall_enter (fun _ _ => by kernel_rfl) Try.func24 rfl Try.ntmps24 Try.results24 (Nat.le_of_ble_eq_true rfl) (fun hok M0 w0 hnl => ?_)
  have hlen := (hok _ (List.mem_cons_self ..)).len
  rw [List.length_map] at hlen
  refine Aw_seq (Aw_region ?_)
  refine Al_p Pu_mvr ?_
  refine Al_nil (Aw_seq (Aw_seq (Aw_region ?_)))
  refine Al_p Pu_mvl ?_
  refine Al_p (Pu_len rfl Try.underlying30 rfl (by first | exact List.length_map .. | exact rfl)) ?_
  refine Al_p Pu_mvl ?_
  refine Al_p (Pu_len rfl Try.underlying30 rfl (by first | exact List.length_map .. | exact rfl)) ?_
  refine Al_p (Pu_cmp rfl rfl rfl rfl) ?_
  refine Al_nil ?_
  refine Aw_cond rfl (fun h10 => ?_) (fun h10 => ?_)
  · (try simp only [decide_eq_true_eq, decide_eq_false_iff_not, Bool.and_eq_true, Bool.or_eq_true, Bool.and_eq_false_iff, Bool.or_eq_false_iff, Bool.not_eq_true', Bool.not_eq_false', beq_iff_eq, Bool.not_eq_eq_eq_not, Bool.not_true, Bool.not_false, List.length_map, Bool.and_true, Bool.and_false, Bool.false_and, Bool.true_and, Bool.or_false, Bool.false_or] at h10)
    refine Aw_seq (Aw_region ?_)
    refine Al_p Pu_mvr ?_
    refine Al_nil ?_
    refine Aw_ret ?_
    exact Sub.bool (by rw [L.same_len (by omega)]) -- ret 0
  · (try simp only [decide_eq_true_eq, decide_eq_false_iff_not, Bool.and_eq_true, Bool.or_eq_true, Bool.and_eq_false_iff, Bool.or_eq_false_iff, Bool.not_eq_true', Bool.not_eq_false', beq_iff_eq, Bool.not_eq_eq_eq_not, Bool.not_true, Bool.not_false, List.length_map, Bool.and_true, Bool.and_false, Bool.false_and, Bool.true_and, Bool.or_false, Bool.false_or] at h10)
    refine Aw_skip (Aw_seq (Aw_seq (Aw_region ?_)))
    refine Al_p Pu_mvr ?_
    refine Al_nil (Aw_block ?_)
    refine Aw_loopk (ι := Nat) [0, 1] [] (fun k => [(5, .d (iv k))]) (fun k => []) (fun k => k ≤ l.length ∧ l.take k = m.take k) (fun k => l.length - k) (0) (⟨Nat.zero_le _, rfl⟩) ⟨Sub.rfl, trivial⟩ trivial ?_
    rintro k ⟨hk0, he⟩
    refine Aw_seq (Aw_seq (Aw_region ?_))
    refine Al_p Pu_mvl ?_
    refine Al_p Pu_mvl ?_
    refine Al_p (Pu_len rfl Try.underlying30 rfl (by first | exact List.length_map .. | exact rfl)) ?_
    refine Al_p (Pu_cmp rfl rfl rfl rfl) ?_
    refine Al_nil ?_
    refine Aw_cond rfl (fun h14 => ?_) (fun h14 => ?_)
    · (try simp only [decide_eq_true_eq, decide_eq_false_iff_not, Bool.and_eq_true, Bool.or_eq_true, Bool.and_eq_false_iff, Bool.or_eq_false_iff, Bool.not_eq_true', Bool.not_eq_false', beq_iff_eq, Bool.not_eq_eq_eq_not, Bool.not_true, Bool.not_false, List.length_map, Bool.and_true, Bool.and_false, Bool.false_and, Bool.true_and, Bool.or_false, Bool.false_or] at h14)
      have hkl : k < l.length := by omega
      have hkm : k < m.length := by omega
      refine Aw_skip (Aw_seq (Aw_block (Aw_seq ?_)))
      refine Aw_draw 9 (by kernel_rfl) (by kernel_rfl) ?_
      refine Dr_p Pu_mvl ?_
      refine Dr_p Pu_mvl ?_
      refine Dr_p (Pu_index rfl Try.underlying30 Try.sizeOf49 rfl rfl (rfl) (mapget hkl)) ?_
      refine Dr_p (Pu_loadN rfl Try.isAgg49 Try.sizeOf49 rfl (Nat.le_of_ble_eq_true rfl)) ?_
      refine Dr_p Pu_mvl ?_
      refine Dr_p Pu_mvl ?_
      refine Dr_p (Pu_index rfl Try.underlying30 Try.sizeOf49 rfl rfl (rfl) (mapget hkm)) ?_
      refine Dr_p (Pu_loadN rfl Try.isAgg49 Try.sizeOf49 rfl (Nat.le_of_ble_eq_true rfl)) ?_
      refine Dr_p (Pu_eqrow [.string _, .int .i64 _, .int .i64 _] [.string _, .int .i64 _, .int .i64 _] (fun w => nev49 _ _ _ _ _ _ _ _ w) rfl rfl rfl) ?_
      refine Dr_nil (Al_nil ?_)
      refine Aw_cond rfl (fun h25 => ?_) (fun h25 => ?_)
      · skip
        have hne : l[k] ≠ m[k] := of_decide_eq_false (by rw [← dep_eqB]; simpa only [Bool.not_eq_true'] using h25)
        refine Aw_seq (Aw_region ?_)
        refine Al_p Pu_mvr ?_
        refine Al_nil ?_
        refine Aw_ret ?_
        exact Sub.bool (by rw [L.same_ne hkl hkm hne]) -- ret 1
      · skip
        have heq : l[k] = m[k] := of_decide_eq_true (by rw [← dep_eqB]; simpa only [Bool.not_eq_false'] using h25)
        refine Aw_skip (Aw_region ?_)
        refine Al_p Pu_mvl ?_
        refine Al_p (Pu_add rfl rfl rfl (fun h1 h2 => by simp only [A.inI, A.maxI] at *; omega)) ?_
        refine Al_p Pu_mvr ?_
        refine Al_nil ?_
        exact ⟨k + 1, ⟨by omega, L.same_step he hkl hkm heq⟩, by omega, Le.ov ⟨Sub.num (by omega), trivial⟩ ⟨Sub.rfl, Sub.rfl, trivial⟩ trivial trivial⟩ -- loop 0 next.0
    · (try simp only [decide_eq_true_eq, decide_eq_false_iff_not, Bool.and_eq_true, Bool.or_eq_true, Bool.and_eq_false_iff, Bool.or_eq_false_iff, Bool.not_eq_true', Bool.not_eq_false', beq_iff_eq, Bool.not_eq_eq_eq_not, Bool.not_true, Bool.not_false, List.length_map, Bool.and_true, Bool.and_false, Bool.false_and, Bool.true_and, Bool.or_false, Bool.false_or] at h14)
      obtain rfl := L.same_end he (by omega) (by omega)
      refine Aw_exit (Aw_seq (Aw_region ?_))
      refine Al_p Pu_mvr ?_
      refine Al_nil ?_
      refine Aw_ret ?_
      exact Sub.bool (by simp) -- ret 2
end Go.Proofs.Ytmbaeloiepjakaa
