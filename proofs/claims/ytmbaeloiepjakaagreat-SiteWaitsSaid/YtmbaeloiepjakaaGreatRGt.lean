/- The reference's Get and Covers. -/
import Derived.Test.YtmbaeloiepjakaaGreatLAdd
import Derived.Test.YtmbaeloiepjakaaGreatGPast
set_option linter.unusedSimpArgs false
set_option linter.unusedVariables false
set_option maxRecDepth 100000
namespace Go.Proofs.YtmbaeloiepjakaaGreat
open Go.RowKit A R
namespace D
def coversB (p q : List Dep) : Bool := q.all fun d => !lessB (get p d.key).1 (get p d.key).2 d.n d.s
end D
abbrev pastA (p : List Dep) : AV := .sl 3 (p.map Dep.row)
set_option maxRecDepth 100000 in
theorem rget_a (p : List Dep) (k : ByteArray) : ACall Tryz.prog 52 [.sl 3 (p.map Dep.row), tv k] (.row [iv (D.get p k).1, iv (D.get p k).2]) := by
  refine ACall_enterG (fun _ _ => by kernel_rfl) Tryz.func52 rfl Tryz.ntmps52 (Reads.cN Tryz.results52 Tryz.isAgg31 Tryz.sizeOf31) (Nat.le_of_ble_eq_true rfl) (fun hok M0 w0 hnl => ?_)
  have hlen := (hok _ (List.mem_cons_self ..)).len
  rw [List.length_map] at hlen
  refine Aw_seq (Aw_region ?_)
  refine Al_alloc rfl rfl rfl (by decide) Tryz.zeroValue31 rfl (by kernel_rfl) (fun g4 => ?_)
  refine Al_nil (Aw_seq (Aw_seq (Aw_region ?_)))
  refine Al_p Pu_mvr ?_
  refine Al_nil (Aw_block ?_)
  refine Aw_loopk (ι := Nat) [0, 1, 4] [4] (fun j => [(5, .d (iv j))]) (fun j => []) (fun j => j ≤ p.length ∧ ∀ (i : Nat) (hi : i < p.length), i < j → ¬ p[i].key.toList = k.toList) (fun j => p.length - j) (0) (⟨Nat.zero_le _, by intros; omega⟩) ⟨Sub.rfl, trivial⟩ trivial ?_
  rintro j ⟨hk0, hno⟩
  refine Aw_seq (Aw_seq (Aw_region ?_))
  refine Al_p Pu_mvl ?_
  refine Al_p Pu_mvl ?_
  refine Al_p (Pu_len rfl Tryz.underlying32 rfl (by first | exact List.length_map .. | exact rfl)) ?_
  refine Al_p (Pu_cmp rfl rfl rfl rfl) ?_
  refine Al_nil ?_
  refine Aw_cond rfl (fun h9 => ?_) (fun h9 => ?_)
  · (try simp only [decide_eq_true_eq, decide_eq_false_iff_not, Bool.and_eq_true, Bool.or_eq_true, Bool.and_eq_false_iff, Bool.or_eq_false_iff, Bool.not_eq_true', Bool.not_eq_false', beq_iff_eq, Bool.not_eq_eq_eq_not, Bool.not_true, Bool.not_false, List.length_map, Bool.and_true, Bool.and_false, Bool.false_and, Bool.true_and, Bool.or_false, Bool.false_or] at h9)
    have hj : j < p.length := by omega
    refine Aw_skip (Aw_seq (Aw_block (Aw_seq (Aw_region ?_))))
    refine Al_p Pu_mvl ?_
    refine Al_p Pu_mvl ?_
    refine Al_p (Pu_index rfl Tryz.underlying32 Tryz.sizeOf59 rfl rfl (rfl) (mapget hj)) ?_
    refine Al_p (Pu_field 0 rfl Tryz.underlying59 rfl rfl Tryz.sizeOf9 rfl) ?_
    refine Al_p (Pu_load1 rfl Tryz.isAgg9 rfl rfl) ?_
    refine Al_p Pu_mvl ?_
    refine Al_p (Pu_str rfl rfl rfl rfl) ?_
    refine Al_nil ?_
    refine Aw_cond rfl (fun h18 => ?_) (fun h18 => ?_)
    · (try simp only [decide_eq_true_eq, decide_eq_false_iff_not, Bool.and_eq_true, Bool.or_eq_true, Bool.and_eq_false_iff, Bool.or_eq_false_iff, Bool.not_eq_true', Bool.not_eq_false', beq_iff_eq, Bool.not_eq_eq_eq_not, Bool.not_true, Bool.not_false, List.length_map, Bool.and_true, Bool.and_false, Bool.false_and, Bool.true_and, Bool.or_false, Bool.false_or] at h18)
      have hge := D.get_first hj (by simpa using h18) hno
      rw [hge]
      refine Aw_seq (Aw_region ?_)
      refine Al_p Pu_mvl ?_
      refine Al_p Pu_mvl ?_
      refine Al_p (Pu_index rfl Tryz.underlying32 Tryz.sizeOf59 rfl rfl (rfl) (mapget hj)) ?_
      refine Al_p (Pu_field 1 rfl Tryz.underlying59 rfl rfl Tryz.sizeOf31 rfl) ?_
      refine Al_p (Pu_loadN rfl Tryz.isAgg31 Tryz.sizeOf31 rfl (Nat.le_of_ble_eq_true rfl)) ?_
      refine Al_storeN rfl rfl rfl (by kernel_rfl) Tryz.isAgg31 Tryz.sizeOf31 rfl rfl rfl rfl (Nat.le_of_ble_eq_true rfl) ?_
      refine Al_nil ?_
      refine Aw_ret ?_
      exact ⟨_, _, _, _, _, [_, _], rfl, rfl, rfl, rfl, rfl⟩ -- ret 0
    · (try simp only [decide_eq_true_eq, decide_eq_false_iff_not, Bool.and_eq_true, Bool.or_eq_true, Bool.and_eq_false_iff, Bool.or_eq_false_iff, Bool.not_eq_true', Bool.not_eq_false', beq_iff_eq, Bool.not_eq_eq_eq_not, Bool.not_true, Bool.not_false, List.length_map, Bool.and_true, Bool.and_false, Bool.false_and, Bool.true_and, Bool.or_false, Bool.false_or] at h18)
      have hne : ¬ p[j].key.toList = k.toList := by simpa using h18
      refine Aw_skip (Aw_region ?_)
      refine Al_p Pu_mvl ?_
      refine Al_p (Pu_add rfl rfl rfl (fun h1 h2 => by simp only [A.inI, A.maxI] at *; omega)) ?_
      refine Al_p Pu_mvr ?_
      refine Al_nil ?_
      exact ⟨j + 1, ⟨by omega, fun i hi hij => by
        by_cases e : i = j
        · subst e; exact hne
        · exact hno i hi (by omega)⟩, by omega, Le.ov ⟨Sub.num (by omega), trivial⟩ ⟨Sub.rfl, Sub.rfl, Sub.rfl, trivial⟩ trivial ⟨rfl, trivial⟩⟩ -- loop 0 next.0
  · (try simp only [decide_eq_true_eq, decide_eq_false_iff_not, Bool.and_eq_true, Bool.or_eq_true, Bool.and_eq_false_iff, Bool.or_eq_false_iff, Bool.not_eq_true', Bool.not_eq_false', beq_iff_eq, Bool.not_eq_eq_eq_not, Bool.not_true, Bool.not_false, List.length_map, Bool.and_true, Bool.and_false, Bool.false_and, Bool.true_and, Bool.or_false, Bool.false_or] at h9)
    have hge : D.get p k = (0, 0) := D.get_no (by
      unfold D.hasK
      rw [List.any_eq_false]
      intro x hx
      obtain ⟨i, hi, rfl⟩ := List.getElem_of_mem hx
      simpa using hno i hi (by omega))
    rw [hge]
    refine Aw_exit (Aw_seq (Aw_region ?_))
    refine Al_p (Pu_build (aa := []) rfl Tryz.underlying31 Tryz.zeroValue31 (places31 Tryz.underlying31) (by kernel_rfl) trivial rfl) ?_
    refine Al_storeN rfl rfl rfl (by kernel_rfl) Tryz.isAgg31 Tryz.sizeOf31 rfl rfl rfl rfl (Nat.le_of_ble_eq_true rfl) ?_
    refine Al_nil ?_
    refine Aw_ret ?_
    exact ⟨_, _, _, _, _, [_, _], rfl, rfl, rfl, rfl, rfl⟩ -- ret 1
set_option maxRecDepth 100000 in
set_option maxHeartbeats 1000000 in
theorem rcovers_a (p q : List Dep) : ACall Tryz.prog 17 [pastA p, pastA q] (bv (D.coversB p q)) := by
  refine ACall_enter (fun _ _ => by kernel_rfl) Tryz.func17 rfl Tryz.ntmps17 Tryz.results17 (Nat.le_of_ble_eq_true rfl) (fun hok M0 w0 hnl => ?_)
  have hlen := (hok _ (List.mem_cons_of_mem _ (List.mem_cons_self ..))).len
  rw [List.length_map] at hlen
  refine Aw_seq (Aw_region ?_)
  refine Al_p Pu_mvr ?_
  refine Al_nil (Aw_seq (Aw_seq (Aw_region ?_)))
  refine Al_p Pu_mvr ?_
  refine Al_nil (Aw_block ?_)
  refine Aw_loopk (ι := Nat) [0, 1] [] (fun j => [(5, .d (iv j))]) (fun j => []) (fun j => j ≤ q.length ∧ ∀ (i : Nat) (hi : i < q.length), i < j → D.lessB (D.get p q[i].key).1 (D.get p q[i].key).2 q[i].n q[i].s = false) (fun j => q.length - j) (0) (⟨Nat.zero_le _, by intros; omega⟩) ⟨Sub.rfl, trivial⟩ trivial ?_
  rintro j ⟨hk0, hno⟩
  refine Aw_seq (Aw_seq (Aw_region ?_))
  refine Al_p Pu_mvl ?_
  refine Al_p Pu_mvl ?_
  refine Al_p (Pu_len rfl Tryz.underlying32 rfl (by first | exact List.length_map .. | exact rfl)) ?_
  refine Al_p (Pu_cmp rfl rfl rfl rfl) ?_
  refine Al_nil ?_
  refine Aw_cond rfl (fun h10 => ?_) (fun h10 => ?_)
  · (try simp only [decide_eq_true_eq, decide_eq_false_iff_not, Bool.and_eq_true, Bool.or_eq_true, Bool.and_eq_false_iff, Bool.or_eq_false_iff, Bool.not_eq_true', Bool.not_eq_false', beq_iff_eq, Bool.not_eq_eq_eq_not, Bool.not_true, Bool.not_false, List.length_map, Bool.and_true, Bool.and_false, Bool.false_and, Bool.true_and, Bool.or_false, Bool.false_or] at h10)
    have hj : j < q.length := by omega
    have hge := rget_a p (q[j]'hj).key
    refine Aw_skip (Aw_seq (Aw_block (Aw_seq (Aw_region ?_))))
    refine Al_p Pu_mvl ?_
    refine Al_p Pu_mvl ?_
    refine Al_p Pu_mvl ?_
    refine Al_p (Pu_index rfl Tryz.underlying32 Tryz.sizeOf59 rfl rfl (rfl) (mapget hj)) ?_
    refine Al_p (Pu_field 0 rfl Tryz.underlying59 rfl rfl Tryz.sizeOf9 rfl) ?_
    refine Al_p (Pu_load1 rfl Tryz.isAgg9 rfl rfl) ?_
    refine Al_p (Pu_call (hge) rfl ⟨Sub.rfl, Sub.rfl, trivial⟩) ?_
    refine Al_alloc rfl rfl rfl (by decide) Tryz.zeroValue31 rfl (by kernel_rfl) (fun g6 => ?_)
    refine Al_storeN rfl rfl rfl (by kernel_rfl) Tryz.isAgg31 Tryz.sizeOf31 rfl rfl rfl rfl (Nat.le_of_ble_eq_true rfl) ?_
    refine Al_nil (Aw_seq ?_)
    refine Aw_draw 7 (by kernel_rfl) (by kernel_rfl) ?_
    refine Dr_p (Pu_loadbN (r := [_, _]) rfl Tryz.isAgg31 Tryz.sizeOf31 rfl rfl rfl rfl) ?_
    refine Dr_p Pu_mvl ?_
    refine Dr_p Pu_mvl ?_
    refine Dr_p (Pu_index rfl Tryz.underlying32 Tryz.sizeOf59 rfl rfl (rfl) (mapget hj)) ?_
    refine Dr_p (Pu_field 1 rfl Tryz.underlying59 rfl rfl Tryz.sizeOf31 rfl) ?_
    refine Dr_p (Pu_loadN rfl Tryz.isAgg31 Tryz.sizeOf31 rfl (Nat.le_of_ble_eq_true rfl)) ?_
    refine Dr_p (Pu_call (rless_a _ _ _ _) rfl ⟨Sub.rfl, Sub.rfl, trivial⟩) ?_
    refine Dr_nil (Al_nil ?_)
    refine Aw_cond rfl (fun h26 => ?_) (fun h26 => ?_)
    · skip
      have hc : D.coversB p q = false := by
        unfold D.coversB
        rw [List.all_eq_false]
        exact ⟨q[j], List.getElem_mem hj, by simpa using h26⟩
      refine Aw_seq (Aw_region ?_)
      refine Al_p Pu_mvr ?_
      refine Al_nil ?_
      refine Aw_ret ?_
      exact Sub.bool hc.symm -- ret 0
    · skip
      have hcf := h26
      refine Aw_skip (Aw_region ?_)
      refine Al_p Pu_mvl ?_
      refine Al_p (Pu_add rfl rfl rfl (fun h1 h2 => by simp only [A.inI, A.maxI] at *; omega)) ?_
      refine Al_p Pu_mvr ?_
      refine Al_nil ?_
      exact ⟨j + 1, ⟨by omega, fun i hi hij => by
        by_cases e : i = j
        · subst e; exact hcf
        · exact hno i hi (by omega)⟩, by omega, Le.ov ⟨Sub.num (by omega), trivial⟩ ⟨Sub.rfl, Sub.rfl, trivial⟩ trivial trivial⟩ -- loop 0 next.0
  · (try simp only [decide_eq_true_eq, decide_eq_false_iff_not, Bool.and_eq_true, Bool.or_eq_true, Bool.and_eq_false_iff, Bool.or_eq_false_iff, Bool.not_eq_true', Bool.not_eq_false', beq_iff_eq, Bool.not_eq_eq_eq_not, Bool.not_true, Bool.not_false, List.length_map, Bool.and_true, Bool.and_false, Bool.false_and, Bool.true_and, Bool.or_false, Bool.false_or] at h10)
    have hc : D.coversB p q = true := by
      unfold D.coversB
      rw [List.all_eq_true]
      intro x hx
      obtain ⟨i, hi, rfl⟩ := List.getElem_of_mem hx
      simpa using hno i hi (by omega)
    refine Aw_exit (Aw_seq (Aw_region ?_))
    refine Al_p Pu_mvr ?_
    refine Al_nil ?_
    refine Aw_ret ?_
    exact Sub.bool hc.symm -- ret 1
end Go.Proofs.YtmbaeloiepjakaaGreat
