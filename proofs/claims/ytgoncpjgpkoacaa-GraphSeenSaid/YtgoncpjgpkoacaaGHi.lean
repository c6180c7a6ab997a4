/- The reference's pasts put together, and its histories: ref04.Merge, Covers; ref20. -/
import Derived.Test.YtgoncpjgpkoacaaGRa
set_option linter.unusedSimpArgs false
set_option linter.unusedVariables false
namespace Go.Proofs.Ytgoncpjgpkoacaa
open Go.RowKit A R
open A.RowT
namespace D
def addAll (p q : List Dep) : List Dep := q.foldl add p
def mergeL (l : List (List Dep)) : List Dep := addAll [] l.flatten
theorem addAll_len : ∀ (q p : List Dep), (addAll p q).length ≤ p.length + q.length
  | [], p => Nat.le_refl _
  | d :: q, p => by
    have h1 := addAll_len q (add p d)
    have h2 := add_len p d
    show (addAll (add p d) q).length ≤ _
    simp only [List.length_cons]
    omega
theorem addAll_succ (p q : List Dep) {k : Nat} (hk : k < q.length) : addAll p (q.take (k + 1)) = add (addAll p (q.take k)) q[k] := by
  unfold addAll
  rw [List.take_succ_eq_append_getElem hk, List.foldl_append]; rfl
theorem addAll_app (p q r : List Dep) : addAll p (q ++ r) = addAll (addAll p q) r := List.foldl_append
theorem flat_len (l : List (List Dep)) (k : Nat) : (l.take k).flatten.length ≤ l.flatten.length := by
  have : l.flatten = (l.take k).flatten ++ (l.drop k).flatten := by rw [← List.flatten_append, List.take_append_drop]
  rw [this, List.length_append]; omega
theorem flat_len2 (l : List (List Dep)) {k : Nat} (hk : k < l.length) : (l.take k).flatten.length + l[k].length ≤ l.flatten.length := by
  have := flat_len l (k + 1)
  rw [List.take_succ_eq_append_getElem hk, List.flatten_append, List.length_append] at this
  simpa using this
theorem mergeL_succ (l : List (List Dep)) {k : Nat} (hk : k < l.length) : mergeL (l.take (k + 1)) = addAll (mergeL (l.take k)) l[k] := by
  unfold mergeL
  rw [List.take_succ_eq_append_getElem hk, List.flatten_append, addAll_app]; simp
def coversB (p q : List Dep) : Bool := q.all fun d => !lessB (get p d.key).1 (get p d.key).2 d.n d.s
end D
abbrev pastA (p : List Dep) : AV := .sl 3 (p.map Dep.row)
set_option maxRecDepth 100000 in
set_option maxHeartbeats 1000000 in
theorem rmerge_a (l : List (List Dep)) (hl : l.flatten.length ≤ 1000) : ACall Try.prog 14 [.sl 1 (l.map fun p => [pastA p])] (pastA (D.mergeL l)) := by
  refine ACall_enter (fun _ _ => by kernel_rfl) Try.func14 rfl Try.ntmps14 Try.results14 (Nat.le_of_ble_eq_true rfl) (fun hok M0 w0 hnl => ?_)
  have hlen := (hok _ (List.mem_cons_self ..)).len
  rw [List.length_map] at hlen
  refine Aw_seq ?_
  refine Aw_region ?_
  refine Al_pu (Pu_move (.inr rfl) (by conv => lhs; whnf)) rfl rfl (by decide) (by kernel_rfl) ?_
  refine Al_nil ?_
  refine Aw_seq ?_
  refine Aw_region ?_
  refine Al_pu (Pu_move (.inr rfl) (by conv => lhs; whnf)) rfl rfl (by decide) (by kernel_rfl) ?_
  refine Al_nil ?_
  refine Aw_seq ?_
  refine Aw_seq ?_
  refine Aw_region ?_
  refine Al_pu (Pu_move (.inr rfl) (by conv => lhs; whnf)) rfl rfl (by decide) (by kernel_rfl) ?_
  refine Al_nil ?_
  refine Aw_block ?_
  refine Aw_loopk (ι := Nat) [0] [] (fun i => [(4, .d (iv i)), (3, .d (pastA (D.mergeL (l.take i))))]) (fun i => []) (fun i => i ≤ l.length) (fun i => l.length - i) (0) (Nat.zero_le _) ⟨Sub.rfl, Sub.nil, trivial⟩ trivial ?_
  rintro i hk0
  refine Aw_seq ?_
  refine Aw_seq ?_
  refine Aw_region ?_
  refine Al_pu (Pu_move (.inl rfl) (by conv => lhs; whnf)) rfl rfl (by decide) (by kernel_rfl) ?_
  refine Al_pu (Pu_move (.inl rfl) (by conv => lhs; whnf)) rfl rfl (by decide) (by kernel_rfl) ?_
  refine Al_pu (Pu_len rfl Try.underlying41 rfl (by first | exact List.length_map .. | exact rfl)) rfl rfl (by decide) (by kernel_rfl) ?_
  refine Al_pu (Pu_cmp rfl rfl rfl rfl) rfl rfl (by decide) (by kernel_rfl) ?_
  refine Al_nil ?_
  refine Aw_cond rfl (fun h9 => ?_) (fun h9 => ?_)
  · (try simp only [decide_eq_true_eq, decide_eq_false_iff_not, Bool.and_eq_true, Bool.or_eq_true, Bool.and_eq_false_iff, Bool.or_eq_false_iff, Bool.not_eq_true', Bool.not_eq_false', beq_iff_eq, Bool.not_eq_eq_eq_not, Bool.not_true, Bool.not_false, List.length_map, Bool.and_true, Bool.and_false, Bool.false_and, Bool.true_and, Bool.or_false, Bool.false_or] at h9)
    have hi : i < l.length := by omega
    have hfl := D.flat_len2 l hi
    have hml := D.addAll_len (l.take i).flatten []
    have hgi : l.getD i default = l[i] := by simp [hi]
    refine Aw_skip ?_
    refine Aw_seq ?_
    refine Aw_block ?_
    refine Aw_seq ?_
    refine Aw_region ?_
    refine Al_pu (Pu_move (.inr rfl) (by conv => lhs; whnf)) rfl rfl (by decide) (by kernel_rfl) ?_
    refine Al_nil ?_
    refine Aw_block ?_
    refine Aw_loopk (ι := Nat) [0, 4] [] (fun j => [(5, .d (iv j)), (3, .d (pastA (D.addAll (D.mergeL (l.take i)) ((l.getD i default).take j))))]) (fun j => []) (fun j => j ≤ (l.getD i default).length) (fun j => (l.getD i default).length - j) (0) (Nat.zero_le _) ⟨Sub.rfl, Sub.rfl, trivial⟩ trivial ?_
    rintro j hk1
    refine Aw_seq ?_
    refine Aw_seq ?_
    refine Aw_region ?_
    refine Al_pu (Pu_move (.inl rfl) (by conv => lhs; whnf)) rfl rfl (by decide) (by kernel_rfl) ?_
    refine Al_pu (Pu_move (.inl rfl) (by conv => lhs; whnf)) rfl rfl (by decide) (by kernel_rfl) ?_
    refine Al_pu (Pu_move (.inl rfl) (by conv => lhs; whnf)) rfl rfl (by decide) (by kernel_rfl) ?_
    refine Al_pu (Pu_index rfl Try.underlying41 Try.sizeOf31 rfl rfl (rfl) (mapgetD (d := default) hi)) rfl rfl (by decide) (by kernel_rfl) ?_
    refine Al_pu (Pu_load1 rfl Try.isAgg31 rfl rfl) rfl rfl (by decide) (by kernel_rfl) ?_
    refine Al_pu (Pu_len rfl Try.underlying31 rfl (by first | exact List.length_map .. | exact rfl)) rfl rfl (by decide) (by kernel_rfl) ?_
    refine Al_pu (Pu_cmp rfl rfl rfl rfl) rfl rfl (by decide) (by kernel_rfl) ?_
    refine Al_nil ?_
    refine Aw_cond rfl (fun h18 => ?_) (fun h18 => ?_)
    · (try simp only [decide_eq_true_eq, decide_eq_false_iff_not, Bool.and_eq_true, Bool.or_eq_true, Bool.and_eq_false_iff, Bool.or_eq_false_iff, Bool.not_eq_true', Bool.not_eq_false', beq_iff_eq, Bool.not_eq_eq_eq_not, Bool.not_true, Bool.not_false, List.length_map, Bool.and_true, Bool.and_false, Bool.false_and, Bool.true_and, Bool.or_false, Bool.false_or] at h18)
      have hj : j < (l.getD i default).length := by omega
      have hal := D.addAll_len ((l.getD i default).take j) (D.mergeL (l.take i))
      have htl : ((l.getD i default).take j).length ≤ (l.getD i default).length := by rw [List.length_take]; omega
      have hml2 : (D.mergeL (l.take i)).length ≤ (l.take i).flatten.length := by unfold D.mergeL; simpa using hml
      have hgl : (l.getD i default).length = l[i].length := by rw [hgi]
      have hda := dadd_a (D.addAll (D.mergeL (l.take i)) ((l.getD i default).take j)) ((l.getD i default)[j]'hj) (by omega)
      refine Aw_skip ?_
      refine Aw_seq ?_
      refine Aw_block ?_
      refine Aw_region ?_
      refine Al_pu (Pu_move (.inl rfl) (by conv => lhs; whnf)) rfl rfl (by decide) (by kernel_rfl) ?_
      refine Al_pu (Pu_move (.inl rfl) (by conv => lhs; whnf)) rfl rfl (by decide) (by kernel_rfl) ?_
      refine Al_pu (Pu_move (.inl rfl) (by conv => lhs; whnf)) rfl rfl (by decide) (by kernel_rfl) ?_
      refine Al_pu (Pu_index rfl Try.underlying41 Try.sizeOf31 rfl rfl (rfl) (mapgetD (d := default) hi)) rfl rfl (by decide) (by kernel_rfl) ?_
      refine Al_pu (Pu_load1 rfl Try.isAgg31 rfl rfl) rfl rfl (by decide) (by kernel_rfl) ?_
      refine Al_pu (Pu_move (.inl rfl) (by conv => lhs; whnf)) rfl rfl (by decide) (by kernel_rfl) ?_
      refine Al_pu (Pu_index rfl Try.underlying31 Try.sizeOf60 rfl rfl (rfl) (mapget hj)) rfl rfl (by decide) (by kernel_rfl) ?_
      refine Al_pu (Pu_loadN rfl Try.isAgg60 Try.sizeOf60 rfl (Nat.le_of_ble_eq_true rfl)) rfl rfl (by decide) (by kernel_rfl) ?_
      refine Al_pu (Pu_call (hda) rfl ⟨Sub.rfl, Sub.rfl, trivial⟩) rfl rfl (by decide) (by kernel_rfl) ?_
      refine Al_pu (Pu_move (.inr rfl) (by conv => lhs; whnf)) rfl rfl (by decide) (by kernel_rfl) ?_
      refine Al_nil ?_
      refine Aw_region ?_
      refine Al_pu (Pu_move (.inl rfl) (by conv => lhs; whnf)) rfl rfl (by decide) (by kernel_rfl) ?_
      refine Al_pu (Pu_add rfl rfl rfl (fun h1 h2 => by simp only [A.inI, A.maxI] at *; omega)) rfl rfl (by decide) (by kernel_rfl) ?_
      refine Al_pu (Pu_move (.inr rfl) (by conv => lhs; whnf)) rfl rfl (by decide) (by kernel_rfl) ?_
      refine Al_nil ?_
      exact ⟨j + 1, by omega, by omega, Le.ov ⟨Sub.num (by omega), Sub.d (by rw [D.addAll_succ _ _ hj]), trivial⟩ ⟨Sub.rfl, Sub.rfl, trivial⟩ trivial trivial⟩ -- loop 1 next.0
    · (try simp only [decide_eq_true_eq, decide_eq_false_iff_not, Bool.and_eq_true, Bool.or_eq_true, Bool.and_eq_false_iff, Bool.or_eq_false_iff, Bool.not_eq_true', Bool.not_eq_false', beq_iff_eq, Bool.not_eq_eq_eq_not, Bool.not_true, Bool.not_false, List.length_map, Bool.and_true, Bool.and_false, Bool.false_and, Bool.true_and, Bool.or_false, Bool.false_or] at h18)
      have hjj : (l.getD i default).take j = l[i] := by rw [List.take_of_length_le (by omega), hgi]
      refine Aw_exit ?_
      refine Aw_region ?_
      refine Al_pu (Pu_move (.inl rfl) (by conv => lhs; whnf)) rfl rfl (by decide) (by kernel_rfl) ?_
      refine Al_pu (Pu_add rfl rfl rfl (fun h1 h2 => by simp only [A.inI, A.maxI] at *; omega)) rfl rfl (by decide) (by kernel_rfl) ?_
      refine Al_pu (Pu_move (.inr rfl) (by conv => lhs; whnf)) rfl rfl (by decide) (by kernel_rfl) ?_
      refine Al_nil ?_
      exact ⟨i + 1, by omega, by omega, Le.ov ⟨Sub.num (by omega), Sub.d (by rw [hjj, D.mergeL_succ l hi]), trivial⟩ ⟨Sub.rfl, trivial⟩ trivial trivial⟩ -- loop 0 next.0
  · (try simp only [decide_eq_true_eq, decide_eq_false_iff_not, Bool.and_eq_true, Bool.or_eq_true, Bool.and_eq_false_iff, Bool.or_eq_false_iff, Bool.not_eq_true', Bool.not_eq_false', beq_iff_eq, Bool.not_eq_eq_eq_not, Bool.not_true, Bool.not_false, List.length_map, Bool.and_true, Bool.and_false, Bool.false_and, Bool.true_and, Bool.or_false, Bool.false_or] at h9)
    have hii : l.take i = l := List.take_of_length_le (by omega)
    refine Aw_exit ?_
    refine Aw_seq ?_
    refine Aw_region ?_
    refine Al_pu (Pu_move (.inl rfl) (by conv => lhs; whnf)) rfl rfl (by decide) (by kernel_rfl) ?_
    refine Al_pu (Pu_move (.inr rfl) (by conv => lhs; whnf)) rfl rfl (by decide) (by kernel_rfl) ?_
    refine Al_nil ?_
    refine Aw_ret ?_
    exact Sub.d (by rw [hii]) -- ret 0
set_option maxRecDepth 100000 in
set_option maxHeartbeats 1000000 in
theorem rcovers_a (p q : List Dep) : ACall Try.prog 16 [pastA p, pastA q] (bv (D.coversB p q)) := by
  refine ACall_enter (fun _ _ => by kernel_rfl) Try.func16 rfl Try.ntmps16 Try.results16 (Nat.le_of_ble_eq_true rfl) (fun hok M0 w0 hnl => ?_)
  have hlen := (hok _ (List.mem_cons_of_mem _ (List.mem_cons_self ..))).len
  rw [List.length_map] at hlen
  refine Aw_seq ?_
  refine Aw_region ?_
  refine Al_pu (Pu_move (.inr rfl) (by conv => lhs; whnf)) rfl rfl (by decide) (by kernel_rfl) ?_
  refine Al_nil ?_
  refine Aw_seq ?_
  refine Aw_seq ?_
  refine Aw_region ?_
  refine Al_pu (Pu_move (.inr rfl) (by conv => lhs; whnf)) rfl rfl (by decide) (by kernel_rfl) ?_
  refine Al_nil ?_
  refine Aw_block ?_
  refine Aw_loopk (ι := Nat) [0, 1] [] (fun j => [(5, .d (iv j))]) (fun j => []) (fun j => j ≤ q.length ∧ ∀ (i : Nat) (hi : i < q.length), i < j → D.lessB (D.get p q[i].key).1 (D.get p q[i].key).2 q[i].n q[i].s = false) (fun j => q.length - j) (0) (⟨Nat.zero_le _, by intros; omega⟩) ⟨Sub.rfl, trivial⟩ trivial ?_
  rintro j ⟨hk0, hno⟩
  refine Aw_seq ?_
  refine Aw_seq ?_
  refine Aw_region ?_
  refine Al_pu (Pu_move (.inl rfl) (by conv => lhs; whnf)) rfl rfl (by decide) (by kernel_rfl) ?_
  refine Al_pu (Pu_move (.inl rfl) (by conv => lhs; whnf)) rfl rfl (by decide) (by kernel_rfl) ?_
  refine Al_pu (Pu_len rfl Try.underlying31 rfl (by first | exact List.length_map .. | exact rfl)) rfl rfl (by decide) (by kernel_rfl) ?_
  refine Al_pu (Pu_cmp rfl rfl rfl rfl) rfl rfl (by decide) (by kernel_rfl) ?_
  refine Al_nil ?_
  refine Aw_cond rfl (fun h10 => ?_) (fun h10 => ?_)
  · (try simp only [decide_eq_true_eq, decide_eq_false_iff_not, Bool.and_eq_true, Bool.or_eq_true, Bool.and_eq_false_iff, Bool.or_eq_false_iff, Bool.not_eq_true', Bool.not_eq_false', beq_iff_eq, Bool.not_eq_eq_eq_not, Bool.not_true, Bool.not_false, List.length_map, Bool.and_true, Bool.and_false, Bool.false_and, Bool.true_and, Bool.or_false, Bool.false_or] at h10)
    have hj : j < q.length := by omega
    have hge := rget_a p (q[j]'hj).key
    refine Aw_skip ?_
    refine Aw_seq ?_
    refine Aw_block ?_
    refine Aw_seq ?_
    refine Aw_region ?_
    refine Al_pu (Pu_move (.inl rfl) (by conv => lhs; whnf)) rfl rfl (by decide) (by kernel_rfl) ?_
    refine Al_pu (Pu_move (.inl rfl) (by conv => lhs; whnf)) rfl rfl (by decide) (by kernel_rfl) ?_
    refine Al_pu (Pu_move (.inl rfl) (by conv => lhs; whnf)) rfl rfl (by decide) (by kernel_rfl) ?_
    refine Al_pu (Pu_index rfl Try.underlying31 Try.sizeOf60 rfl rfl (rfl) (mapget hj)) rfl rfl (by decide) (by kernel_rfl) ?_
    refine Al_pu (Pu_field 0 rfl Try.underlying60 rfl rfl Try.sizeOf9 rfl) rfl rfl (by decide) (by kernel_rfl) ?_
    refine Al_pu (Pu_load1 rfl Try.isAgg9 rfl rfl) rfl rfl (by decide) (by kernel_rfl) ?_
    refine Al_pu (Pu_call (hge) rfl ⟨Sub.rfl, Sub.rfl, trivial⟩) rfl rfl (by decide) (by kernel_rfl) ?_
    refine Al_alloc rfl rfl rfl (by decide) Try.zeroValue30 rfl (by kernel_rfl) (fun g6 => ?_)
    refine Al_storeN rfl rfl rfl (by kernel_rfl) Try.isAgg30 Try.sizeOf30 rfl rfl rfl rfl (Nat.le_of_ble_eq_true rfl) ?_
    refine Al_nil ?_
    refine Aw_seq ?_
    refine Aw_draw 7 (by kernel_rfl) (by kernel_rfl) ?_
    refine Dr_pu (Pu_loadbN (r := [_, _]) rfl Try.isAgg30 Try.sizeOf30 rfl rfl rfl rfl) rfl rfl ?_
    refine Dr_pu (Pu_move (.inl rfl) (by conv => lhs; whnf)) rfl rfl ?_
    refine Dr_pu (Pu_move (.inl rfl) (by conv => lhs; whnf)) rfl rfl ?_
    refine Dr_pu (Pu_index rfl Try.underlying31 Try.sizeOf60 rfl rfl (rfl) (mapget hj)) rfl rfl ?_
    refine Dr_pu (Pu_field 1 rfl Try.underlying60 rfl rfl Try.sizeOf30 rfl) rfl rfl ?_
    refine Dr_pu (Pu_loadN rfl Try.isAgg30 Try.sizeOf30 rfl (Nat.le_of_ble_eq_true rfl)) rfl rfl ?_
    refine Dr_pu (Pu_call (rless_a _ _ _ _) rfl ⟨Sub.rfl, Sub.rfl, trivial⟩) rfl rfl ?_
    refine Dr_nil ?_
    refine Al_nil ?_
    refine Aw_cond rfl (fun h26 => ?_) (fun h26 => ?_)
    · skip
      have hc : D.coversB p q = false := by
        unfold D.coversB
        rw [List.all_eq_false]
        exact ⟨q[j], List.getElem_mem hj, by simpa using h26⟩
      refine Aw_seq ?_
      refine Aw_region ?_
      refine Al_pu (Pu_move (.inr rfl) (by conv => lhs; whnf)) rfl rfl (by decide) (by kernel_rfl) ?_
      refine Al_nil ?_
      refine Aw_ret ?_
      exact Sub.bool hc.symm -- ret 0
    · skip
      have hcf := h26
      refine Aw_skip ?_
      refine Aw_region ?_
      refine Al_pu (Pu_move (.inl rfl) (by conv => lhs; whnf)) rfl rfl (by decide) (by kernel_rfl) ?_
      refine Al_pu (Pu_add rfl rfl rfl (fun h1 h2 => by simp only [A.inI, A.maxI] at *; omega)) rfl rfl (by decide) (by kernel_rfl) ?_
      refine Al_pu (Pu_move (.inr rfl) (by conv => lhs; whnf)) rfl rfl (by decide) (by kernel_rfl) ?_
      refine Al_nil ?_
      exact ⟨j + 1, ⟨by omega, fun i hi hij => by
        by_cases e : i = j
        · subst e; exact hcf
        · exact hno i hi (by omega)⟩, by omega, Le.ov ⟨Sub.num (by omega), trivial⟩ ⟨Sub.rfl, Sub.rfl, trivial⟩ trivial trivial⟩ -- loop 0 next.0
  · (try simp only [decide_eq_true_eq, decide_eq_false_iff_not, Bool.and_eq_true, Bool.or_eq_true, Bool.and_eq_false_iff, Bool.or_eq_false_iff, Bool.not_eq_true', Bool.not_eq_false', beq_iff_eq, Bool.not_eq_eq_eq_not, Bool.not_true, Bool.not_false, List.length_map, Bool.and_true, Bool.and_false, Bool.false_and, Bool.true_and, Bool.or_false, Bool.false_or] at h10)
    have hc : D.coversB p q = true := by
      unfold D.coversB
      rw [List.all_eq_true]
      intro x hx
      obtain ⟨i, hi, rfl⟩ := List.getElem_of_mem hx
      simpa using hno i hi (by omega)
    refine Aw_exit ?_
    refine Aw_seq ?_
    refine Aw_region ?_
    refine Al_pu (Pu_move (.inr rfl) (by conv => lhs; whnf)) rfl rfl (by decide) (by kernel_rfl) ?_
    refine Al_nil ?_
    refine Aw_ret ?_
    exact Sub.bool hc.symm -- ret 1
namespace G
def behindN (l : List Event) (j : Nat) : List Dep := D.mergeL [(l.getD j default).seen, [depE (l.getD j default)]]
def behind (l : List Event) (i : Int) : List Dep := if 0 ≤ i ∧ i < l.length then behindN l i.toNat else []
theorem behind_at (l : List Event) {i : Nat} (hi : i < l.length) : behind l i = behindN l i := by
  unfold behind
  rw [if_pos ⟨by omega, by omega⟩, Int.toNat_natCast]
theorem behind_no (l : List Event) {i : Int} (hi : ¬ (0 ≤ i ∧ i < l.length)) : behind l i = [] := if_neg hi
def lastZ (l : List Event) (k : Nat) (c : Int) : Int := match last l k c with | some i => (i : Int) | none => -1
theorem lastZ_succ (l : List Event) {k : Nat} (hk : k < l.length) (c : Int) : lastZ l (k + 1) c = if (l.getD k default).client = c then (k : Int) else lastZ l k c := by
  unfold lastZ
  have hg : l.getD k default = l[k] := by simp [hk]
  rw [last_succ l hk, hg]
  by_cases h : l[k].client = c
  · rw [if_pos h, if_pos h]
  · rw [if_neg h, if_neg h]
theorem lastZ_le (l : List Event) {k : Nat} (c : Int) : -1 ≤ lastZ l k c ∧ lastZ l k c < k := by
  unfold lastZ
  split
  · rename_i i h
    have := (last_lt h).1
    omega
  · omega
def thB (e w : Event) : Bool := (decide (w.kind = 1) && (w.n == e.n && w.s == e.s)) && (decide (e.kind = 1) || w.key.toList == e.key.toList)
def thTo (l : List Event) (i k : Nat) : Bool := (l.take k).any (thB (l.getD i default))
theorem thTo_succ (l : List Event) (i : Nat) {k : Nat} (hk : k < l.length) : thTo l i (k + 1) = (thTo l i k || thB (l.getD i default) (l.getD k default)) := by
  have hg : l.getD k default = l[k] := by simp [hk]
  unfold thTo
  rw [List.take_succ_eq_append_getElem hk, List.any_append, List.any_cons, List.any_nil, Bool.or_false, hg]
/-- An event that is right behind those ahead of it. -/
structure RightAt (l : List Event) (i : Nat) : Prop where
  key : K.checkB (l.getD i default).key = true
  seen : D.Good (l.getD i default).seen
  cov : D.coversB (l.getD i default).seen (behind l (lastZ l i (l.getD i default).client)) = true
  wr : (l.getD i default).kind = 1 → V.stampB (l.getD i default).n (l.getD i default).s = true ∧ (∀ d ∈ (l.getD i default).seen, D.lessB d.n d.s (l.getD i default).n (l.getD i default).s = true) ∧ thTo l i i = false
  rd : (l.getD i default).kind ≠ 1 → (l.getD i default).kind = 2 ∧ D.lessB (l.getD i default).n (l.getD i default).s (D.get (l.getD i default).seen (l.getD i default).key).1 (D.get (l.getD i default).seen (l.getD i default).key).2 = false ∧ (((l.getD i default).n = 0 ∧ (l.getD i default).s = 0) ∨ thTo l i i = true)
end G
set_option maxRecDepth 100000 in
set_option maxHeartbeats 1000000 in
theorem rbehind_a (l : List Event) (hs : ∀ e ∈ l, e.seen.length ≤ 900) (i : Int) : ACall Try.prog 15 [.sl 6 (l.map Event.row), iv i] (pastA (G.behind l i)) := by
  refine ACall_enter (fun _ _ => by kernel_rfl) Try.func15 rfl Try.ntmps15 Try.results15 (Nat.le_of_ble_eq_true rfl) (fun hok M0 w0 hnl => ?_)
  refine Aw_seq ?_
  refine Aw_region ?_
  refine Al_pu (Pu_move (.inr rfl) (by conv => lhs; whnf)) rfl rfl (by decide) (by kernel_rfl) ?_
  refine Al_nil ?_
  refine Aw_seq ?_
  refine Aw_seq ?_
  refine Aw_region ?_
  refine Al_pu (Pu_move (.inl rfl) (by conv => lhs; whnf)) rfl rfl (by decide) (by kernel_rfl) ?_
  refine Al_pu (Pu_cmp rfl rfl rfl rfl) rfl rfl (by decide) (by kernel_rfl) ?_
  refine Al_pu (Pu_move (.inl rfl) (by conv => lhs; whnf)) rfl rfl (by decide) (by kernel_rfl) ?_
  refine Al_st (St_gd [] rfl rfl rfl rfl trivial (fun hg8 => by exact Pu_move (.inl rfl) (by conv => lhs; whnf))) rfl (by decide) (by kernel_rfl) (by intro j b oj dj h1 h2 h3; cases h1; cases h2; cases h3; decide) ?_
  refine Al_st (St_gd [] rfl rfl rfl rfl trivial (fun hg9 => by exact Pu_move (.inl rfl) (by conv => lhs; whnf))) rfl (by decide) (by kernel_rfl) (by intro j b oj dj h1 h2 h3; cases h1; cases h2; cases h3; decide) ?_
  refine Al_st (St_gd [9] rfl rfl rfl rfl ⟨⟨_, rfl⟩, trivial⟩ (fun hg10 => by exact Pu_len rfl Try.underlying24 rfl (by first | exact List.length_map .. | exact rfl))) rfl (by decide) (by kernel_rfl) (by intro j b oj dj h1 h2 h3; cases h1; cases h2; cases h3; decide) ?_
  refine Al_st (St_gd [8, 10] rfl rfl rfl rfl ⟨⟨_, rfl⟩, ⟨_, rfl⟩, trivial⟩ (fun hg11 => Pu_cmp rfl rfl rfl rfl)) rfl (by decide) (by kernel_rfl) (by intro j b oj dj h1 h2 h3; cases h1; cases h2; cases h3; decide) ?_
  refine Al_pu (Pu_or rfl rfl rfl rfl) rfl rfl (by decide) (by kernel_rfl) ?_
  refine Al_nil ?_
  refine Aw_cond rfl (fun h12 => ?_) (fun h12 => ?_)
  · (try simp only [decide_eq_true_eq, decide_eq_false_iff_not, Bool.and_eq_true, Bool.or_eq_true, Bool.and_eq_false_iff, Bool.or_eq_false_iff, Bool.not_eq_true', Bool.not_eq_false', beq_iff_eq, Bool.not_eq_eq_eq_not, Bool.not_true, Bool.not_false, List.length_map, Bool.and_true, Bool.and_false, Bool.false_and, Bool.true_and, Bool.or_false, Bool.false_or] at h12)
    have hno : ¬ (0 ≤ i ∧ i < l.length) := by omega
    rw [G.behind_no l hno]
    refine Aw_seq ?_
    refine Aw_region ?_
    refine Al_pu (Pu_move (.inr rfl) (by conv => lhs; whnf)) rfl rfl (by decide) (by kernel_rfl) ?_
    refine Al_nil ?_
    refine Aw_ret ?_
    exact Sub.nil -- ret 0
  · (try simp only [decide_eq_true_eq, decide_eq_false_iff_not, Bool.and_eq_true, Bool.or_eq_true, Bool.and_eq_false_iff, Bool.or_eq_false_iff, Bool.not_eq_true', Bool.not_eq_false', beq_iff_eq, Bool.not_eq_eq_eq_not, Bool.not_true, Bool.not_false, List.length_map, Bool.and_true, Bool.and_false, Bool.false_and, Bool.true_and, Bool.or_false, Bool.false_or] at h12)
    have hyes : 0 ≤ i ∧ i < l.length := by omega
    obtain ⟨i, rfl⟩ : ∃ n : Nat, i = n := ⟨i.toNat, by omega⟩
    have hi : i < l.length := by omega
    rw [G.behind_at l hi]
    have hsl : (l.getD i default).seen.length ≤ 900 := by
      have : l.getD i default = l[i] := by simp [hi]
      rw [this]; exact hs _ (List.getElem_mem hi)
    have hme := rmerge_a [(l.getD i default).seen, [G.depE (l.getD i default)]] (by
      have : [(l.getD i default).seen, [G.depE (l.getD i default)]].flatten.length = (l.getD i default).seen.length + 1 := by rw [List.flatten_cons, List.length_append]; rfl
      omega)
    refine Aw_skip ?_
    refine Aw_seq ?_
    refine Aw_draw 19 (by kernel_rfl) (by kernel_rfl) ?_
    refine Dr_pu (Pu_move (.inl rfl) (by conv => lhs; whnf)) rfl rfl ?_
    refine Dr_pu (Pu_move (.inl rfl) (by conv => lhs; whnf)) rfl rfl ?_
    refine Dr_pu (Pu_index rfl Try.underlying24 Try.sizeOf33 rfl rfl (rfl) (mapgetD (d := default) hi)) rfl rfl ?_
    refine Dr_pu (Pu_field 5 rfl Try.underlying33 rfl rfl Try.sizeOf31 rfl) rfl rfl ?_
    refine Dr_pu (Pu_load1 rfl Try.isAgg31 rfl rfl) rfl rfl ?_
    refine Dr_pu (Pu_move (.inl rfl) (by conv => lhs; whnf)) rfl rfl ?_
    refine Dr_pu (Pu_move (.inl rfl) (by conv => lhs; whnf)) rfl rfl ?_
    refine Dr_pu (Pu_index rfl Try.underlying24 Try.sizeOf33 rfl rfl (rfl) (mapgetD (d := default) hi)) rfl rfl ?_
    refine Dr_pu (Pu_field 2 rfl Try.underlying33 rfl rfl Try.sizeOf9 rfl) rfl rfl ?_
    refine Dr_pu (Pu_load1 rfl Try.isAgg9 rfl rfl) rfl rfl ?_
    refine Dr_pu (Pu_move (.inl rfl) (by conv => lhs; whnf)) rfl rfl ?_
    refine Dr_pu (Pu_move (.inl rfl) (by conv => lhs; whnf)) rfl rfl ?_
    refine Dr_pu (Pu_index rfl Try.underlying24 Try.sizeOf33 rfl rfl (rfl) (mapgetD (d := default) hi)) rfl rfl ?_
    refine Dr_pu (Pu_field 3 rfl Try.underlying33 rfl rfl Try.sizeOf30 rfl) rfl rfl ?_
    refine Dr_pu (Pu_loadN rfl Try.isAgg30 Try.sizeOf30 rfl (Nat.le_of_ble_eq_true rfl)) rfl rfl ?_
    refine Dr_pu (Pu_build (aa := [(0, _), (1, _)]) rfl Try.underlying60 Try.zeroValue60 (places60 Try.underlying60) (by kernel_rfl) ⟨rfl, rfl, rfl, rfl, rfl, rfl, trivial⟩ rfl) rfl rfl ?_
    refine Dr_pu (Pu_slice1 rfl Try.underlying31 Try.sizeOf60 Try.zeroValue60 rfl (by decide) (by decide) (by kernel_rfl) rfl rfl rfl) rfl rfl ?_
    refine Dr_pu (Pu_buildSlice (aa := [(0, _), (1, _)]) rfl Try.underlying41 Try.sizeOf31 Try.zeroValue31 rfl (by decide) (by decide) (by decide) (by kernel_rfl) ⟨rfl, rfl, rfl, rfl, rfl, rfl, trivial⟩ ((rfl : _ = some [[pastA (l.getD i default).seen], [pastA [G.depE (l.getD i default)]]].flatten)) rfl rfl) rfl rfl ?_
    refine Dr_pu (Pu_call (hme) rfl ⟨Sub.rfl, trivial⟩) rfl rfl ?_
    refine Dr_nil ?_
    refine Al_pu (Pu_move (.inr rfl) (by conv => lhs; whnf)) rfl rfl (by decide) (by kernel_rfl) ?_
    refine Al_nil ?_
    refine Aw_ret ?_
    exact Sub.rfl -- ret 1
set_option maxRecDepth 100000 in
set_option maxHeartbeats 1000000 in
theorem rrow_a (p : List Dep) (hp : D.Good p) : ACall Try.prog 53 [pastA p] (bv true) := by
  refine ACall_enter (fun _ _ => by kernel_rfl) Try.func53 rfl Try.ntmps53 Try.results53 (Nat.le_of_ble_eq_true rfl) (fun hok M0 w0 hnl => ?_)
  have hlen := (hok _ (List.mem_cons_self ..)).len
  rw [List.length_map] at hlen
  refine Aw_seq ?_
  refine Aw_region ?_
  refine Al_pu (Pu_move (.inr rfl) (by conv => lhs; whnf)) rfl rfl (by decide) (by kernel_rfl) ?_
  refine Al_nil ?_
  refine Aw_seq ?_
  refine Aw_seq ?_
  refine Aw_region ?_
  refine Al_pu (Pu_move (.inr rfl) (by conv => lhs; whnf)) rfl rfl (by decide) (by kernel_rfl) ?_
  refine Al_nil ?_
  refine Aw_block ?_
  refine Aw_loopk (ι := Nat) [0] [] (fun i => [(3, .d (iv i))]) (fun i => []) (fun i => i ≤ p.length) (fun i => p.length - i) (0) (Nat.zero_le _) ⟨Sub.rfl, trivial⟩ trivial ?_
  rintro i hk0
  refine Aw_seq ?_
  refine Aw_seq ?_
  refine Aw_region ?_
  refine Al_pu (Pu_move (.inl rfl) (by conv => lhs; whnf)) rfl rfl (by decide) (by kernel_rfl) ?_
  refine Al_pu (Pu_move (.inl rfl) (by conv => lhs; whnf)) rfl rfl (by decide) (by kernel_rfl) ?_
  refine Al_pu (Pu_len rfl Try.underlying31 rfl (by first | exact List.length_map .. | exact rfl)) rfl rfl (by decide) (by kernel_rfl) ?_
  refine Al_pu (Pu_cmp rfl rfl rfl rfl) rfl rfl (by decide) (by kernel_rfl) ?_
  refine Al_nil ?_
  refine Aw_cond rfl (fun h9 => ?_) (fun h9 => ?_)
  · (try simp only [decide_eq_true_eq, decide_eq_false_iff_not, Bool.and_eq_true, Bool.or_eq_true, Bool.and_eq_false_iff, Bool.or_eq_false_iff, Bool.not_eq_true', Bool.not_eq_false', beq_iff_eq, Bool.not_eq_eq_eq_not, Bool.not_true, Bool.not_false, List.length_map, Bool.and_true, Bool.and_false, Bool.false_and, Bool.true_and, Bool.or_false, Bool.false_or] at h9)
    have hi : i < p.length := by omega
    have hok1 := hp.ok _ (List.getElem_mem hi)
    have hgi : p.getD i default = p[i] := by simp [hi]
    rw [← hgi] at hok1
    unfold D.okB at hok1
    simp only [Bool.and_eq_true] at hok1
    have hprev : ∀ j, j + 1 = i → Op.bytesLess (p.getD j default).key.toList (p.getD i default).key.toList = true := fun j hj => by
      have hgj : p.getD j default = p[j]'(by omega) := by simp [show j < p.length by omega]
      rw [hgj, hgi]
      exact List.pairwise_iff_getElem.1 hp.srt j i (by omega) hi (by omega)
    refine Aw_skip ?_
    refine Aw_seq ?_
    refine Aw_block ?_
    refine Aw_seq ?_
    refine Aw_region ?_
    refine Al_pu (Pu_move (.inl rfl) (by conv => lhs; whnf)) rfl rfl (by decide) (by kernel_rfl) ?_
    refine Al_pu (Pu_move (.inl rfl) (by conv => lhs; whnf)) rfl rfl (by decide) (by kernel_rfl) ?_
    refine Al_pu (Pu_index rfl Try.underlying31 Try.sizeOf60 rfl rfl (rfl) (mapgetD (d := default) hi)) rfl rfl (by decide) (by kernel_rfl) ?_
    refine Al_pu (Pu_field 0 rfl Try.underlying60 rfl rfl Try.sizeOf9 rfl) rfl rfl (by decide) (by kernel_rfl) ?_
    refine Al_pu (Pu_load1 rfl Try.isAgg9 rfl rfl) rfl rfl (by decide) (by kernel_rfl) ?_
    refine Al_pu (Pu_call (rcheck_a _) rfl ⟨Sub.rfl, trivial⟩) rfl rfl (by decide) (by kernel_rfl) ?_
    refine Al_pu (Pu_move (.inr rfl) (by conv => lhs; whnf)) rfl rfl (by decide) (by kernel_rfl) ?_
    refine Al_nil ?_
    refine Aw_seq ?_
    refine Aw_region ?_
    refine Al_pu (Pu_move (.inl rfl) (by conv => lhs; whnf)) rfl rfl (by decide) (by kernel_rfl) ?_
    refine Al_pu (Pu_move (.inl rfl) (by conv => lhs; whnf)) rfl rfl (by decide) (by kernel_rfl) ?_
    refine Al_pu (Pu_index rfl Try.underlying31 Try.sizeOf60 rfl rfl (rfl) (mapgetD (d := default) hi)) rfl rfl (by decide) (by kernel_rfl) ?_
    refine Al_pu (Pu_field 1 rfl Try.underlying60 rfl rfl Try.sizeOf30 rfl) rfl rfl (by decide) (by kernel_rfl) ?_
    refine Al_pu (Pu_loadN rfl Try.isAgg30 Try.sizeOf30 rfl (Nat.le_of_ble_eq_true rfl)) rfl rfl (by decide) (by kernel_rfl) ?_
    refine Al_pu (Pu_call (rstcheck_a _ _) rfl ⟨Sub.rfl, trivial⟩) rfl rfl (by decide) (by kernel_rfl) ?_
    refine Al_pu (Pu_move (.inr rfl) (by conv => lhs; whnf)) rfl rfl (by decide) (by kernel_rfl) ?_
    refine Al_nil ?_
    refine Aw_seq ?_
    refine Aw_draw 24 (by kernel_rfl) (by kernel_rfl) ?_
    refine Dr_pu (Pu_move (.inl rfl) (by conv => lhs; whnf)) rfl rfl ?_
    refine Dr_pu (Pu_not rfl rfl) rfl rfl ?_
    refine Dr_pu (Pu_move (.inl rfl) (by conv => lhs; whnf)) rfl rfl ?_
    refine Dr_st (St_gd [] rfl rfl rfl rfl trivial (fun hg27 => by exact Pu_move (.inl rfl) (by conv => lhs; whnf))) rfl ?_
    refine Dr_st (St_gd [27] rfl rfl rfl rfl ⟨⟨_, rfl⟩, trivial⟩ (fun hg28 => Pu_not rfl rfl)) rfl ?_
    refine Dr_pu (Pu_or rfl rfl rfl rfl) rfl rfl ?_
    refine Dr_pu (Pu_move (.inl rfl) (by conv => lhs; whnf)) rfl rfl ?_
    refine Dr_st (St_gd [] rfl rfl rfl rfl trivial (fun hg31 => by exact Pu_move (.inl rfl) (by conv => lhs; whnf))) rfl ?_
    refine Dr_st (St_gd [31] rfl rfl rfl rfl ⟨⟨_, rfl⟩, trivial⟩ (fun hg32 => Pu_cmp rfl rfl rfl rfl)) rfl ?_
    refine Dr_st (St_gd [32] rfl rfl rfl rfl ⟨⟨_, rfl⟩, trivial⟩ (fun hg33 => by exact Pu_move (.inl rfl) (by conv => lhs; whnf))) rfl ?_
    refine Dr_st (St_gd2 [] rfl rfl rfl rfl trivial (fun hp34 hg34 => by exact Pu_move (.inl rfl) (by conv => lhs; whnf))) rfl ?_
    refine Dr_st (St_gd2 [] rfl rfl rfl rfl trivial (fun hp35 hg35 => by exact Pu_move (.inl rfl) (by conv => lhs; whnf))) rfl ?_
    refine Dr_st (St_gd2 [35] rfl rfl rfl rfl ⟨⟨_, rfl⟩, trivial⟩ (fun hp36 hg36 => by exact Pu_sub rfl rfl rfl (fun h1 h2 => by simp only [A.inI, A.maxI] at *; omega))) rfl ?_
    refine Dr_st (St_gd2 [34, 36] rfl rfl rfl rfl ⟨⟨_, rfl⟩, ⟨_, rfl⟩, trivial⟩ (fun hp37 hg37 => by exact Pu_index rfl Try.underlying31 Try.sizeOf60 rfl rfl ((show ((i : Int) - 1) = ((i - 1 : Nat) : Int) from by have := of_decide_eq_true hg37; omega)) (mapgetD (d := default) (show i - 1 < p.length by omega)))) rfl ?_
    refine Dr_st (St_gd2 [37] rfl rfl rfl rfl ⟨⟨_, rfl⟩, trivial⟩ (fun hp38 hg38 => Pu_field 0 rfl Try.underlying60 rfl rfl Try.sizeOf9 rfl)) rfl ?_
    refine Dr_st (St_gd2 [38] rfl rfl rfl rfl ⟨⟨_, rfl⟩, trivial⟩ (fun hp39 hg39 => Pu_load1 rfl Try.isAgg9 rfl rfl)) rfl ?_
    refine Dr_st (St_gd2 [] rfl rfl rfl rfl trivial (fun hp40 hg40 => by exact Pu_move (.inl rfl) (by conv => lhs; whnf))) rfl ?_
    refine Dr_st (St_gd2 [] rfl rfl rfl rfl trivial (fun hp41 hg41 => by exact Pu_move (.inl rfl) (by conv => lhs; whnf))) rfl ?_
    refine Dr_st (St_gd2 [40, 41] rfl rfl rfl rfl ⟨⟨_, rfl⟩, ⟨_, rfl⟩, trivial⟩ (fun hp42 hg42 => Pu_index rfl Try.underlying31 Try.sizeOf60 rfl rfl (rfl) (mapgetD (d := default) hi))) rfl ?_
    refine Dr_st (St_gd2 [42] rfl rfl rfl rfl ⟨⟨_, rfl⟩, trivial⟩ (fun hp43 hg43 => Pu_field 0 rfl Try.underlying60 rfl rfl Try.sizeOf9 rfl)) rfl ?_
    refine Dr_st (St_gd2 [43] rfl rfl rfl rfl ⟨⟨_, rfl⟩, trivial⟩ (fun hp44 hg44 => Pu_load1 rfl Try.isAgg9 rfl rfl)) rfl ?_
    refine Dr_st (St_gd2 [39, 44] rfl rfl rfl rfl ⟨⟨_, rfl⟩, ⟨_, rfl⟩, trivial⟩ (fun hp45 hg45 => Pu_str rfl rfl rfl rfl)) rfl ?_
    refine Dr_st (St_gd [33] rfl rfl rfl rfl ⟨⟨_, rfl⟩, trivial⟩ (fun hg46 => Pu_andG rfl rfl (fun h => ⟨hg46, h⟩) rfl rfl)) rfl ?_
    refine Dr_pu (Pu_or rfl rfl rfl rfl) rfl rfl ?_
    refine Dr_nil ?_
    refine Al_nil ?_
    refine Aw_cond rfl (fun h47 => ?_) (fun h47 => ?_)
    · skip
      exfalso
      rw [hok1.1, hok1.2] at h47
      simp only [Bool.not_true, Bool.false_or, Bool.or_self, Bool.and_eq_true, decide_eq_true_eq, Bool.not_eq_true'] at h47
      have := hprev (i - 1) (by omega)
      rw [h47.2] at this
      cases this
    · skip
      refine Aw_skip ?_
      refine Aw_region ?_
      refine Al_pu (Pu_move (.inl rfl) (by conv => lhs; whnf)) rfl rfl (by decide) (by kernel_rfl) ?_
      refine Al_pu (Pu_add rfl rfl rfl (fun h1 h2 => by simp only [A.inI, A.maxI] at *; omega)) rfl rfl (by decide) (by kernel_rfl) ?_
      refine Al_pu (Pu_move (.inr rfl) (by conv => lhs; whnf)) rfl rfl (by decide) (by kernel_rfl) ?_
      refine Al_nil ?_
      exact ⟨i + 1, by omega, by omega, Le.ov ⟨Sub.num (by omega), trivial⟩ ⟨Sub.rfl, trivial⟩ trivial trivial⟩ -- loop 0 next.0
  · (try simp only [decide_eq_true_eq, decide_eq_false_iff_not, Bool.and_eq_true, Bool.or_eq_true, Bool.and_eq_false_iff, Bool.or_eq_false_iff, Bool.not_eq_true', Bool.not_eq_false', beq_iff_eq, Bool.not_eq_eq_eq_not, Bool.not_true, Bool.not_false, List.length_map, Bool.and_true, Bool.and_false, Bool.false_and, Bool.true_and, Bool.or_false, Bool.false_or] at h9)
    refine Aw_exit ?_
    refine Aw_seq ?_
    refine Aw_region ?_
    refine Al_pu (Pu_move (.inr rfl) (by conv => lhs; whnf)) rfl rfl (by decide) (by kernel_rfl) ?_
    refine Al_nil ?_
    refine Aw_ret ?_
    exact Sub.rfl -- ret 0
set_option maxRecDepth 100000 in
set_option maxHeartbeats 4000000 in
theorem rright_a (l : List Event) (hs : ∀ e ∈ l, e.seen.length ≤ 900) (i : Nat) (hi : i < l.length) (hr : G.RightAt l i) : ACall Try.prog 32 [.sl 6 (l.map Event.row), iv i] (bv true) := by
  refine ACall_enter (fun _ _ => by kernel_rfl) Try.func32 rfl Try.ntmps32 Try.results32 (Nat.le_of_ble_eq_true rfl) (fun hok M0 w0 hnl => ?_)
  have hge := rget_a (l.getD i default).seen (l.getD i default).key
  have hlen := (hok _ (List.mem_cons_self ..)).len
  rw [List.length_map] at hlen
  have hrow := rrow_a (l.getD i default).seen hr.seen
  have hbh := rbehind_a l hs (G.lastZ l i (l.getD i default).client)
  have hco := rcovers_a (l.getD i default).seen (G.behind l (G.lastZ l i (l.getD i default).client))
  rw [hr.cov] at hco
  have hkc := rcheck_a (l.getD i default).key
  rw [hr.key] at hkc
  have hsl : (l.getD i default).seen.length ≤ 900 := by
    have : l.getD i default = l[i] := by simp [hi]
    rw [this]; exact hs _ (List.getElem_mem hi)
  refine Aw_seq ?_
  refine Aw_region ?_
  refine Al_pu (Pu_move (.inr rfl) (by conv => lhs; whnf)) rfl rfl (by decide) (by kernel_rfl) ?_
  refine Al_nil ?_
  refine Aw_seq ?_
  refine Aw_region ?_
  refine Al_pu (Pu_move (.inl rfl) (by conv => lhs; whnf)) rfl rfl (by decide) (by kernel_rfl) ?_
  refine Al_pu (Pu_move (.inl rfl) (by conv => lhs; whnf)) rfl rfl (by decide) (by kernel_rfl) ?_
  refine Al_pu (Pu_index rfl Try.underlying24 Try.sizeOf33 rfl rfl (rfl) (mapgetD (d := default) hi)) rfl rfl (by decide) (by kernel_rfl) ?_
  refine Al_pu (Pu_loadN rfl Try.isAgg33 Try.sizeOf33 rfl (Nat.le_of_ble_eq_true rfl)) rfl rfl (by decide) (by kernel_rfl) ?_
  refine Al_alloc rfl rfl rfl (by decide) Try.zeroValue33 rfl (by kernel_rfl) (fun g5 => ?_)
  refine Al_storeN rfl rfl rfl (by kernel_rfl) Try.isAgg33 Try.sizeOf33 rfl rfl rfl rfl (Nat.le_of_ble_eq_true rfl) ?_
  refine Al_nil ?_
  refine Aw_seq ?_
  refine Aw_region ?_
  refine Al_pu (Pu_fieldb 2 rfl Try.underlying33 rfl rfl Try.sizeOf9 rfl) rfl rfl (by decide) (by kernel_rfl) ?_
  refine Al_pu (Pu_loadb rfl Try.isAgg9 rfl rfl rfl) rfl rfl (by decide) (by kernel_rfl) ?_
  refine Al_pu (Pu_call (hkc) rfl ⟨Sub.rfl, trivial⟩) rfl rfl (by decide) (by kernel_rfl) ?_
  refine Al_pu (Pu_move (.inr rfl) (by conv => lhs; whnf)) rfl rfl (by decide) (by kernel_rfl) ?_
  refine Al_nil ?_
  refine Aw_seq ?_
  refine Aw_region ?_
  refine Al_pu (Pu_fieldb 5 rfl Try.underlying33 rfl rfl Try.sizeOf31 rfl) rfl rfl (by decide) (by kernel_rfl) ?_
  refine Al_pu (Pu_loadb rfl Try.isAgg31 rfl rfl rfl) rfl rfl (by decide) (by kernel_rfl) ?_
  refine Al_pu (Pu_call (hrow) rfl ⟨Sub.rfl, trivial⟩) rfl rfl (by decide) (by kernel_rfl) ?_
  refine Al_pu (Pu_move (.inr rfl) (by conv => lhs; whnf)) rfl rfl (by decide) (by kernel_rfl) ?_
  refine Al_nil ?_
  refine Aw_seq ?_
  refine Aw_seq ?_
  refine Aw_region ?_
  refine Al_pu (Pu_move (.inl rfl) (by conv => lhs; whnf)) rfl rfl (by decide) (by kernel_rfl) ?_
  refine Al_pu (Pu_not rfl rfl) rfl rfl (by decide) (by kernel_rfl) ?_
  refine Al_pu (Pu_move (.inl rfl) (by conv => lhs; whnf)) rfl rfl (by decide) (by kernel_rfl) ?_
  refine Al_st (St_gd [] rfl rfl rfl rfl trivial (fun hg28 => by exact Pu_move (.inl rfl) (by conv => lhs; whnf))) rfl (by decide) (by kernel_rfl) (by intro j b oj dj h1 h2 h3; cases h1; cases h2; cases h3; decide) ?_
  refine Al_st (St_gd [28] rfl rfl rfl rfl ⟨⟨_, rfl⟩, trivial⟩ (fun hg29 => Pu_not rfl rfl)) rfl (by decide) (by kernel_rfl) (by intro j b oj dj h1 h2 h3; cases h1; cases h2; cases h3; decide) ?_
  refine Al_pu (Pu_or rfl rfl rfl rfl) rfl rfl (by decide) (by kernel_rfl) ?_
  refine Al_nil ?_
  refine Aw_cond rfl (fun h30 => ?_) (fun h30 => ?_)
  · (try simp only [decide_eq_true_eq, decide_eq_false_iff_not, Bool.and_eq_true, Bool.or_eq_true, Bool.and_eq_false_iff, Bool.or_eq_false_iff, Bool.not_eq_true', Bool.not_eq_false', beq_iff_eq, Bool.not_eq_eq_eq_not, Bool.not_true, Bool.not_false, List.length_map, Bool.and_true, Bool.and_false, Bool.false_and, Bool.true_and, Bool.or_false, Bool.false_or] at h30)
    exfalso; revert h30; decide
  · (try simp only [decide_eq_true_eq, decide_eq_false_iff_not, Bool.and_eq_true, Bool.or_eq_true, Bool.and_eq_false_iff, Bool.or_eq_false_iff, Bool.not_eq_true', Bool.not_eq_false', beq_iff_eq, Bool.not_eq_eq_eq_not, Bool.not_true, Bool.not_false, List.length_map, Bool.and_true, Bool.and_false, Bool.false_and, Bool.true_and, Bool.or_false, Bool.false_or] at h30)
    refine Aw_skip ?_
    refine Aw_seq ?_
    refine Aw_region ?_
    refine Al_pu (Pu_move (.inr rfl) (by conv => lhs; whnf)) rfl rfl (by decide) (by kernel_rfl) ?_
    refine Al_nil ?_
    refine Aw_seq ?_
    refine Aw_region ?_
    refine Al_pu (Pu_move (.inr rfl) (by conv => lhs; whnf)) rfl rfl (by decide) (by kernel_rfl) ?_
    refine Al_nil ?_
    refine Aw_seq ?_
    refine Aw_seq ?_
    refine Aw_region ?_
    refine Al_pu (Pu_move (.inr rfl) (by conv => lhs; whnf)) rfl rfl (by decide) (by kernel_rfl) ?_
    refine Al_nil ?_
    refine Aw_block ?_
    refine Aw_loopk (ι := Nat) [0, 1, 5] [5] (fun k => [(10, .d (iv k)), (8, .d (bv (G.thTo l i k))), (9, .d (iv (G.lastZ l k (l.getD i default).client)))]) (fun k => []) (fun k => k ≤ i) (fun k => i - k) (0) (Nat.zero_le _) ⟨Sub.rfl, Sub.rfl, Sub.rfl, trivial⟩ trivial ?_
    rintro k hk0
    refine Aw_seq ?_
    refine Aw_seq ?_
    refine Aw_region ?_
    refine Al_pu (Pu_move (.inl rfl) (by conv => lhs; whnf)) rfl rfl (by decide) (by kernel_rfl) ?_
    refine Al_pu (Pu_move (.inl rfl) (by conv => lhs; whnf)) rfl rfl (by decide) (by kernel_rfl) ?_
    refine Al_pu (Pu_cmp rfl rfl rfl rfl) rfl rfl (by decide) (by kernel_rfl) ?_
    refine Al_nil ?_
    refine Aw_cond rfl (fun h33 => ?_) (fun h33 => ?_)
    · (try simp only [decide_eq_true_eq, decide_eq_false_iff_not, Bool.and_eq_true, Bool.or_eq_true, Bool.and_eq_false_iff, Bool.or_eq_false_iff, Bool.not_eq_true', Bool.not_eq_false', beq_iff_eq, Bool.not_eq_eq_eq_not, Bool.not_true, Bool.not_false, List.length_map, Bool.and_true, Bool.and_false, Bool.false_and, Bool.true_and, Bool.or_false, Bool.false_or] at h33)
      have hk : k < l.length := by omega
      have hts := G.thTo_succ l i hk
      have hls := G.lastZ_succ l hk (l.getD i default).client
      refine Aw_skip ?_
      -- join 0: live [0, 1, 5, 8, 9, 10], turned [8, 9]
      refine Aw_seq ?_
      refine Aw_block ?_
      -- join 1: live [0, 1, 5, 8, 9, 10], turned [8]
      refine Aw_seq ?_
      refine Aw_seq ?_
      refine Aw_draw 31 (by kernel_rfl) (by kernel_rfl) ?_
      refine Dr_pu (Pu_move (.inl rfl) (by conv => lhs; whnf)) rfl rfl ?_
      refine Dr_pu (Pu_move (.inl rfl) (by conv => lhs; whnf)) rfl rfl ?_
      refine Dr_pu (Pu_index rfl Try.underlying24 Try.sizeOf33 rfl rfl (rfl) (mapgetD (d := default) hk)) rfl rfl ?_
      refine Dr_pu (Pu_field 0 rfl Try.underlying33 rfl rfl Try.sizeOf3 rfl) rfl rfl ?_
      refine Dr_pu (Pu_load1 rfl Try.isAgg3 rfl rfl) rfl rfl ?_
      refine Dr_pu (Pu_cmp rfl rfl rfl rfl) rfl rfl ?_
      refine Dr_pu (Pu_move (.inl rfl) (by conv => lhs; whnf)) rfl rfl ?_
      refine Dr_st (St_gd [] rfl rfl rfl rfl trivial (fun hg43 => by exact Pu_move (.inl rfl) (by conv => lhs; whnf))) rfl ?_
      refine Dr_st (St_gd [] rfl rfl rfl rfl trivial (fun hg44 => by exact Pu_move (.inl rfl) (by conv => lhs; whnf))) rfl ?_
      refine Dr_st (St_gd [43, 44] rfl rfl rfl rfl ⟨⟨_, rfl⟩, ⟨_, rfl⟩, trivial⟩ (fun hg45 => Pu_index rfl Try.underlying24 Try.sizeOf33 rfl rfl (rfl) (mapgetD (d := default) hk))) rfl ?_
      refine Dr_st (St_gd [45] rfl rfl rfl rfl ⟨⟨_, rfl⟩, trivial⟩ (fun hg46 => Pu_field 3 rfl Try.underlying33 rfl rfl Try.sizeOf30 rfl)) rfl ?_
      refine Dr_st (St_gd [46] rfl rfl rfl rfl ⟨⟨_, rfl⟩, trivial⟩ (fun hg47 => Pu_loadN rfl Try.isAgg30 Try.sizeOf30 rfl (Nat.le_of_ble_eq_true rfl))) rfl ?_
      refine Dr_st (St_gd [] rfl rfl rfl rfl trivial (fun hg48 => Pu_fieldb 3 rfl Try.underlying33 rfl rfl Try.sizeOf30 rfl)) rfl ?_
      refine Dr_st (St_gd [48] rfl rfl rfl rfl ⟨⟨_, rfl⟩, trivial⟩ (fun hg49 => Pu_loadbN (r := [_, _]) rfl Try.isAgg30 Try.sizeOf30 rfl rfl rfl rfl)) rfl ?_
      refine Dr_st (St_gd [47, 49] rfl rfl rfl rfl ⟨⟨_, rfl⟩, ⟨_, rfl⟩, trivial⟩ (fun hg50 => Pu_eqrow [.int .i64 _, .int .i64 _] [.int .i64 _, .int .i64 _] (fun w => eqv30 _ _ _ _ _ _ w) rfl rfl rfl)) rfl ?_
      refine Dr_pu (Pu_and rfl rfl rfl rfl) rfl rfl ?_
      refine Dr_pu (Pu_move (.inl rfl) (by conv => lhs; whnf)) rfl rfl ?_
      refine Dr_st (St_gd [] rfl rfl rfl rfl trivial (fun hg53 => Pu_fieldb 0 rfl Try.underlying33 rfl rfl Try.sizeOf3 rfl)) rfl ?_
      refine Dr_st (St_gd [53] rfl rfl rfl rfl ⟨⟨_, rfl⟩, trivial⟩ (fun hg54 => Pu_loadb rfl Try.isAgg3 rfl rfl rfl)) rfl ?_
      refine Dr_st (St_gd [54] rfl rfl rfl rfl ⟨⟨_, rfl⟩, trivial⟩ (fun hg55 => Pu_cmp rfl rfl rfl rfl)) rfl ?_
      refine Dr_st (St_gd [55] rfl rfl rfl rfl ⟨⟨_, rfl⟩, trivial⟩ (fun hg56 => by exact Pu_move (.inl rfl) (by conv => lhs; whnf))) rfl ?_
      refine Dr_st (St_gd2 [] rfl rfl rfl rfl trivial (fun hp57 hg57 => by exact Pu_move (.inl rfl) (by conv => lhs; whnf))) rfl ?_
      refine Dr_st (St_gd2 [] rfl rfl rfl rfl trivial (fun hp58 hg58 => by exact Pu_move (.inl rfl) (by conv => lhs; whnf))) rfl ?_
      refine Dr_st (St_gd2 [57, 58] rfl rfl rfl rfl ⟨⟨_, rfl⟩, ⟨_, rfl⟩, trivial⟩ (fun hp59 hg59 => Pu_index rfl Try.underlying24 Try.sizeOf33 rfl rfl (rfl) (mapgetD (d := default) hk))) rfl ?_
      refine Dr_st (St_gd2 [59] rfl rfl rfl rfl ⟨⟨_, rfl⟩, trivial⟩ (fun hp60 hg60 => Pu_field 2 rfl Try.underlying33 rfl rfl Try.sizeOf9 rfl)) rfl ?_
      refine Dr_st (St_gd2 [60] rfl rfl rfl rfl ⟨⟨_, rfl⟩, trivial⟩ (fun hp61 hg61 => Pu_load1 rfl Try.isAgg9 rfl rfl)) rfl ?_
      refine Dr_st (St_gd2 [] rfl rfl rfl rfl trivial (fun hp62 hg62 => Pu_fieldb 2 rfl Try.underlying33 rfl rfl Try.sizeOf9 rfl)) rfl ?_
      refine Dr_st (St_gd2 [62] rfl rfl rfl rfl ⟨⟨_, rfl⟩, trivial⟩ (fun hp63 hg63 => Pu_loadb rfl Try.isAgg9 rfl rfl rfl)) rfl ?_
      refine Dr_st (St_gd2 [61, 63] rfl rfl rfl rfl ⟨⟨_, rfl⟩, ⟨_, rfl⟩, trivial⟩ (fun hp64 hg64 => Pu_str rfl rfl rfl rfl)) rfl ?_
      refine Dr_st (St_gd [56] rfl rfl rfl rfl ⟨⟨_, rfl⟩, trivial⟩ (fun hg65 => Pu_orG rfl rfl rfl (fun h => ⟨hg65, h⟩) rfl)) rfl ?_
      refine Dr_pu (Pu_and rfl rfl rfl rfl) rfl rfl ?_
      refine Dr_nil ?_
      refine Al_nil ?_
      refine Aw_cond rfl (fun h66 => ?_) (fun h66 => ?_)
      · skip
        have hth : G.thTo l i (k + 1) = true := by rw [hts, show G.thB (l.getD i default) (l.getD k default) = true from h66, Bool.or_true]
        refine Aw_region ?_
        refine Al_pu (Pu_move (.inr rfl) (by conv => lhs; whnf)) rfl rfl (by decide) (by kernel_rfl) ?_
        refine Al_nil ?_
        refine Aw_seq ?_
        refine Aw_draw 8 (by kernel_rfl) (by kernel_rfl) ?_
        refine Dr_pu (Pu_move (.inl rfl) (by conv => lhs; whnf)) rfl rfl ?_
        refine Dr_pu (Pu_move (.inl rfl) (by conv => lhs; whnf)) rfl rfl ?_
        refine Dr_pu (Pu_index rfl Try.underlying24 Try.sizeOf33 rfl rfl (rfl) (mapgetD (d := default) hk)) rfl rfl ?_
        refine Dr_pu (Pu_field 1 rfl Try.underlying33 rfl rfl Try.sizeOf3 rfl) rfl rfl ?_
        refine Dr_pu (Pu_load1 rfl Try.isAgg3 rfl rfl) rfl rfl ?_
        refine Dr_pu (Pu_fieldb 1 rfl Try.underlying33 rfl rfl Try.sizeOf3 rfl) rfl rfl ?_
        refine Dr_pu (Pu_loadb rfl Try.isAgg3 rfl rfl rfl) rfl rfl ?_
        refine Dr_pu (Pu_cmp rfl rfl rfl rfl) rfl rfl ?_
        refine Dr_nil ?_
        refine Al_nil ?_
        refine Aw_cond rfl (fun h74 => ?_) (fun h74 => ?_)
        · skip
          have hla : G.lastZ l (k + 1) (l.getD i default).client = k := by rw [hls, if_pos (of_decide_eq_true h74)]
          refine Aw_region ?_
          refine Al_pu (Pu_move (.inl rfl) (by conv => lhs; whnf)) rfl rfl (by decide) (by kernel_rfl) ?_
          refine Al_pu (Pu_move (.inr rfl) (by conv => lhs; whnf)) rfl rfl (by decide) (by kernel_rfl) ?_
          refine Al_nil ?_
          refine Aw_region ?_
          refine Al_pu (Pu_move (.inl rfl) (by conv => lhs; whnf)) rfl rfl (by decide) (by kernel_rfl) ?_
          refine Al_pu (Pu_add rfl rfl rfl (fun h1 h2 => by simp only [A.inI, A.maxI] at *; omega)) rfl rfl (by decide) (by kernel_rfl) ?_
          refine Al_pu (Pu_move (.inr rfl) (by conv => lhs; whnf)) rfl rfl (by decide) (by kernel_rfl) ?_
          refine Al_nil ?_
          exact ⟨k + 1, by omega, by omega, Le.ov ⟨Sub.num (by omega), Sub.bool hth.symm, Sub.num hla.symm, trivial⟩ ⟨Sub.rfl, Sub.rfl, Sub.rfl, trivial⟩ trivial ⟨rfl, trivial⟩⟩ -- loop 0 next.0
        · skip
          have hla : G.lastZ l (k + 1) (l.getD i default).client = G.lastZ l k (l.getD i default).client := by rw [hls, if_neg (of_decide_eq_false h74)]
          refine Aw_skip ?_
          refine Aw_region ?_
          refine Al_pu (Pu_move (.inl rfl) (by conv => lhs; whnf)) rfl rfl (by decide) (by kernel_rfl) ?_
          refine Al_pu (Pu_add rfl rfl rfl (fun h1 h2 => by simp only [A.inI, A.maxI] at *; omega)) rfl rfl (by decide) (by kernel_rfl) ?_
          refine Al_pu (Pu_move (.inr rfl) (by conv => lhs; whnf)) rfl rfl (by decide) (by kernel_rfl) ?_
          refine Al_nil ?_
          exact ⟨k + 1, by omega, by omega, Le.ov ⟨Sub.num (by omega), Sub.bool hth.symm, Sub.num hla.symm, trivial⟩ ⟨Sub.rfl, Sub.rfl, Sub.rfl, trivial⟩ trivial ⟨rfl, trivial⟩⟩ -- loop 0 next.1
      · skip
        have hth : G.thTo l i (k + 1) = G.thTo l i k := by rw [hts, show G.thB (l.getD i default) (l.getD k default) = false from h66, Bool.or_false]
        refine Aw_skip ?_
        refine Aw_seq ?_
        refine Aw_draw 8 (by kernel_rfl) (by kernel_rfl) ?_
        refine Dr_pu (Pu_move (.inl rfl) (by conv => lhs; whnf)) rfl rfl ?_
        refine Dr_pu (Pu_move (.inl rfl) (by conv => lhs; whnf)) rfl rfl ?_
        refine Dr_pu (Pu_index rfl Try.underlying24 Try.sizeOf33 rfl rfl (rfl) (mapgetD (d := default) hk)) rfl rfl ?_
        refine Dr_pu (Pu_field 1 rfl Try.underlying33 rfl rfl Try.sizeOf3 rfl) rfl rfl ?_
        refine Dr_pu (Pu_load1 rfl Try.isAgg3 rfl rfl) rfl rfl ?_
        refine Dr_pu (Pu_fieldb 1 rfl Try.underlying33 rfl rfl Try.sizeOf3 rfl) rfl rfl ?_
        refine Dr_pu (Pu_loadb rfl Try.isAgg3 rfl rfl rfl) rfl rfl ?_
        refine Dr_pu (Pu_cmp rfl rfl rfl rfl) rfl rfl ?_
        refine Dr_nil ?_
        refine Al_nil ?_
        refine Aw_cond rfl (fun h74 => ?_) (fun h74 => ?_)
        · skip
          have hla : G.lastZ l (k + 1) (l.getD i default).client = k := by rw [hls, if_pos (of_decide_eq_true h74)]
          refine Aw_region ?_
          refine Al_pu (Pu_move (.inl rfl) (by conv => lhs; whnf)) rfl rfl (by decide) (by kernel_rfl) ?_
          refine Al_pu (Pu_move (.inr rfl) (by conv => lhs; whnf)) rfl rfl (by decide) (by kernel_rfl) ?_
          refine Al_nil ?_
          refine Aw_region ?_
          refine Al_pu (Pu_move (.inl rfl) (by conv => lhs; whnf)) rfl rfl (by decide) (by kernel_rfl) ?_
          refine Al_pu (Pu_add rfl rfl rfl (fun h1 h2 => by simp only [A.inI, A.maxI] at *; omega)) rfl rfl (by decide) (by kernel_rfl) ?_
          refine Al_pu (Pu_move (.inr rfl) (by conv => lhs; whnf)) rfl rfl (by decide) (by kernel_rfl) ?_
          refine Al_nil ?_
          exact ⟨k + 1, by omega, by omega, Le.ov ⟨Sub.num (by omega), Sub.bool hth.symm, Sub.num hla.symm, trivial⟩ ⟨Sub.rfl, Sub.rfl, Sub.rfl, trivial⟩ trivial ⟨rfl, trivial⟩⟩ -- loop 0 next.2
        · skip
          have hla : G.lastZ l (k + 1) (l.getD i default).client = G.lastZ l k (l.getD i default).client := by rw [hls, if_neg (of_decide_eq_false h74)]
          refine Aw_skip ?_
          refine Aw_region ?_
          refine Al_pu (Pu_move (.inl rfl) (by conv => lhs; whnf)) rfl rfl (by decide) (by kernel_rfl) ?_
          refine Al_pu (Pu_add rfl rfl rfl (fun h1 h2 => by simp only [A.inI, A.maxI] at *; omega)) rfl rfl (by decide) (by kernel_rfl) ?_
          refine Al_pu (Pu_move (.inr rfl) (by conv => lhs; whnf)) rfl rfl (by decide) (by kernel_rfl) ?_
          refine Al_nil ?_
          exact ⟨k + 1, by omega, by omega, Le.ov ⟨Sub.num (by omega), Sub.bool hth.symm, Sub.num hla.symm, trivial⟩ ⟨Sub.rfl, Sub.rfl, Sub.rfl, trivial⟩ trivial ⟨rfl, trivial⟩⟩ -- loop 0 next.3
    · (try simp only [decide_eq_true_eq, decide_eq_false_iff_not, Bool.and_eq_true, Bool.or_eq_true, Bool.and_eq_false_iff, Bool.or_eq_false_iff, Bool.not_eq_true', Bool.not_eq_false', beq_iff_eq, Bool.not_eq_eq_eq_not, Bool.not_true, Bool.not_false, List.length_map, Bool.and_true, Bool.and_false, Bool.false_and, Bool.true_and, Bool.or_false, Bool.false_or] at h33)
      obtain rfl : i = k := by omega
      refine Aw_exit ?_
      refine Aw_seq ?_
      refine Aw_draw 6 (by kernel_rfl) (by kernel_rfl) ?_
      refine Dr_pu (Pu_fieldb 5 rfl Try.underlying33 rfl rfl Try.sizeOf31 rfl) rfl rfl ?_
      refine Dr_pu (Pu_loadb rfl Try.isAgg31 rfl rfl rfl) rfl rfl ?_
      refine Dr_pu (Pu_move (.inl rfl) (by conv => lhs; whnf)) rfl rfl ?_
      refine Dr_pu (Pu_move (.inl rfl) (by conv => lhs; whnf)) rfl rfl ?_
      refine Dr_pu (Pu_call (hbh) rfl ⟨Sub.rfl, Sub.rfl, trivial⟩) rfl rfl ?_
      refine Dr_pu (Pu_call (hco) rfl ⟨Sub.rfl, Sub.rfl, trivial⟩) rfl rfl ?_
      refine Dr_nil ?_
      refine Al_pu (Pu_move (.inr rfl) (by conv => lhs; whnf)) rfl rfl (by decide) (by kernel_rfl) ?_
      refine Al_nil ?_
      refine Aw_seq ?_
      refine Aw_seq ?_
      refine Aw_region ?_
      refine Al_pu (Pu_move (.inl rfl) (by conv => lhs; whnf)) rfl rfl (by decide) (by kernel_rfl) ?_
      refine Al_pu (Pu_not rfl rfl) rfl rfl (by decide) (by kernel_rfl) ?_
      refine Al_nil ?_
      refine Aw_cond rfl (fun h83 => ?_) (fun h83 => ?_)
      · (try simp only [decide_eq_true_eq, decide_eq_false_iff_not, Bool.and_eq_true, Bool.or_eq_true, Bool.and_eq_false_iff, Bool.or_eq_false_iff, Bool.not_eq_true', Bool.not_eq_false', beq_iff_eq, Bool.not_eq_eq_eq_not, Bool.not_true, Bool.not_false, List.length_map, Bool.and_true, Bool.and_false, Bool.false_and, Bool.true_and, Bool.or_false, Bool.false_or] at h83)
        exfalso; revert h83; decide
      · (try simp only [decide_eq_true_eq, decide_eq_false_iff_not, Bool.and_eq_true, Bool.or_eq_true, Bool.and_eq_false_iff, Bool.or_eq_false_iff, Bool.not_eq_true', Bool.not_eq_false', beq_iff_eq, Bool.not_eq_eq_eq_not, Bool.not_true, Bool.not_false, List.length_map, Bool.and_true, Bool.and_false, Bool.false_and, Bool.true_and, Bool.or_false, Bool.false_or] at h83)
        refine Aw_skip ?_
        refine Aw_seq ?_
        refine Aw_seq ?_
        refine Aw_region ?_
        refine Al_pu (Pu_fieldb 0 rfl Try.underlying33 rfl rfl Try.sizeOf3 rfl) rfl rfl (by decide) (by kernel_rfl) ?_
        refine Al_pu (Pu_loadb rfl Try.isAgg3 rfl rfl rfl) rfl rfl (by decide) (by kernel_rfl) ?_
        refine Al_nil ?_
        refine Aw_block ?_
        refine Aw_seq ?_
        refine Aw_region ?_
        refine Al_pu (Pu_cmp rfl rfl rfl rfl) rfl rfl (by decide) (by kernel_rfl) ?_
        refine Al_pu (Pu_move (.inr rfl) (by conv => lhs; whnf)) rfl rfl (by decide) (by kernel_rfl) ?_
        refine Al_nil ?_
        refine Aw_cond rfl (fun h86 => ?_) (fun h86 => ?_)
        · skip
          obtain ⟨hw1, hw2, hw3⟩ := hr.wr (of_decide_eq_true h86)
          have hsc := rstcheck_a (l.getD i default).n (l.getD i default).s
          rw [hw1] at hsc
          refine Aw_seq ?_
          refine Aw_region ?_
          refine Al_pu (Pu_fieldb 3 rfl Try.underlying33 rfl rfl Try.sizeOf30 rfl) rfl rfl (by decide) (by kernel_rfl) ?_
          refine Al_pu (Pu_loadbN (r := [_, _]) rfl Try.isAgg30 Try.sizeOf30 rfl rfl rfl rfl) rfl rfl (by decide) (by kernel_rfl) ?_
          refine Al_pu (Pu_call (hsc) rfl ⟨Sub.rfl, trivial⟩) rfl rfl (by decide) (by kernel_rfl) ?_
          refine Al_pu (Pu_move (.inr rfl) (by conv => lhs; whnf)) rfl rfl (by decide) (by kernel_rfl) ?_
          refine Al_nil ?_
          refine Aw_seq ?_
          refine Aw_seq ?_
          refine Aw_region ?_
          refine Al_pu (Pu_move (.inr rfl) (by conv => lhs; whnf)) rfl rfl (by decide) (by kernel_rfl) ?_
          refine Al_nil ?_
          refine Aw_block ?_
          refine Aw_loopk (ι := Nat) [5, 8, 12] [5] (fun j => [(13, .d (iv j))]) (fun j => []) (fun j => j ≤ (l.getD i default).seen.length) (fun j => (l.getD i default).seen.length - j) (0) (Nat.zero_le _) ⟨Sub.rfl, trivial⟩ trivial ?_
          rintro j hk1
          refine Aw_seq ?_
          refine Aw_seq ?_
          refine Aw_region ?_
          refine Al_pu (Pu_move (.inl rfl) (by conv => lhs; whnf)) rfl rfl (by decide) (by kernel_rfl) ?_
          refine Al_pu (Pu_fieldb 5 rfl Try.underlying33 rfl rfl Try.sizeOf31 rfl) rfl rfl (by decide) (by kernel_rfl) ?_
          refine Al_pu (Pu_loadb rfl Try.isAgg31 rfl rfl rfl) rfl rfl (by decide) (by kernel_rfl) ?_
          refine Al_pu (Pu_len rfl Try.underlying31 rfl (by first | exact List.length_map .. | exact rfl)) rfl rfl (by decide) (by kernel_rfl) ?_
          refine Al_pu (Pu_cmp rfl rfl rfl rfl) rfl rfl (by decide) (by kernel_rfl) ?_
          refine Al_nil ?_
          refine Aw_cond rfl (fun h95 => ?_) (fun h95 => ?_)
          · (try simp only [decide_eq_true_eq, decide_eq_false_iff_not, Bool.and_eq_true, Bool.or_eq_true, Bool.and_eq_false_iff, Bool.or_eq_false_iff, Bool.not_eq_true', Bool.not_eq_false', beq_iff_eq, Bool.not_eq_eq_eq_not, Bool.not_true, Bool.not_false, List.length_map, Bool.and_true, Bool.and_false, Bool.false_and, Bool.true_and, Bool.or_false, Bool.false_or] at h95)
            have hj : j < (l.getD i default).seen.length := by omega
            have hlj := rless_a ((l.getD i default).seen[j]'hj).n ((l.getD i default).seen[j]'hj).s (l.getD i default).n (l.getD i default).s
            rw [hw2 _ (List.getElem_mem hj)] at hlj
            refine Aw_skip ?_
            refine Aw_seq ?_
            refine Aw_block ?_
            refine Aw_seq ?_
            refine Aw_draw 10 (by kernel_rfl) (by kernel_rfl) ?_
            refine Dr_pu (Pu_fieldb 5 rfl Try.underlying33 rfl rfl Try.sizeOf31 rfl) rfl rfl ?_
            refine Dr_pu (Pu_loadb rfl Try.isAgg31 rfl rfl rfl) rfl rfl ?_
            refine Dr_pu (Pu_move (.inl rfl) (by conv => lhs; whnf)) rfl rfl ?_
            refine Dr_pu (Pu_index rfl Try.underlying31 Try.sizeOf60 rfl rfl (rfl) (mapget hj)) rfl rfl ?_
            refine Dr_pu (Pu_field 1 rfl Try.underlying60 rfl rfl Try.sizeOf30 rfl) rfl rfl ?_
            refine Dr_pu (Pu_loadN rfl Try.isAgg30 Try.sizeOf30 rfl (Nat.le_of_ble_eq_true rfl)) rfl rfl ?_
            refine Dr_pu (Pu_fieldb 3 rfl Try.underlying33 rfl rfl Try.sizeOf30 rfl) rfl rfl ?_
            refine Dr_pu (Pu_loadbN (r := [_, _]) rfl Try.isAgg30 Try.sizeOf30 rfl rfl rfl rfl) rfl rfl ?_
            refine Dr_pu (Pu_call (hlj) rfl ⟨Sub.rfl, Sub.rfl, trivial⟩) rfl rfl ?_
            refine Dr_pu (Pu_not rfl rfl) rfl rfl ?_
            refine Dr_nil ?_
            refine Al_nil ?_
            refine Aw_cond rfl (fun h107 => ?_) (fun h107 => ?_)
            · (try simp only [decide_eq_true_eq, decide_eq_false_iff_not, Bool.and_eq_true, Bool.or_eq_true, Bool.and_eq_false_iff, Bool.or_eq_false_iff, Bool.not_eq_true', Bool.not_eq_false', beq_iff_eq, Bool.not_eq_eq_eq_not, Bool.not_true, Bool.not_false, List.length_map, Bool.and_true, Bool.and_false, Bool.false_and, Bool.true_and, Bool.or_false, Bool.false_or] at h107)
              exfalso; revert h107; decide
            · (try simp only [decide_eq_true_eq, decide_eq_false_iff_not, Bool.and_eq_true, Bool.or_eq_true, Bool.and_eq_false_iff, Bool.or_eq_false_iff, Bool.not_eq_true', Bool.not_eq_false', beq_iff_eq, Bool.not_eq_eq_eq_not, Bool.not_true, Bool.not_false, List.length_map, Bool.and_true, Bool.and_false, Bool.false_and, Bool.true_and, Bool.or_false, Bool.false_or] at h107)
              refine Aw_skip ?_
              refine Aw_region ?_
              refine Al_pu (Pu_move (.inl rfl) (by conv => lhs; whnf)) rfl rfl (by decide) (by kernel_rfl) ?_
              refine Al_pu (Pu_add rfl rfl rfl (fun h1 h2 => by simp only [A.inI, A.maxI] at *; omega)) rfl rfl (by decide) (by kernel_rfl) ?_
              refine Al_pu (Pu_move (.inr rfl) (by conv => lhs; whnf)) rfl rfl (by decide) (by kernel_rfl) ?_
              refine Al_nil ?_
              exact ⟨j + 1, by omega, by omega, Le.ov ⟨Sub.num (by omega), trivial⟩ ⟨Sub.rfl, Sub.rfl, Sub.rfl, trivial⟩ trivial ⟨rfl, trivial⟩⟩ -- loop 1 next.0
          · (try simp only [decide_eq_true_eq, decide_eq_false_iff_not, Bool.and_eq_true, Bool.or_eq_true, Bool.and_eq_false_iff, Bool.or_eq_false_iff, Bool.not_eq_true', Bool.not_eq_false', beq_iff_eq, Bool.not_eq_eq_eq_not, Bool.not_true, Bool.not_false, List.length_map, Bool.and_true, Bool.and_false, Bool.false_and, Bool.true_and, Bool.or_false, Bool.false_or] at h95)
            refine Aw_exit ?_
            refine Aw_seq ?_
            refine Aw_region ?_
            refine Al_pu (Pu_move (.inl rfl) (by conv => lhs; whnf)) rfl rfl (by decide) (by kernel_rfl) ?_
            refine Al_pu (Pu_move (.inl rfl) (by conv => lhs; whnf)) rfl rfl (by decide) (by kernel_rfl) ?_
            refine Al_st (St_gd [] rfl rfl rfl rfl trivial (fun hg110 => by exact Pu_move (.inl rfl) (by conv => lhs; whnf))) rfl (by decide) (by kernel_rfl) (by intro j b oj dj h1 h2 h3; cases h1; cases h2; cases h3; decide) ?_
            refine Al_st (St_gd [110] rfl rfl rfl rfl ⟨⟨_, rfl⟩, trivial⟩ (fun hg111 => Pu_not rfl rfl)) rfl (by decide) (by kernel_rfl) (by intro j b oj dj h1 h2 h3; cases h1; cases h2; cases h3; decide) ?_
            refine Al_pu (Pu_and rfl rfl rfl rfl) rfl rfl (by decide) (by kernel_rfl) ?_
            refine Al_pu (Pu_move (.inr rfl) (by conv => lhs; whnf)) rfl rfl (by decide) (by kernel_rfl) ?_
            refine Al_nil ?_
            refine Aw_ret ?_
            exact Sub.bool (by rw [hw3]; rfl) -- ret 0
        · skip
          obtain ⟨hr1, hr2, hr3⟩ := hr.rd (of_decide_eq_false h86)
          have hlr := rless_a (l.getD i default).n (l.getD i default).s (D.get (l.getD i default).seen (l.getD i default).key).1 (D.get (l.getD i default).seen (l.getD i default).key).2
          rw [hr2] at hlr
          refine Aw_seq ?_
          refine Aw_region ?_
          refine Al_pu (Pu_cmp rfl rfl rfl rfl) rfl rfl (by decide) (by kernel_rfl) ?_
          refine Al_pu (Pu_move (.inr rfl) (by conv => lhs; whnf)) rfl rfl (by decide) (by kernel_rfl) ?_
          refine Al_nil ?_
          refine Aw_cond rfl (fun h113 => ?_) (fun h113 => ?_)
          · skip
            refine Aw_seq ?_
            refine Aw_region ?_
            refine Al_pu (Pu_fieldb 3 rfl Try.underlying33 rfl rfl Try.sizeOf30 rfl) rfl rfl (by decide) (by kernel_rfl) ?_
            refine Al_pu (Pu_fieldb 0 rfl Try.underlying30 rfl rfl Try.sizeOf3 rfl) rfl rfl (by decide) (by kernel_rfl) ?_
            refine Al_pu (Pu_loadb rfl Try.isAgg3 rfl rfl rfl) rfl rfl (by decide) (by kernel_rfl) ?_
            refine Al_pu (Pu_cmp rfl rfl rfl rfl) rfl rfl (by decide) (by kernel_rfl) ?_
            refine Al_pu (Pu_move (.inl rfl) (by conv => lhs; whnf)) rfl rfl (by decide) (by kernel_rfl) ?_
            refine Al_st (St_gd [] rfl rfl rfl rfl trivial (fun hg120 => Pu_fieldb 3 rfl Try.underlying33 rfl rfl Try.sizeOf30 rfl)) rfl (by decide) (by kernel_rfl) (by intro j b oj dj h1 h2 h3; cases h1; cases h2; cases h3; decide) ?_
            refine Al_st (St_gd [120] rfl rfl rfl rfl ⟨⟨_, rfl⟩, trivial⟩ (fun hg121 => Pu_fieldb 1 rfl Try.underlying30 rfl rfl Try.sizeOf3 rfl)) rfl (by decide) (by kernel_rfl) (by intro j b oj dj h1 h2 h3; cases h1; cases h2; cases h3; decide) ?_
            refine Al_st (St_gd [121] rfl rfl rfl rfl ⟨⟨_, rfl⟩, trivial⟩ (fun hg122 => Pu_loadb rfl Try.isAgg3 rfl rfl rfl)) rfl (by decide) (by kernel_rfl) (by intro j b oj dj h1 h2 h3; cases h1; cases h2; cases h3; decide) ?_
            refine Al_st (St_gd [122] rfl rfl rfl rfl ⟨⟨_, rfl⟩, trivial⟩ (fun hg123 => Pu_cmp rfl rfl rfl rfl)) rfl (by decide) (by kernel_rfl) (by intro j b oj dj h1 h2 h3; cases h1; cases h2; cases h3; decide) ?_
            refine Al_pu (Pu_and rfl rfl rfl rfl) rfl rfl (by decide) (by kernel_rfl) ?_
            refine Al_pu (Pu_move (.inr rfl) (by conv => lhs; whnf)) rfl rfl (by decide) (by kernel_rfl) ?_
            refine Al_nil ?_
            refine Aw_seq ?_
            refine Aw_draw 15 (by kernel_rfl) (by kernel_rfl) ?_
            refine Dr_pu (Pu_fieldb 3 rfl Try.underlying33 rfl rfl Try.sizeOf30 rfl) rfl rfl ?_
            refine Dr_pu (Pu_loadbN (r := [_, _]) rfl Try.isAgg30 Try.sizeOf30 rfl rfl rfl rfl) rfl rfl ?_
            refine Dr_pu (Pu_fieldb 5 rfl Try.underlying33 rfl rfl Try.sizeOf31 rfl) rfl rfl ?_
            refine Dr_pu (Pu_loadb rfl Try.isAgg31 rfl rfl rfl) rfl rfl ?_
            refine Dr_pu (Pu_fieldb 2 rfl Try.underlying33 rfl rfl Try.sizeOf9 rfl) rfl rfl ?_
            refine Dr_pu (Pu_loadb rfl Try.isAgg9 rfl rfl rfl) rfl rfl ?_
            refine Dr_pu (Pu_call (hge) rfl ⟨Sub.rfl, Sub.rfl, trivial⟩) rfl rfl ?_
            refine Dr_pu (Pu_call (hlr) rfl ⟨Sub.rfl, Sub.rfl, trivial⟩) rfl rfl ?_
            refine Dr_pu (Pu_not rfl rfl) rfl rfl ?_
            refine Dr_pu (Pu_move (.inl rfl) (by conv => lhs; whnf)) rfl rfl ?_
            refine Dr_st (St_gd [] rfl rfl rfl rfl trivial (fun hg135 => by exact Pu_move (.inl rfl) (by conv => lhs; whnf))) rfl ?_
            refine Dr_st (St_gd [135] rfl rfl rfl rfl ⟨⟨_, rfl⟩, trivial⟩ (fun hg136 => by exact Pu_move (.inl rfl) (by conv => lhs; whnf))) rfl ?_
            refine Dr_st (St_gd2 [] rfl rfl rfl rfl trivial (fun hp137 hg137 => by exact Pu_move (.inl rfl) (by conv => lhs; whnf))) rfl ?_
            refine Dr_st (St_gd [136] rfl rfl rfl rfl ⟨⟨_, rfl⟩, trivial⟩ (fun hg138 => Pu_orG rfl rfl rfl (fun h => ⟨hg138, h⟩) rfl)) rfl ?_
            refine Dr_pu (Pu_and rfl rfl rfl rfl) rfl rfl ?_
            refine Dr_nil ?_
            refine Al_pu (Pu_move (.inr rfl) (by conv => lhs; whnf)) rfl rfl (by decide) (by kernel_rfl) ?_
            refine Al_nil ?_
            refine Aw_ret ?_
            exact Sub.bool (by
              rcases hr3 with ⟨h1, h2⟩ | h1
              · rw [decide_eq_true h1, decide_eq_true h2]; rfl
              · rw [h1]; simp) -- ret 1
          · skip
            exact absurd hr1 (of_decide_eq_false h113)
set_option maxRecDepth 100000 in
theorem rcheck20_a (l : List Event) (hs : ∀ e ∈ l, e.seen.length ≤ 900) (hr : ∀ i, i < l.length → G.RightAt l i) : ACall Try.prog 18 [.sl 6 (l.map Event.row)] (iv (-1)) := by
  refine ACall_enter (fun _ _ => by kernel_rfl) Try.func18 rfl Try.ntmps18 Try.results18 (Nat.le_of_ble_eq_true rfl) (fun hok M0 w0 hnl => ?_)
  have hlen := (hok _ (List.mem_cons_self ..)).len
  rw [List.length_map] at hlen
  refine Aw_seq ?_
  refine Aw_region ?_
  refine Al_pu (Pu_move (.inr rfl) (by conv => lhs; whnf)) rfl rfl (by decide) (by kernel_rfl) ?_
  refine Al_nil ?_
  refine Aw_seq ?_
  refine Aw_seq ?_
  refine Aw_region ?_
  refine Al_pu (Pu_move (.inr rfl) (by conv => lhs; whnf)) rfl rfl (by decide) (by kernel_rfl) ?_
  refine Al_nil ?_
  refine Aw_block ?_
  refine Aw_loopk (ι := Nat) [0] [] (fun k => [(3, .d (iv k))]) (fun k => []) (fun k => k ≤ l.length) (fun k => l.length - k) (0) (Nat.zero_le _) ⟨Sub.rfl, trivial⟩ trivial ?_
  rintro k hk0
  refine Aw_seq ?_
  refine Aw_seq ?_
  refine Aw_region ?_
  refine Al_pu (Pu_move (.inl rfl) (by conv => lhs; whnf)) rfl rfl (by decide) (by kernel_rfl) ?_
  refine Al_pu (Pu_move (.inl rfl) (by conv => lhs; whnf)) rfl rfl (by decide) (by kernel_rfl) ?_
  refine Al_pu (Pu_len rfl Try.underlying24 rfl (by first | exact List.length_map .. | exact rfl)) rfl rfl (by decide) (by kernel_rfl) ?_
  refine Al_pu (Pu_cmp rfl rfl rfl rfl) rfl rfl (by decide) (by kernel_rfl) ?_
  refine Al_nil ?_
  refine Aw_cond rfl (fun h8 => ?_) (fun h8 => ?_)
  · (try simp only [decide_eq_true_eq, decide_eq_false_iff_not, Bool.and_eq_true, Bool.or_eq_true, Bool.and_eq_false_iff, Bool.or_eq_false_iff, Bool.not_eq_true', Bool.not_eq_false', beq_iff_eq, Bool.not_eq_eq_eq_not, Bool.not_true, Bool.not_false, List.length_map, Bool.and_true, Bool.and_false, Bool.false_and, Bool.true_and, Bool.or_false, Bool.false_or] at h8)
    have hk : k < l.length := by omega
    have hri := rright_a l hs k hk (hr k hk)
    refine Aw_skip ?_
    refine Aw_seq ?_
    refine Aw_block ?_
    refine Aw_seq ?_
    refine Aw_region ?_
    refine Al_pu (Pu_move (.inl rfl) (by conv => lhs; whnf)) rfl rfl (by decide) (by kernel_rfl) ?_
    refine Al_pu (Pu_move (.inl rfl) (by conv => lhs; whnf)) rfl rfl (by decide) (by kernel_rfl) ?_
    refine Al_pu (Pu_call (hri) rfl ⟨Sub.rfl, Sub.rfl, trivial⟩) rfl rfl (by decide) (by kernel_rfl) ?_
    refine Al_pu (Pu_move (.inr rfl) (by conv => lhs; whnf)) rfl rfl (by decide) (by kernel_rfl) ?_
    refine Al_nil ?_
    refine Aw_seq ?_
    refine Aw_region ?_
    refine Al_pu (Pu_move (.inl rfl) (by conv => lhs; whnf)) rfl rfl (by decide) (by kernel_rfl) ?_
    refine Al_pu (Pu_not rfl rfl) rfl rfl (by decide) (by kernel_rfl) ?_
    refine Al_nil ?_
    refine Aw_cond rfl (fun h15 => ?_) (fun h15 => ?_)
    · (try simp only [decide_eq_true_eq, decide_eq_false_iff_not, Bool.and_eq_true, Bool.or_eq_true, Bool.and_eq_false_iff, Bool.or_eq_false_iff, Bool.not_eq_true', Bool.not_eq_false', beq_iff_eq, Bool.not_eq_eq_eq_not, Bool.not_true, Bool.not_false, List.length_map, Bool.and_true, Bool.and_false, Bool.false_and, Bool.true_and, Bool.or_false, Bool.false_or] at h15)
      exfalso; revert h15; decide
    · (try simp only [decide_eq_true_eq, decide_eq_false_iff_not, Bool.and_eq_true, Bool.or_eq_true, Bool.and_eq_false_iff, Bool.or_eq_false_iff, Bool.not_eq_true', Bool.not_eq_false', beq_iff_eq, Bool.not_eq_eq_eq_not, Bool.not_true, Bool.not_false, List.length_map, Bool.and_true, Bool.and_false, Bool.false_and, Bool.true_and, Bool.or_false, Bool.false_or] at h15)
      refine Aw_skip ?_
      refine Aw_region ?_
      refine Al_pu (Pu_move (.inl rfl) (by conv => lhs; whnf)) rfl rfl (by decide) (by kernel_rfl) ?_
      refine Al_pu (Pu_add rfl rfl rfl (fun h1 h2 => by simp only [A.inI, A.maxI] at *; omega)) rfl rfl (by decide) (by kernel_rfl) ?_
      refine Al_pu (Pu_move (.inr rfl) (by conv => lhs; whnf)) rfl rfl (by decide) (by kernel_rfl) ?_
      refine Al_nil ?_
      exact ⟨k + 1, by omega, by omega, Le.ov ⟨Sub.num (by omega), trivial⟩ ⟨Sub.rfl, trivial⟩ trivial trivial⟩ -- loop 0 next.0
  · (try simp only [decide_eq_true_eq, decide_eq_false_iff_not, Bool.and_eq_true, Bool.or_eq_true, Bool.and_eq_false_iff, Bool.or_eq_false_iff, Bool.not_eq_true', Bool.not_eq_false', beq_iff_eq, Bool.not_eq_eq_eq_not, Bool.not_true, Bool.not_false, List.length_map, Bool.and_true, Bool.and_false, Bool.false_and, Bool.true_and, Bool.or_false, Bool.false_or] at h8)
    refine Aw_exit ?_
    refine Aw_seq ?_
    refine Aw_region ?_
    refine Al_pu (Pu_move (.inr rfl) (by conv => lhs; whnf)) rfl rfl (by decide) (by kernel_rfl) ?_
    refine Al_nil ?_
    refine Aw_ret ?_
    exact Sub.rfl -- ret 0
end Go.Proofs.Ytgoncpjgpkoacaa
