/- The reference's RowCheck, row. -/
import Derived.Test.YtocgnmklgklfnaaSRow
set_option linter.unusedSimpArgs false
set_option linter.unusedVariables false
namespace Go.Proofs.Ytocgnmklgklfnaa
open Go.RowKit A R
namespace S
theorem shape_z2 (c : SRow) : (!whole c.ranges || decide (8 < (c.ranges.length : Int)) || !decide ((c.owners.length : Int) = c.ranges.length) || decide ((c.parents.length : Int) < 1) || decide (6 < (c.parents.length : Int))) = !S.shape c := by
  rw [← S.shape_z]
  cases whole c.ranges <;> cases decide (8 < (c.ranges.length : Int)) <;> cases decide ((c.owners.length : Int) = c.ranges.length) <;> cases decide ((c.parents.length : Int) < 1) <;> cases decide (6 < (c.parents.length : Int)) <;> rfl
theorem any_at {α : Type} {p : α → Bool} {l : List α} {k : Nat} (hk : k < l.length) (h : p l[k] = true) : l.any p = true := List.any_eq_true.2 ⟨_, List.getElem_mem hk, h⟩
theorem any_snoc {α : Type} {p : α → Bool} {l : List α} {k : Nat} (hk : k < l.length) (h : (l.take k).any p = false) (h2 : p l[k] = false) : (l.take (k + 1)).any p = false := by
  rw [List.take_succ_eq_append_getElem hk, List.any_append, h]; simp [h2]
theorem pow_in (k : Nat) (h : k ≤ 6) : (1 : Int) ≤ 2 ^ k ∧ (2 : Int) ^ k ≤ 64 := by
  have : k = 0 ∨ k = 1 ∨ k = 2 ∨ k = 3 ∨ k = 4 ∨ k = 5 ∨ k = 6 := by omega
  rcases this with rfl | rfl | rfl | rfl | rfl | rfl | rfl <;> decide
end S
set_option maxRecDepth 100000 in
theorem srowcheck_a (c : SRow) : ACall Try.prog 41 [.row c.row] (bv (S.written c)) := by
  refine ACall_enter (fun _ _ => by kernel_rfl) Try.func41 rfl Try.ntmps41 Try.results41 (Nat.le_of_ble_eq_true rfl) (fun hok M0 w0 => ?_)
  have hr := (hok _ (List.mem_cons_self ..)).row
  have l3 := (hr (.sl 1 (c.parents.map fun x => [iv x])) (by simp [SRow.row])).len
  have l2 := (hr (.sl 1 (c.owners.map fun x => [iv x])) (by simp [SRow.row])).len
  rw [List.length_map] at l3 l2
  refine Aw_seq ?_
  refine Aw_region ?_
  refine Al_pu (Pu_boxN rfl rfl) rfl rfl (by decide) (by kernel_rfl) ?_
  refine Al_pu (Pu_move (.inr rfl) (by conv => lhs; whnf)) rfl rfl (by decide) (by kernel_rfl) ?_
  refine Al_nil ?_
  refine Aw_seq ?_
  refine Aw_region ?_
  refine Al_pu (Pu_field 0 rfl Try.underlying28 rfl rfl Try.sizeOf25 rfl) rfl rfl (by decide) (by kernel_rfl) ?_
  refine Al_pu (Pu_load1 rfl Try.isAgg25 rfl rfl) rfl rfl (by decide) (by kernel_rfl) ?_
  refine Al_pu (Pu_call (rwhole_a c.ranges) rfl ⟨Sub.rfl, trivial⟩) rfl rfl (by decide) (by kernel_rfl) ?_
  refine Al_pu (Pu_move (.inr rfl) (by conv => lhs; whnf)) rfl rfl (by decide) (by kernel_rfl) ?_
  refine Al_nil ?_
  refine Aw_seq ?_
  refine Aw_region ?_
  refine Al_pu (Pu_field 2 rfl Try.underlying28 rfl rfl Try.sizeOf26 rfl) rfl rfl (by decide) (by kernel_rfl) ?_
  refine Al_pu (Pu_load1 rfl Try.isAgg26 rfl rfl) rfl rfl (by decide) (by kernel_rfl) ?_
  refine Al_pu (Pu_len rfl Try.underlying26 rfl (by first | exact List.length_map .. | exact rfl)) rfl rfl (by decide) (by kernel_rfl) ?_
  refine Al_pu (Pu_move (.inr rfl) (by conv => lhs; whnf)) rfl rfl (by decide) (by kernel_rfl) ?_
  refine Al_nil ?_
  refine Aw_seq ?_
  refine Aw_seq ?_
  refine Aw_region ?_
  refine Al_pu (Pu_move (.inl rfl) (by conv => lhs; whnf)) rfl rfl (by decide) (by kernel_rfl) ?_
  refine Al_pu (Pu_not rfl rfl) rfl rfl (by decide) (by kernel_rfl) ?_
  refine Al_pu (Pu_move (.inl rfl) (by conv => lhs; whnf)) rfl rfl (by decide) (by kernel_rfl) ?_
  refine Al_st (St_gd [] rfl rfl rfl rfl trivial (fun hg18 => Pu_field 0 rfl Try.underlying28 rfl rfl Try.sizeOf25 rfl)) rfl (by decide) (by kernel_rfl) (by intro j b oj dj h1 h2 h3; cases h1; cases h2; cases h3; decide) ?_
  refine Al_st (St_gd [18] rfl rfl rfl rfl ⟨⟨_, rfl⟩, trivial⟩ (fun hg19 => Pu_load1 rfl Try.isAgg25 rfl rfl)) rfl (by decide) (by kernel_rfl) (by intro j b oj dj h1 h2 h3; cases h1; cases h2; cases h3; decide) ?_
  refine Al_st (St_gd [19] rfl rfl rfl rfl ⟨⟨_, rfl⟩, trivial⟩ (fun hg20 => by exact Pu_len rfl Try.underlying25 rfl (by first | exact List.length_map .. | exact rfl))) rfl (by decide) (by kernel_rfl) (by intro j b oj dj h1 h2 h3; cases h1; cases h2; cases h3; decide) ?_
  refine Al_st (St_gd [20] rfl rfl rfl rfl ⟨⟨_, rfl⟩, trivial⟩ (fun hg21 => Pu_cmp rfl rfl rfl rfl)) rfl (by decide) (by kernel_rfl) (by intro j b oj dj h1 h2 h3; cases h1; cases h2; cases h3; decide) ?_
  refine Al_pu (Pu_or rfl rfl rfl rfl) rfl rfl (by decide) (by kernel_rfl) ?_
  refine Al_pu (Pu_move (.inl rfl) (by conv => lhs; whnf)) rfl rfl (by decide) (by kernel_rfl) ?_
  refine Al_st (St_gd [] rfl rfl rfl rfl trivial (fun hg24 => Pu_field 1 rfl Try.underlying28 rfl rfl Try.sizeOf26 rfl)) rfl (by decide) (by kernel_rfl) (by intro j b oj dj h1 h2 h3; cases h1; cases h2; cases h3; decide) ?_
  refine Al_st (St_gd [24] rfl rfl rfl rfl ⟨⟨_, rfl⟩, trivial⟩ (fun hg25 => Pu_load1 rfl Try.isAgg26 rfl rfl)) rfl (by decide) (by kernel_rfl) (by intro j b oj dj h1 h2 h3; cases h1; cases h2; cases h3; decide) ?_
  refine Al_st (St_gd [25] rfl rfl rfl rfl ⟨⟨_, rfl⟩, trivial⟩ (fun hg26 => by exact Pu_len rfl Try.underlying26 rfl (by first | exact List.length_map .. | exact rfl))) rfl (by decide) (by kernel_rfl) (by intro j b oj dj h1 h2 h3; cases h1; cases h2; cases h3; decide) ?_
  refine Al_st (St_gd [] rfl rfl rfl rfl trivial (fun hg27 => Pu_field 0 rfl Try.underlying28 rfl rfl Try.sizeOf25 rfl)) rfl (by decide) (by kernel_rfl) (by intro j b oj dj h1 h2 h3; cases h1; cases h2; cases h3; decide) ?_
  refine Al_st (St_gd [27] rfl rfl rfl rfl ⟨⟨_, rfl⟩, trivial⟩ (fun hg28 => Pu_load1 rfl Try.isAgg25 rfl rfl)) rfl (by decide) (by kernel_rfl) (by intro j b oj dj h1 h2 h3; cases h1; cases h2; cases h3; decide) ?_
  refine Al_st (St_gd [28] rfl rfl rfl rfl ⟨⟨_, rfl⟩, trivial⟩ (fun hg29 => by exact Pu_len rfl Try.underlying25 rfl (by first | exact List.length_map .. | exact rfl))) rfl (by decide) (by kernel_rfl) (by intro j b oj dj h1 h2 h3; cases h1; cases h2; cases h3; decide) ?_
  refine Al_st (St_gd [26, 29] rfl rfl rfl rfl ⟨⟨_, rfl⟩, ⟨_, rfl⟩, trivial⟩ (fun hg30 => Pu_cmp rfl rfl rfl rfl)) rfl (by decide) (by kernel_rfl) (by intro j b oj dj h1 h2 h3; cases h1; cases h2; cases h3; decide) ?_
  refine Al_pu (Pu_or rfl rfl rfl rfl) rfl rfl (by decide) (by kernel_rfl) ?_
  refine Al_pu (Pu_move (.inl rfl) (by conv => lhs; whnf)) rfl rfl (by decide) (by kernel_rfl) ?_
  refine Al_st (St_gd [] rfl rfl rfl rfl trivial (fun hg33 => by exact Pu_move (.inl rfl) (by conv => lhs; whnf))) rfl (by decide) (by kernel_rfl) (by intro j b oj dj h1 h2 h3; cases h1; cases h2; cases h3; decide) ?_
  refine Al_st (St_gd [33] rfl rfl rfl rfl ⟨⟨_, rfl⟩, trivial⟩ (fun hg34 => Pu_cmp rfl rfl rfl rfl)) rfl (by decide) (by kernel_rfl) (by intro j b oj dj h1 h2 h3; cases h1; cases h2; cases h3; decide) ?_
  refine Al_pu (Pu_or rfl rfl rfl rfl) rfl rfl (by decide) (by kernel_rfl) ?_
  refine Al_pu (Pu_move (.inl rfl) (by conv => lhs; whnf)) rfl rfl (by decide) (by kernel_rfl) ?_
  refine Al_st (St_gd [] rfl rfl rfl rfl trivial (fun hg37 => by exact Pu_move (.inl rfl) (by conv => lhs; whnf))) rfl (by decide) (by kernel_rfl) (by intro j b oj dj h1 h2 h3; cases h1; cases h2; cases h3; decide) ?_
  refine Al_st (St_gd [37] rfl rfl rfl rfl ⟨⟨_, rfl⟩, trivial⟩ (fun hg38 => Pu_cmp rfl rfl rfl rfl)) rfl (by decide) (by kernel_rfl) (by intro j b oj dj h1 h2 h3; cases h1; cases h2; cases h3; decide) ?_
  refine Al_pu (Pu_or rfl rfl rfl rfl) rfl rfl (by decide) (by kernel_rfl) ?_
  refine Al_nil ?_
  refine Aw_cond rfl (fun h39 => ?_) (fun h39 => ?_)
  · skip
    have hs : S.shape c = false := by
      have h := S.shape_z2 c
      rw [h39] at h
      simpa using h.symm
    refine Aw_seq ?_
    refine Aw_region ?_
    refine Al_pu (Pu_move (.inr rfl) (by conv => lhs; whnf)) rfl rfl (by decide) (by kernel_rfl) ?_
    refine Al_nil ?_
    refine Aw_ret ?_
    exact Sub.bool (by unfold S.written; rw [hs]; rfl) -- ret 0
  · skip
    have hs : S.shape c = true := by
      have h := S.shape_z2 c
      rw [h39] at h
      simpa using h.symm
    have hn6 := (S.shape_facts hs).2.1
    refine Aw_skip ?_
    refine Aw_seq ?_
    refine Aw_region ?_
    refine Al_pu (Pu_move (.inr rfl) (by conv => lhs; whnf)) rfl rfl (by decide) (by kernel_rfl) ?_
    refine Al_nil ?_
    refine Aw_seq ?_
    refine Aw_seq ?_
    refine Aw_region ?_
    refine Al_pu (Pu_move (.inr rfl) (by conv => lhs; whnf)) rfl rfl (by decide) (by kernel_rfl) ?_
    refine Al_nil ?_
    refine Aw_block ?_
    refine Aw_loopk (ι := Nat) [1, 4] [] (fun k => [(6, .d (iv k)), (5, .d (iv (2 ^ k)))]) (fun k => []) (fun k => k ≤ c.parents.length) (fun k => c.parents.length - k) (0) (Nat.zero_le _) ⟨Sub.rfl, Sub.num rfl, trivial⟩ trivial ?_
    rintro k hk0
    refine Aw_seq ?_
    refine Aw_seq ?_
    refine Aw_region ?_
    refine Al_pu (Pu_move (.inl rfl) (by conv => lhs; whnf)) rfl rfl (by decide) (by kernel_rfl) ?_
    refine Al_pu (Pu_move (.inl rfl) (by conv => lhs; whnf)) rfl rfl (by decide) (by kernel_rfl) ?_
    refine Al_pu (Pu_cmp rfl rfl rfl rfl) rfl rfl (by decide) (by kernel_rfl) ?_
    refine Al_nil ?_
    refine Aw_cond rfl (fun h42 => ?_) (fun h42 => ?_)
    · (try simp only [decide_eq_true_eq, decide_eq_false_iff_not, Bool.and_eq_true, Bool.or_eq_true, Bool.and_eq_false_iff, Bool.or_eq_false_iff, Bool.not_eq_true', Bool.not_eq_false', beq_iff_eq, Bool.not_eq_eq_eq_not, Bool.not_true, Bool.not_false, List.length_map, Bool.and_true, Bool.and_false, Bool.false_and, Bool.true_and, Bool.or_false, Bool.false_or] at h42)
      refine Aw_skip ?_
      refine Aw_seq ?_
      refine Aw_block ?_
      refine Aw_region ?_
      refine Al_pu (Pu_move (.inl rfl) (by conv => lhs; whnf)) rfl rfl (by decide) (by kernel_rfl) ?_
      refine Al_pu (Pu_int_mul rfl rfl rfl (r := 2 ^ (k + 1)) (by have := S.pow_in (k + 1) (by omega); rw [← Int.pow_succ]; exact IntWalk.i64_in _ (by omega)) (fun _ => by have := S.pow_in (k + 1) (by omega); show A.inI _; simp only [A.inI]; omega)) rfl rfl (by decide) (by kernel_rfl) ?_
      refine Al_pu (Pu_move (.inr rfl) (by conv => lhs; whnf)) rfl rfl (by decide) (by kernel_rfl) ?_
      refine Al_nil ?_
      refine Aw_region ?_
      refine Al_pu (Pu_move (.inl rfl) (by conv => lhs; whnf)) rfl rfl (by decide) (by kernel_rfl) ?_
      refine Al_pu (Pu_add rfl rfl rfl (fun h1 h2 => by simp only [A.inI, A.maxI] at *; omega)) rfl rfl (by decide) (by kernel_rfl) ?_
      refine Al_pu (Pu_move (.inr rfl) (by conv => lhs; whnf)) rfl rfl (by decide) (by kernel_rfl) ?_
      refine Al_nil ?_
      exact ⟨k + 1, by omega, by omega, Le.ov ⟨Sub.num (by omega), Sub.rfl, trivial⟩ ⟨Sub.rfl, Sub.rfl, trivial⟩ trivial trivial⟩ -- loop 0 next.0
    · (try simp only [decide_eq_true_eq, decide_eq_false_iff_not, Bool.and_eq_true, Bool.or_eq_true, Bool.and_eq_false_iff, Bool.or_eq_false_iff, Bool.not_eq_true', Bool.not_eq_false', beq_iff_eq, Bool.not_eq_eq_eq_not, Bool.not_true, Bool.not_false, List.length_map, Bool.and_true, Bool.and_false, Bool.false_and, Bool.true_and, Bool.or_false, Bool.false_or] at h42)
      obtain rfl : k = c.parents.length := by omega
      refine Aw_exit ?_
      refine Aw_seq ?_
      refine Aw_seq ?_
      refine Aw_region ?_
      refine Al_pu (Pu_move (.inr rfl) (by conv => lhs; whnf)) rfl rfl (by decide) (by kernel_rfl) ?_
      refine Al_nil ?_
      refine Aw_block ?_
      refine Aw_loopk (ι := Nat) [1, 5] [] (fun i => [(7, .d (iv i))]) (fun i => []) (fun i => i ≤ c.owners.length ∧ (c.owners.take i).any (S.badO c.parents.length) = false) (fun i => c.owners.length - i) (0) (⟨Nat.zero_le _, by simp⟩) ⟨Sub.rfl, trivial⟩ trivial ?_
      rintro i ⟨hk1, hno⟩
      refine Aw_seq ?_
      refine Aw_seq ?_
      refine Aw_region ?_
      refine Al_pu (Pu_move (.inl rfl) (by conv => lhs; whnf)) rfl rfl (by decide) (by kernel_rfl) ?_
      refine Al_pu (Pu_field 1 rfl Try.underlying28 rfl rfl Try.sizeOf26 rfl) rfl rfl (by decide) (by kernel_rfl) ?_
      refine Al_pu (Pu_load1 rfl Try.isAgg26 rfl rfl) rfl rfl (by decide) (by kernel_rfl) ?_
      refine Al_pu (Pu_len rfl Try.underlying26 rfl (by first | exact List.length_map .. | exact rfl)) rfl rfl (by decide) (by kernel_rfl) ?_
      refine Al_pu (Pu_cmp rfl rfl rfl rfl) rfl rfl (by decide) (by kernel_rfl) ?_
      refine Al_nil ?_
      refine Aw_cond rfl (fun h51 => ?_) (fun h51 => ?_)
      · (try simp only [decide_eq_true_eq, decide_eq_false_iff_not, Bool.and_eq_true, Bool.or_eq_true, Bool.and_eq_false_iff, Bool.or_eq_false_iff, Bool.not_eq_true', Bool.not_eq_false', beq_iff_eq, Bool.not_eq_eq_eq_not, Bool.not_true, Bool.not_false, List.length_map, Bool.and_true, Bool.and_false, Bool.false_and, Bool.true_and, Bool.or_false, Bool.false_or] at h51)
        have hi : i < c.owners.length := by omega
        refine Aw_skip ?_
        refine Aw_seq ?_
        refine Aw_block ?_
        refine Aw_seq ?_
        refine Aw_region ?_
        refine Al_pu (Pu_field 1 rfl Try.underlying28 rfl rfl Try.sizeOf26 rfl) rfl rfl (by decide) (by kernel_rfl) ?_
        refine Al_pu (Pu_load1 rfl Try.isAgg26 rfl rfl) rfl rfl (by decide) (by kernel_rfl) ?_
        refine Al_pu (Pu_move (.inl rfl) (by conv => lhs; whnf)) rfl rfl (by decide) (by kernel_rfl) ?_
        refine Al_pu (Pu_index rfl Try.underlying26 Try.sizeOf3 rfl rfl (rfl) (mapget hi)) rfl rfl (by decide) (by kernel_rfl) ?_
        refine Al_pu (Pu_load1 rfl Try.isAgg3 rfl rfl) rfl rfl (by decide) (by kernel_rfl) ?_
        refine Al_pu (Pu_cmp rfl rfl rfl rfl) rfl rfl (by decide) (by kernel_rfl) ?_
        refine Al_pu (Pu_move (.inl rfl) (by conv => lhs; whnf)) rfl rfl (by decide) (by kernel_rfl) ?_
        refine Al_st (St_gd [] rfl rfl rfl rfl trivial (fun hg61 => Pu_field 1 rfl Try.underlying28 rfl rfl Try.sizeOf26 rfl)) rfl (by decide) (by kernel_rfl) (by intro j b oj dj h1 h2 h3; cases h1; cases h2; cases h3; decide) ?_
        refine Al_st (St_gd [61] rfl rfl rfl rfl ⟨⟨_, rfl⟩, trivial⟩ (fun hg62 => Pu_load1 rfl Try.isAgg26 rfl rfl)) rfl (by decide) (by kernel_rfl) (by intro j b oj dj h1 h2 h3; cases h1; cases h2; cases h3; decide) ?_
        refine Al_st (St_gd [] rfl rfl rfl rfl trivial (fun hg63 => by exact Pu_move (.inl rfl) (by conv => lhs; whnf))) rfl (by decide) (by kernel_rfl) (by intro j b oj dj h1 h2 h3; cases h1; cases h2; cases h3; decide) ?_
        refine Al_st (St_gd [62, 63] rfl rfl rfl rfl ⟨⟨_, rfl⟩, ⟨_, rfl⟩, trivial⟩ (fun hg64 => Pu_index rfl Try.underlying26 Try.sizeOf3 rfl rfl (rfl) (mapget hi))) rfl (by decide) (by kernel_rfl) (by intro j b oj dj h1 h2 h3; cases h1; cases h2; cases h3; decide) ?_
        refine Al_st (St_gd [64] rfl rfl rfl rfl ⟨⟨_, rfl⟩, trivial⟩ (fun hg65 => Pu_load1 rfl Try.isAgg3 rfl rfl)) rfl (by decide) (by kernel_rfl) (by intro j b oj dj h1 h2 h3; cases h1; cases h2; cases h3; decide) ?_
        refine Al_st (St_gd [] rfl rfl rfl rfl trivial (fun hg66 => by exact Pu_move (.inl rfl) (by conv => lhs; whnf))) rfl (by decide) (by kernel_rfl) (by intro j b oj dj h1 h2 h3; cases h1; cases h2; cases h3; decide) ?_
        refine Al_st (St_gd [65, 66] rfl rfl rfl rfl ⟨⟨_, rfl⟩, ⟨_, rfl⟩, trivial⟩ (fun hg67 => Pu_cmp rfl rfl rfl rfl)) rfl (by decide) (by kernel_rfl) (by intro j b oj dj h1 h2 h3; cases h1; cases h2; cases h3; decide) ?_
        refine Al_pu (Pu_or rfl rfl rfl rfl) rfl rfl (by decide) (by kernel_rfl) ?_
        refine Al_nil ?_
        refine Aw_cond rfl (fun h68 => ?_) (fun h68 => ?_)
        · skip
          have hb : S.badO c.parents.length c.owners[i] = true := h68
          refine Aw_seq ?_
          refine Aw_region ?_
          refine Al_pu (Pu_move (.inr rfl) (by conv => lhs; whnf)) rfl rfl (by decide) (by kernel_rfl) ?_
          refine Al_nil ?_
          refine Aw_ret ?_
          exact Sub.bool (by unfold S.written; rw [hs, S.any_at hi hb]; simp) -- ret 1
        · skip
          have hb : S.badO c.parents.length c.owners[i] = false := h68
          refine Aw_skip ?_
          refine Aw_region ?_
          refine Al_pu (Pu_move (.inl rfl) (by conv => lhs; whnf)) rfl rfl (by decide) (by kernel_rfl) ?_
          refine Al_pu (Pu_add rfl rfl rfl (fun h1 h2 => by simp only [A.inI, A.maxI] at *; omega)) rfl rfl (by decide) (by kernel_rfl) ?_
          refine Al_pu (Pu_move (.inr rfl) (by conv => lhs; whnf)) rfl rfl (by decide) (by kernel_rfl) ?_
          refine Al_nil ?_
          exact ⟨i + 1, ⟨by omega, S.any_snoc hi hno hb⟩, by omega, Le.ov ⟨Sub.num (by omega), trivial⟩ ⟨Sub.rfl, Sub.rfl, trivial⟩ trivial trivial⟩ -- loop 1 next.0
      · (try simp only [decide_eq_true_eq, decide_eq_false_iff_not, Bool.and_eq_true, Bool.or_eq_true, Bool.and_eq_false_iff, Bool.or_eq_false_iff, Bool.not_eq_true', Bool.not_eq_false', beq_iff_eq, Bool.not_eq_eq_eq_not, Bool.not_true, Bool.not_false, List.length_map, Bool.and_true, Bool.and_false, Bool.false_and, Bool.true_and, Bool.or_false, Bool.false_or] at h51)
        obtain rfl : i = c.owners.length := by omega
        rw [List.take_length] at hno
        refine Aw_exit ?_
        refine Aw_seq ?_
        refine Aw_seq ?_
        refine Aw_region ?_
        refine Al_pu (Pu_move (.inr rfl) (by conv => lhs; whnf)) rfl rfl (by decide) (by kernel_rfl) ?_
        refine Al_nil ?_
        refine Aw_block ?_
        refine Aw_loopk (ι := Nat) [1] [] (fun j => [(8, .d (iv j))]) (fun j => []) (fun j => j ≤ c.parents.length ∧ (c.parents.take j).any S.badP = false) (fun j => c.parents.length - j) (0) (⟨Nat.zero_le _, by simp⟩) ⟨Sub.rfl, trivial⟩ trivial ?_
        rintro j ⟨hk2, hnp⟩
        refine Aw_seq ?_
        refine Aw_seq ?_
        refine Aw_region ?_
        refine Al_pu (Pu_move (.inl rfl) (by conv => lhs; whnf)) rfl rfl (by decide) (by kernel_rfl) ?_
        refine Al_pu (Pu_field 2 rfl Try.underlying28 rfl rfl Try.sizeOf26 rfl) rfl rfl (by decide) (by kernel_rfl) ?_
        refine Al_pu (Pu_load1 rfl Try.isAgg26 rfl rfl) rfl rfl (by decide) (by kernel_rfl) ?_
        refine Al_pu (Pu_len rfl Try.underlying26 rfl (by first | exact List.length_map .. | exact rfl)) rfl rfl (by decide) (by kernel_rfl) ?_
        refine Al_pu (Pu_cmp rfl rfl rfl rfl) rfl rfl (by decide) (by kernel_rfl) ?_
        refine Al_nil ?_
        refine Aw_cond rfl (fun h73 => ?_) (fun h73 => ?_)
        · (try simp only [decide_eq_true_eq, decide_eq_false_iff_not, Bool.and_eq_true, Bool.or_eq_true, Bool.and_eq_false_iff, Bool.or_eq_false_iff, Bool.not_eq_true', Bool.not_eq_false', beq_iff_eq, Bool.not_eq_eq_eq_not, Bool.not_true, Bool.not_false, List.length_map, Bool.and_true, Bool.and_false, Bool.false_and, Bool.true_and, Bool.or_false, Bool.false_or] at h73)
          have hj : j < c.parents.length := by omega
          refine Aw_skip ?_
          refine Aw_seq ?_
          refine Aw_block ?_
          refine Aw_seq ?_
          refine Aw_region ?_
          refine Al_pu (Pu_field 2 rfl Try.underlying28 rfl rfl Try.sizeOf26 rfl) rfl rfl (by decide) (by kernel_rfl) ?_
          refine Al_pu (Pu_load1 rfl Try.isAgg26 rfl rfl) rfl rfl (by decide) (by kernel_rfl) ?_
          refine Al_pu (Pu_move (.inl rfl) (by conv => lhs; whnf)) rfl rfl (by decide) (by kernel_rfl) ?_
          refine Al_pu (Pu_index rfl Try.underlying26 Try.sizeOf3 rfl rfl (rfl) (mapget hj)) rfl rfl (by decide) (by kernel_rfl) ?_
          refine Al_pu (Pu_load1 rfl Try.isAgg3 rfl rfl) rfl rfl (by decide) (by kernel_rfl) ?_
          refine Al_pu (Pu_cmp rfl rfl rfl rfl) rfl rfl (by decide) (by kernel_rfl) ?_
          refine Al_pu (Pu_move (.inl rfl) (by conv => lhs; whnf)) rfl rfl (by decide) (by kernel_rfl) ?_
          refine Al_st (St_gd [] rfl rfl rfl rfl trivial (fun hg83 => Pu_field 2 rfl Try.underlying28 rfl rfl Try.sizeOf26 rfl)) rfl (by decide) (by kernel_rfl) (by intro j b oj dj h1 h2 h3; cases h1; cases h2; cases h3; decide) ?_
          refine Al_st (St_gd [83] rfl rfl rfl rfl ⟨⟨_, rfl⟩, trivial⟩ (fun hg84 => Pu_load1 rfl Try.isAgg26 rfl rfl)) rfl (by decide) (by kernel_rfl) (by intro j b oj dj h1 h2 h3; cases h1; cases h2; cases h3; decide) ?_
          refine Al_st (St_gd [] rfl rfl rfl rfl trivial (fun hg85 => by exact Pu_move (.inl rfl) (by conv => lhs; whnf))) rfl (by decide) (by kernel_rfl) (by intro j b oj dj h1 h2 h3; cases h1; cases h2; cases h3; decide) ?_
          refine Al_st (St_gd [84, 85] rfl rfl rfl rfl ⟨⟨_, rfl⟩, ⟨_, rfl⟩, trivial⟩ (fun hg86 => Pu_index rfl Try.underlying26 Try.sizeOf3 rfl rfl (rfl) (mapget hj))) rfl (by decide) (by kernel_rfl) (by intro j b oj dj h1 h2 h3; cases h1; cases h2; cases h3; decide) ?_
          refine Al_st (St_gd [86] rfl rfl rfl rfl ⟨⟨_, rfl⟩, trivial⟩ (fun hg87 => Pu_load1 rfl Try.isAgg3 rfl rfl)) rfl (by decide) (by kernel_rfl) (by intro j b oj dj h1 h2 h3; cases h1; cases h2; cases h3; decide) ?_
          refine Al_st (St_gd [87] rfl rfl rfl rfl ⟨⟨_, rfl⟩, trivial⟩ (fun hg88 => Pu_cmp rfl rfl rfl rfl)) rfl (by decide) (by kernel_rfl) (by intro j b oj dj h1 h2 h3; cases h1; cases h2; cases h3; decide) ?_
          refine Al_pu (Pu_or rfl rfl rfl rfl) rfl rfl (by decide) (by kernel_rfl) ?_
          refine Al_nil ?_
          refine Aw_cond rfl (fun h89 => ?_) (fun h89 => ?_)
          · skip
            have hb : S.badP c.parents[j] = true := by
              rw [← h89]; unfold S.badP; congr 1
            refine Aw_seq ?_
            refine Aw_region ?_
            refine Al_pu (Pu_move (.inr rfl) (by conv => lhs; whnf)) rfl rfl (by decide) (by kernel_rfl) ?_
            refine Al_nil ?_
            refine Aw_ret ?_
            exact Sub.bool (by unfold S.written; rw [hs, S.any_at hj hb]; simp) -- ret 2
          · skip
            have hb : S.badP c.parents[j] = false := by
              rw [← h89]; unfold S.badP; congr 1
            refine Aw_skip ?_
            refine Aw_region ?_
            refine Al_pu (Pu_move (.inl rfl) (by conv => lhs; whnf)) rfl rfl (by decide) (by kernel_rfl) ?_
            refine Al_pu (Pu_add rfl rfl rfl (fun h1 h2 => by simp only [A.inI, A.maxI] at *; omega)) rfl rfl (by decide) (by kernel_rfl) ?_
            refine Al_pu (Pu_move (.inr rfl) (by conv => lhs; whnf)) rfl rfl (by decide) (by kernel_rfl) ?_
            refine Al_nil ?_
            exact ⟨j + 1, ⟨by omega, S.any_snoc hj hnp hb⟩, by omega, Le.ov ⟨Sub.num (by omega), trivial⟩ ⟨Sub.rfl, trivial⟩ trivial trivial⟩ -- loop 2 next.0
        · (try simp only [decide_eq_true_eq, decide_eq_false_iff_not, Bool.and_eq_true, Bool.or_eq_true, Bool.and_eq_false_iff, Bool.or_eq_false_iff, Bool.not_eq_true', Bool.not_eq_false', beq_iff_eq, Bool.not_eq_eq_eq_not, Bool.not_true, Bool.not_false, List.length_map, Bool.and_true, Bool.and_false, Bool.false_and, Bool.true_and, Bool.or_false, Bool.false_or] at h73)
          obtain rfl : j = c.parents.length := by omega
          rw [List.take_length] at hnp
          refine Aw_exit ?_
          refine Aw_seq ?_
          refine Aw_region ?_
          refine Al_pu (Pu_move (.inr rfl) (by conv => lhs; whnf)) rfl rfl (by decide) (by kernel_rfl) ?_
          refine Al_nil ?_
          refine Aw_ret ?_
          exact Sub.bool (by unfold S.written; rw [hs, hno, hnp]; rfl) -- ret 3
end Go.Proofs.Ytocgnmklgklfnaa
