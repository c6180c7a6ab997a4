/- ScriptWrites: the walk (awake's answer is a hypothesis here). -/
import Derived.Test.YtocgnmklgklfnaaSRef
set_option linter.unusedSimpArgs false
set_option linter.unusedVariables false
namespace Go.Proofs.Ytocgnmklgklfnaa
open Go.RowKit A R
theorem S.few_fits (o : SOp) : S.fits (S.few o) := by
  refine ⟨fun r hr => ?_, ?_, ?_, ?_⟩
  · obtain ⟨x, _, rfl⟩ := List.mem_map.1 hr
    have h1 := S.short_size x.f
    have h2 := S.short_size x.t
    exact ⟨Nat.le_trans h1 (by omega), Nat.le_trans h2 (by omega)⟩
  · simp [S.few]; omega
  · simp [S.few]; omega
  · simp [S.few]; omega
set_option maxRecDepth 100000 in
theorem swrites_law (hawake : ACall Try.prog 8 [] (bv true)) (l : List SOp) : ACall Try.prog 3 [.sl 12 (l.map SOp.row)] (bv true) := by
  refine ACall_enter (fun _ _ => by kernel_rfl) Try.func3 rfl Try.ntmps3 Try.results3 (Nat.le_of_ble_eq_true rfl) (fun hok M0 w0 hnl => ?_)
  have hlen := (hok _ (List.mem_cons_self ..)).len
  rw [List.length_map] at hlen
  refine Aw_seq ?_
  refine Aw_region ?_
  refine Al_pu (Pu_move (.inr rfl) (by conv => lhs; whnf)) rfl rfl (by decide) (by kernel_rfl) ?_
  refine Al_nil ?_
  refine Aw_seq ?_
  refine Aw_region ?_
  refine Al_pu (Pu_call (hawake) rfl trivial) rfl rfl (by decide) (by kernel_rfl) ?_
  refine Al_pu (Pu_move (.inr rfl) (by conv => lhs; whnf)) rfl rfl (by decide) (by kernel_rfl) ?_
  refine Al_nil ?_
  refine Aw_seq ?_
  refine Aw_region ?_
  refine Al_pu (Pu_move (.inr rfl) (by conv => lhs; whnf)) rfl rfl (by decide) (by kernel_rfl) ?_
  refine Al_nil ?_
  refine Aw_seq ?_
  refine Aw_seq ?_
  refine Aw_region ?_
  refine Al_pu (Pu_move (.inr rfl) (by conv => lhs; whnf)) rfl rfl (by decide) (by kernel_rfl) ?_
  refine Al_nil ?_
  refine Aw_block ?_
  refine Aw_own (j := 4) (k := 4) (T := 30) (n := 12) rfl (fun g0 => ?_)
  refine Aw_loopk (ι := Nat × Nat) [0, 3] [] (fun (i, g) => [(5, .d (iv i)), (4, .ow 4 g)]) (fun (i, g) => [(4, g, .arr 30 12 (((l.take i).map S.few).map SOp.row))]) (fun (i, g) => i ≤ l.length ∧ i ≤ 6) (fun (i, g) => l.length - i) ((0, g0)) (⟨Nat.zero_le _, by omega⟩) ⟨Sub.rfl, Sub.rfl, trivial⟩ ⟨rfl, trivial⟩ ?_
  rintro ⟨i, g⟩ ⟨hk0, hi6⟩
  refine Aw_seq ?_
  refine Aw_seq ?_
  refine Aw_region ?_
  refine Al_pu (Pu_move (.inl rfl) (by conv => lhs; whnf)) rfl rfl (by decide) (by kernel_rfl) ?_
  refine Al_pu (Pu_move (.inl rfl) (by conv => lhs; whnf)) rfl rfl (by decide) (by kernel_rfl) ?_
  refine Al_pu (Pu_len rfl Try.underlying22 rfl (by first | exact List.length_map .. | exact rfl)) rfl rfl (by decide) (by kernel_rfl) ?_
  refine Al_pu (Pu_cmp rfl rfl rfl rfl) rfl rfl (by decide) (by kernel_rfl) ?_
  refine Al_pu (Pu_move (.inl rfl) (by conv => lhs; whnf)) rfl rfl (by decide) (by kernel_rfl) ?_
  refine Al_st (St_gd [] rfl rfl rfl rfl trivial (fun hg13 => by exact Pu_move (.inl rfl) (by conv => lhs; whnf))) rfl (by decide) (by kernel_rfl) (by intro j b oj dj h1 h2 h3; cases h1; cases h2; cases h3; decide) ?_
  refine Al_st (St_gd [13] rfl rfl rfl rfl ⟨⟨_, rfl⟩, trivial⟩ (fun hg14 => Pu_cmp rfl rfl rfl rfl)) rfl (by decide) (by kernel_rfl) (by intro j b oj dj h1 h2 h3; cases h1; cases h2; cases h3; decide) ?_
  refine Al_pu (Pu_and rfl rfl rfl rfl) rfl rfl (by decide) (by kernel_rfl) ?_
  refine Al_nil ?_
  refine Aw_cond rfl (fun h15 => ?_) (fun h15 => ?_)
  · (try simp only [decide_eq_true_eq, decide_eq_false_iff_not, Bool.and_eq_true, Bool.or_eq_true, Bool.and_eq_false_iff, Bool.or_eq_false_iff, Bool.not_eq_true', Bool.not_eq_false', beq_iff_eq, Bool.not_eq_eq_eq_not, Bool.not_true, Bool.not_false, List.length_map, Bool.and_true, Bool.and_false, Bool.false_and, Bool.true_and, Bool.or_false, Bool.false_or] at h15)
    obtain ⟨h1, h2⟩ := h15
    have hi : i < l.length := by omega
    refine Aw_skip ?_
    refine Aw_seq ?_
    refine Aw_block ?_
    refine Aw_seq ?_
    refine Aw_region ?_
    refine Al_pu (Pu_move (.inl rfl) (by conv => lhs; whnf)) rfl rfl (by decide) (by kernel_rfl) ?_
    refine Al_pu (Pu_move (.inl rfl) (by conv => lhs; whnf)) rfl rfl (by decide) (by kernel_rfl) ?_
    refine Al_pu (Pu_index rfl Try.underlying22 Try.sizeOf30 rfl rfl (rfl) (mapget hi)) rfl rfl (by decide) (by kernel_rfl) ?_
    refine Al_pu (Pu_loadN rfl Try.isAgg30 Try.sizeOf30 rfl (Nat.le_of_ble_eq_true rfl)) rfl rfl (by decide) (by kernel_rfl) ?_
    refine Al_pu (Pu_call (sfew_a l[i]) rfl ⟨Sub.rfl, trivial⟩) rfl rfl (by decide) (by kernel_rfl) ?_
    refine Al_alloc rfl rfl rfl (by decide) Try.zeroValue30 rfl (by kernel_rfl) (fun g6 => ?_)
    refine Al_storeN rfl rfl rfl (by kernel_rfl) Try.isAgg30 Try.sizeOf30 rfl rfl rfl rfl (Nat.le_of_ble_eq_true rfl) ?_
    refine Al_nil ?_
    refine Aw_seq ?_
    refine Aw_seq ?_
    refine Aw_draw 5 (by kernel_rfl) (by kernel_rfl) ?_
    refine Dr_pu (Pu_loadbN (r := [_, _, _, _, _, _, _, _, _, _, _, _]) rfl Try.isAgg30 Try.sizeOf30 rfl rfl rfl rfl) rfl rfl ?_
    refine Dr_pu (Pu_call (scheck_a (S.few l[i]) (S.few_fits _)) rfl ⟨Sub.rfl, trivial⟩) rfl rfl ?_
    refine Dr_pu (Pu_loadbN (r := [_, _, _, _, _, _, _, _, _, _, _, _]) rfl Try.isAgg30 Try.sizeOf30 rfl rfl rfl rfl) rfl rfl ?_
    refine Dr_pu (Pu_call (srcheck_a (S.few l[i]) (S.few_fits _)) rfl ⟨Sub.rfl, trivial⟩) rfl rfl ?_
    refine Dr_pu (Pu_bool rfl Try.underlying4 rfl rfl rfl) rfl rfl ?_
    refine Dr_nil ?_
    refine Al_nil ?_
    refine Aw_cond rfl (fun h27 => ?_) (fun h27 => ?_)
    · (try simp only [decide_eq_true_eq, decide_eq_false_iff_not, Bool.and_eq_true, Bool.or_eq_true, Bool.and_eq_false_iff, Bool.or_eq_false_iff, Bool.not_eq_true', Bool.not_eq_false', beq_iff_eq, Bool.not_eq_eq_eq_not, Bool.not_true, Bool.not_false, List.length_map, Bool.and_true, Bool.and_false, Bool.false_and, Bool.true_and, Bool.or_false, Bool.false_or] at h27)
      exfalso; simp at h27
    · (try simp only [decide_eq_true_eq, decide_eq_false_iff_not, Bool.and_eq_true, Bool.or_eq_true, Bool.and_eq_false_iff, Bool.or_eq_false_iff, Bool.not_eq_true', Bool.not_eq_false', beq_iff_eq, Bool.not_eq_eq_eq_not, Bool.not_true, Bool.not_false, List.length_map, Bool.and_true, Bool.and_false, Bool.false_and, Bool.true_and, Bool.or_false, Bool.false_or] at h27)
      refine Aw_skip ?_
      refine Aw_region ?_
      refine Al_pu (Pu_move (.inl rfl) (by conv => lhs; whnf)) rfl rfl (by decide) (by kernel_rfl) ?_
      refine Al_pu (Pu_loadbN (r := [_, _, _, _, _, _, _, _, _, _, _, _]) rfl Try.isAgg30 Try.sizeOf30 rfl rfl rfl rfl) rfl rfl (by decide) (by kernel_rfl) ?_
      refine Al_pu (Pu_slice1 rfl Try.underlying22 Try.sizeOf30 Try.zeroValue30 rfl (by decide) (by decide) (by kernel_rfl) rfl rfl rfl) rfl rfl (by decide) (by kernel_rfl) ?_
      refine Al_append rfl rfl rfl (by decide) (by kernel_rfl) elem22 (by decide) Try.sizeOf30 rfl rfl rfl (by simp; omega) (by decide) (fun g31 => ?_)
      refine Al_pu (Pu_move (.inr rfl) (by conv => lhs; whnf)) rfl rfl (by decide) (by kernel_rfl) ?_
      refine Al_nil ?_
      refine Aw_region ?_
      refine Al_pu (Pu_move (.inl rfl) (by conv => lhs; whnf)) rfl rfl (by decide) (by kernel_rfl) ?_
      refine Al_pu (Pu_add rfl rfl rfl (fun h1 h2 => by simp only [A.inI, A.maxI] at *; omega)) rfl rfl (by decide) (by kernel_rfl) ?_
      refine Al_pu (Pu_move (.inr rfl) (by conv => lhs; whnf)) rfl rfl (by decide) (by kernel_rfl) ?_
      refine Al_nil ?_
      exact ⟨(i + 1, g31), ⟨by omega, by omega⟩, by simp only []; omega, Le.ov ⟨Sub.num (by omega), Sub.rfl, trivial⟩ ⟨Sub.rfl, Sub.rfl, trivial⟩ ⟨obeq (by rw [List.take_succ_eq_append_getElem hi]; simp only [List.map_append]; rfl), trivial⟩ trivial⟩ -- loop 0 next.0
  · (try simp only [decide_eq_true_eq, decide_eq_false_iff_not, Bool.and_eq_true, Bool.or_eq_true, Bool.and_eq_false_iff, Bool.or_eq_false_iff, Bool.not_eq_true', Bool.not_eq_false', beq_iff_eq, Bool.not_eq_eq_eq_not, Bool.not_true, Bool.not_false, List.length_map, Bool.and_true, Bool.and_false, Bool.false_and, Bool.true_and, Bool.or_false, Bool.false_or] at h15)
    have hml : ((l.take i).map S.few).length ≤ 6 := by simp; omega
    have hmf : ∀ o ∈ (l.take i).map S.few, S.fits o := fun o ho => by
      obtain ⟨x, _, rfl⟩ := List.mem_map.1 ho
      exact S.few_fits x
    refine Aw_exit ?_
    refine Aw_seq ?_
    refine Aw_frz hnl (k := 4) [4] rfl ⟨rfl, trivial⟩ ?_
    refine Aw_region ?_
    refine Al_pu (Pu_move (.inl rfl) (by conv => lhs; whnf)) rfl rfl (by decide) (by kernel_rfl) ?_
    refine Al_pu (Pu_move (.inl rfl) (by conv => lhs; whnf)) rfl rfl (by decide) (by kernel_rfl) ?_
    refine Al_st (St_gd [] rfl rfl rfl rfl trivial (fun hg34 => by exact Pu_move (.inl rfl) (by conv => lhs; whnf))) rfl (by decide) (by kernel_rfl) (by intro j b oj dj h1 h2 h3; cases h1; cases h2; cases h3; decide) ?_
    refine Al_st (St_gd [34] rfl rfl rfl rfl ⟨⟨_, rfl⟩, trivial⟩ (fun hg35 => by exact Pu_call (sbytes_a ((l.take i).map S.few) (by omega) hmf) rfl ⟨Sub.rfl, trivial⟩)) rfl (by decide) (by kernel_rfl) (by intro j b oj dj h1 h2 h3; cases h1; cases h2; cases h3; decide) ?_
    refine Al_st (St_gd [] rfl rfl rfl rfl trivial (fun hg36 => by exact Pu_move (.inl rfl) (by conv => lhs; whnf))) rfl (by decide) (by kernel_rfl) (by intro j b oj dj h1 h2 h3; cases h1; cases h2; cases h3; decide) ?_
    refine Al_st (St_gd [36] rfl rfl rfl rfl ⟨⟨_, rfl⟩, trivial⟩ (fun hg37 => by exact Pu_call (srbytes_a ((l.take i).map S.few) (by omega) hmf) rfl ⟨Sub.rfl, trivial⟩)) rfl (by decide) (by kernel_rfl) (by intro j b oj dj h1 h2 h3; cases h1; cases h2; cases h3; decide) ?_
    refine Al_st (St_gd [35, 37] rfl rfl rfl rfl ⟨⟨_, rfl⟩, ⟨_, rfl⟩, trivial⟩ (fun hg38 => Pu_str rfl rfl rfl rfl)) rfl (by decide) (by kernel_rfl) (by intro j b oj dj h1 h2 h3; cases h1; cases h2; cases h3; decide) ?_
    refine Al_pu (Pu_and rfl rfl rfl rfl) rfl rfl (by decide) (by kernel_rfl) ?_
    refine Al_pu (Pu_move (.inr rfl) (by conv => lhs; whnf)) rfl rfl (by decide) (by kernel_rfl) ?_
    refine Al_nil ?_
    refine Aw_ret ?_
    exact Sub.bool (by simp) -- ret 0
end Go.Proofs.Ytocgnmklgklfnaa
