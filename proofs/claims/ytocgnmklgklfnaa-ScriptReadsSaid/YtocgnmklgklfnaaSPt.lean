/- ScriptParts: the walk (awake's answer is a hypothesis here). -/
import Derived.Test.YtocgnmklgklfnaaSWr
set_option linter.unusedSimpArgs false
set_option linter.unusedVariables false
namespace Go.Proofs.Ytocgnmklgklfnaa
open Go.RowKit A R
namespace S
def pick (l : List SOp) : List SOp := (l.map few).filter check
theorem pick_snoc {l : List SOp} {i : Nat} (hi : i < l.length) : pick (l.take (i + 1)) = pick (l.take i) ++ (if check (few l[i]) then [few l[i]] else []) := by
  unfold pick
  rw [List.take_succ_eq_append_getElem hi, List.map_append, List.filter_append]
  congr 1
  simp only [List.map_cons, List.map_nil, List.filter]
  split <;> simp_all
theorem pick_len (l : List SOp) : (pick l).length ≤ l.length := by
  unfold pick
  exact Nat.le_trans (List.length_filter_le _ _) (by simp)
theorem pick_fits (l : List SOp) : ∀ o ∈ pick l, fits o := fun o ho => by
  obtain ⟨x, _, rfl⟩ := List.mem_map.1 (List.mem_filter.1 ho).1
  exact few_fits x
theorem pick_check (l : List SOp) : ∀ o ∈ pick l, check o = true := fun o ho => (List.mem_filter.1 ho).2
theorem bytes_small {l : List SOp} (hc : ∀ o ∈ l, check o = true) (hl : l.length < 128) : bytes l = UInt8.ofNat l.length :: l.flatMap one := by
  unfold bytes
  rw [if_pos (List.all_eq_true.2 hc), V.num_small hl]; rfl
theorem tail_bytes (x : UInt8) (t : List UInt8) : (V.ba (x :: t)).extract 1 (V.ba (x :: t)).size = V.ba t := by
  apply ByteArray.ext
  simp [ByteArray.data_extract, V.ba, ByteArray.size]
end S
set_option maxRecDepth 100000 in
theorem sparts_law (hawake : ACall Try.prog 8 [] (bv true)) (l m : List SOp) : ACall Try.prog 6 [.sl 12 (l.map SOp.row), .sl 12 (m.map SOp.row)] (bv true) := by
  refine ACall_enter (fun _ _ => by kernel_rfl) Try.func6 rfl Try.ntmps6 Try.results6 (Nat.le_of_ble_eq_true rfl) (fun hok M0 w0 hnl => ?_)
  have hlen := (hok _ (List.mem_cons_self ..)).len
  have hlen2 := (hok (.sl 12 (m.map SOp.row)) (by simp)).len
  rw [List.length_map] at hlen hlen2
  refine Aw_seq ?_
  refine Aw_region ?_
  refine Al_pu (Pu_move (.inr rfl) (by conv => lhs; whnf)) rfl rfl (by decide) (by kernel_rfl) ?_
  refine Al_nil ?_
  refine Aw_seq ?_
  refine Aw_region ?_
  refine Al_pu (Pu_call (hawake) rfl trivial) rfl rfl (by decide) (by kernel_rfl) ?_
  refine Al_pu (Pu_move (.inr rfl) (by conv => lhs; whnf)) rfl rfl (by decide) (by kernel_rfl) ?_
  refine Al_nil ?_
  refine Aw_seq ?_
  refine Aw_region ?_
  refine Al_pu (Pu_move (.inr rfl) (by conv => lhs; whnf)) rfl rfl (by decide) (by kernel_rfl) ?_
  refine Al_nil ?_
  refine Aw_seq ?_
  refine Aw_seq ?_
  refine Aw_region ?_
  refine Al_pu (Pu_move (.inr rfl) (by conv => lhs; whnf)) rfl rfl (by decide) (by kernel_rfl) ?_
  refine Al_nil ?_
  refine Aw_block ?_
  refine Aw_own (j := 6) (k := 6) (T := 30) (n := 12) rfl (fun g0 => ?_)
  refine Aw_loopk (ι := Nat × Nat) [0, 1, 5] [] (fun (i, g) => [(7, .d (iv i)), (6, .ow 6 g)]) (fun (i, g) => [(6, g, .arr 30 12 ((S.pick (l.take i)).map SOp.row))]) (fun (i, g) => i ≤ l.length ∧ i ≤ 3) (fun (i, g) => l.length - i) ((0, g0)) (⟨Nat.zero_le _, by omega⟩) ⟨Sub.rfl, Sub.rfl, trivial⟩ ⟨rfl, trivial⟩ ?_
  rintro ⟨i, g⟩ ⟨hk0, hi3⟩
  refine Aw_seq ?_
  refine Aw_seq ?_
  refine Aw_region ?_
  refine Al_pu (Pu_move (.inl rfl) (by conv => lhs; whnf)) rfl rfl (by decide) (by kernel_rfl) ?_
  refine Al_pu (Pu_move (.inl rfl) (by conv => lhs; whnf)) rfl rfl (by decide) (by kernel_rfl) ?_
  refine Al_pu (Pu_len rfl Try.underlying22 rfl (by first | exact List.length_map .. | exact rfl)) rfl rfl (by decide) (by kernel_rfl) ?_
  refine Al_pu (Pu_cmp rfl rfl rfl rfl) rfl rfl (by decide) (by kernel_rfl) ?_
  refine Al_pu (Pu_move (.inl rfl) (by conv => lhs; whnf)) rfl rfl (by decide) (by kernel_rfl) ?_
  refine Al_st (St_gd [] rfl rfl rfl rfl trivial (fun hg22 => by exact Pu_move (.inl rfl) (by conv => lhs; whnf))) rfl (by decide) (by kernel_rfl) (by intro j b oj dj h1 h2 h3; cases h1; cases h2; cases h3; decide) ?_
  refine Al_st (St_gd [22] rfl rfl rfl rfl ⟨⟨_, rfl⟩, trivial⟩ (fun hg23 => Pu_cmp rfl rfl rfl rfl)) rfl (by decide) (by kernel_rfl) (by intro j b oj dj h1 h2 h3; cases h1; cases h2; cases h3; decide) ?_
  refine Al_pu (Pu_and rfl rfl rfl rfl) rfl rfl (by decide) (by kernel_rfl) ?_
  refine Al_nil ?_
  refine Aw_cond rfl (fun h24 => ?_) (fun h24 => ?_)
  · (try simp only [decide_eq_true_eq, decide_eq_false_iff_not, Bool.and_eq_true, Bool.or_eq_true, Bool.and_eq_false_iff, Bool.or_eq_false_iff, Bool.not_eq_true', Bool.not_eq_false', beq_iff_eq, Bool.not_eq_eq_eq_not, Bool.not_true, Bool.not_false, List.length_map, Bool.and_true, Bool.and_false, Bool.false_and, Bool.true_and, Bool.or_false, Bool.false_or] at h24)
    obtain ⟨h1, h2⟩ := h24
    have hi : i < l.length := by omega
    have hpl := S.pick_len (l.take i)
    rw [List.length_take] at hpl
    have hps := S.pick_snoc hi
    refine Aw_skip ?_
    -- join 0: live [0, 1, 5, 6, 7], turned [6]
    refine Aw_seq ?_
    refine Aw_block ?_
    refine Aw_seq ?_
    refine Aw_region ?_
    refine Al_pu (Pu_move (.inl rfl) (by conv => lhs; whnf)) rfl rfl (by decide) (by kernel_rfl) ?_
    refine Al_pu (Pu_move (.inl rfl) (by conv => lhs; whnf)) rfl rfl (by decide) (by kernel_rfl) ?_
    refine Al_pu (Pu_index rfl Try.underlying22 Try.sizeOf30 rfl rfl (rfl) (mapget hi)) rfl rfl (by decide) (by kernel_rfl) ?_
    refine Al_pu (Pu_loadN rfl Try.isAgg30 Try.sizeOf30 rfl (Nat.le_of_ble_eq_true rfl)) rfl rfl (by decide) (by kernel_rfl) ?_
    refine Al_pu (Pu_call (sfew_a l[i]) rfl ⟨Sub.rfl, trivial⟩) rfl rfl (by decide) (by kernel_rfl) ?_
    refine Al_alloc rfl rfl rfl (by decide) Try.zeroValue30 rfl (by kernel_rfl) (fun g8 => ?_)
    refine Al_storeN rfl rfl rfl (by kernel_rfl) Try.isAgg30 Try.sizeOf30 rfl rfl rfl rfl (Nat.le_of_ble_eq_true rfl) ?_
    refine Al_nil ?_
    refine Aw_seq ?_
    refine Aw_region ?_
    refine Al_pu (Pu_loadbN (r := [_, _, _, _, _, _, _, _, _, _, _, _]) rfl Try.isAgg30 Try.sizeOf30 rfl rfl rfl rfl) rfl rfl (by decide) (by kernel_rfl) ?_
    refine Al_pu (Pu_call (scheck_a (S.few l[i]) (S.few_fits _)) rfl ⟨Sub.rfl, trivial⟩) rfl rfl (by decide) (by kernel_rfl) ?_
    refine Al_nil ?_
    refine Aw_cond rfl (fun h33 => ?_) (fun h33 => ?_)
    · (try simp only [decide_eq_true_eq, decide_eq_false_iff_not, Bool.and_eq_true, Bool.or_eq_true, Bool.and_eq_false_iff, Bool.or_eq_false_iff, Bool.not_eq_true', Bool.not_eq_false', beq_iff_eq, Bool.not_eq_eq_eq_not, Bool.not_true, Bool.not_false, List.length_map, Bool.and_true, Bool.and_false, Bool.false_and, Bool.true_and, Bool.or_false, Bool.false_or] at h33)
      refine Aw_region ?_
      refine Al_pu (Pu_move (.inl rfl) (by conv => lhs; whnf)) rfl rfl (by decide) (by kernel_rfl) ?_
      refine Al_pu (Pu_loadbN (r := [_, _, _, _, _, _, _, _, _, _, _, _]) rfl Try.isAgg30 Try.sizeOf30 rfl rfl rfl rfl) rfl rfl (by decide) (by kernel_rfl) ?_
      refine Al_pu (Pu_slice1 rfl Try.underlying22 Try.sizeOf30 Try.zeroValue30 rfl (by decide) (by decide) (by kernel_rfl) rfl rfl rfl) rfl rfl (by decide) (by kernel_rfl) ?_
      refine Al_append rfl rfl rfl (by decide) (by kernel_rfl) elem22 (by decide) Try.sizeOf30 rfl rfl rfl (by simp; omega) (by decide) (fun g37 => ?_)
      refine Al_pu (Pu_move (.inr rfl) (by conv => lhs; whnf)) rfl rfl (by decide) (by kernel_rfl) ?_
      refine Al_nil ?_
      refine Aw_region ?_
      refine Al_pu (Pu_move (.inl rfl) (by conv => lhs; whnf)) rfl rfl (by decide) (by kernel_rfl) ?_
      refine Al_pu (Pu_add rfl rfl rfl (fun h1 h2 => by simp only [A.inI, A.maxI] at *; omega)) rfl rfl (by decide) (by kernel_rfl) ?_
      refine Al_pu (Pu_move (.inr rfl) (by conv => lhs; whnf)) rfl rfl (by decide) (by kernel_rfl) ?_
      refine Al_nil ?_
      exact ⟨(i + 1, g37), ⟨by omega, by omega⟩, by simp only []; omega, Le.ov ⟨Sub.num (by omega), Sub.rfl, trivial⟩ ⟨Sub.rfl, Sub.rfl, Sub.rfl, trivial⟩ ⟨obeq (by rw [hps, h33, if_pos rfl, List.map_append]; rfl), trivial⟩ trivial⟩ -- loop 0 next.0
    · (try simp only [decide_eq_true_eq, decide_eq_false_iff_not, Bool.and_eq_true, Bool.or_eq_true, Bool.and_eq_false_iff, Bool.or_eq_false_iff, Bool.not_eq_true', Bool.not_eq_false', beq_iff_eq, Bool.not_eq_eq_eq_not, Bool.not_true, Bool.not_false, List.length_map, Bool.and_true, Bool.and_false, Bool.false_and, Bool.true_and, Bool.or_false, Bool.false_or] at h33)
      refine Aw_skip ?_
      refine Aw_region ?_
      refine Al_pu (Pu_move (.inl rfl) (by conv => lhs; whnf)) rfl rfl (by decide) (by kernel_rfl) ?_
      refine Al_pu (Pu_add rfl rfl rfl (fun h1 h2 => by simp only [A.inI, A.maxI] at *; omega)) rfl rfl (by decide) (by kernel_rfl) ?_
      refine Al_pu (Pu_move (.inr rfl) (by conv => lhs; whnf)) rfl rfl (by decide) (by kernel_rfl) ?_
      refine Al_nil ?_
      exact ⟨(i + 1, g), ⟨by omega, by omega⟩, by simp only []; omega, Le.ov ⟨Sub.num (by omega), Sub.rfl, trivial⟩ ⟨Sub.rfl, Sub.rfl, Sub.rfl, trivial⟩ ⟨obeq (by rw [hps, h33]; simp), trivial⟩ trivial⟩ -- loop 0 next.1
  · (try simp only [decide_eq_true_eq, decide_eq_false_iff_not, Bool.and_eq_true, Bool.or_eq_true, Bool.and_eq_false_iff, Bool.or_eq_false_iff, Bool.not_eq_true', Bool.not_eq_false', beq_iff_eq, Bool.not_eq_eq_eq_not, Bool.not_true, Bool.not_false, List.length_map, Bool.and_true, Bool.and_false, Bool.false_and, Bool.true_and, Bool.or_false, Bool.false_or] at h24)
    have hal := S.pick_len (l.take i)
    rw [List.length_take] at hal
    have haf := S.pick_fits (l.take i)
    have hac := S.pick_check (l.take i)
    refine Aw_exit ?_
    refine Aw_seq ?_
    refine Aw_frz hnl (k := 6) [6] rfl ⟨rfl, trivial⟩ ?_
    refine Aw_region ?_
    refine Al_pu (Pu_move (.inr rfl) (by conv => lhs; whnf)) rfl rfl (by decide) (by kernel_rfl) ?_
    refine Al_nil ?_
    refine Aw_seq ?_
    refine Aw_seq ?_
    refine Aw_region ?_
    refine Al_pu (Pu_move (.inr rfl) (by conv => lhs; whnf)) rfl rfl (by decide) (by kernel_rfl) ?_
    refine Al_nil ?_
    refine Aw_block ?_
    refine Aw_own (j := 9) (k := 9) (T := 30) (n := 12) rfl (fun g9 => ?_)
    refine Aw_loopk (ι := Nat × Nat) [1, 5, 6] [] (fun (j, g) => [(10, .d (iv j)), (9, .ow 9 g)]) (fun (j, g) => [(9, g, .arr 30 12 ((S.pick (m.take j)).map SOp.row))]) (fun (j, g) => j ≤ m.length ∧ j ≤ 3) (fun (j, g) => m.length - j) ((0, g9)) (⟨Nat.zero_le _, by omega⟩) ⟨Sub.rfl, Sub.rfl, trivial⟩ ⟨rfl, trivial⟩ ?_
    rintro ⟨j, g⟩ ⟨hk1, hj3⟩
    refine Aw_seq ?_
    refine Aw_seq ?_
    refine Aw_region ?_
    refine Al_pu (Pu_move (.inl rfl) (by conv => lhs; whnf)) rfl rfl (by decide) (by kernel_rfl) ?_
    refine Al_pu (Pu_move (.inl rfl) (by conv => lhs; whnf)) rfl rfl (by decide) (by kernel_rfl) ?_
    refine Al_pu (Pu_len rfl Try.underlying22 rfl (by first | exact List.length_map .. | exact rfl)) rfl rfl (by decide) (by kernel_rfl) ?_
    refine Al_pu (Pu_cmp rfl rfl rfl rfl) rfl rfl (by decide) (by kernel_rfl) ?_
    refine Al_pu (Pu_move (.inl rfl) (by conv => lhs; whnf)) rfl rfl (by decide) (by kernel_rfl) ?_
    refine Al_st (St_gd [] rfl rfl rfl rfl trivial (fun hg43 => by exact Pu_move (.inl rfl) (by conv => lhs; whnf))) rfl (by decide) (by kernel_rfl) (by intro j b oj dj h1 h2 h3; cases h1; cases h2; cases h3; decide) ?_
    refine Al_st (St_gd [43] rfl rfl rfl rfl ⟨⟨_, rfl⟩, trivial⟩ (fun hg44 => Pu_cmp rfl rfl rfl rfl)) rfl (by decide) (by kernel_rfl) (by intro j b oj dj h1 h2 h3; cases h1; cases h2; cases h3; decide) ?_
    refine Al_pu (Pu_and rfl rfl rfl rfl) rfl rfl (by decide) (by kernel_rfl) ?_
    refine Al_nil ?_
    refine Aw_cond rfl (fun h45 => ?_) (fun h45 => ?_)
    · (try simp only [decide_eq_true_eq, decide_eq_false_iff_not, Bool.and_eq_true, Bool.or_eq_true, Bool.and_eq_false_iff, Bool.or_eq_false_iff, Bool.not_eq_true', Bool.not_eq_false', beq_iff_eq, Bool.not_eq_eq_eq_not, Bool.not_true, Bool.not_false, List.length_map, Bool.and_true, Bool.and_false, Bool.false_and, Bool.true_and, Bool.or_false, Bool.false_or] at h45)
      obtain ⟨h3, h4⟩ := h45
      have hj : j < m.length := by omega
      have hpl := S.pick_len (m.take j)
      rw [List.length_take] at hpl
      have hps := S.pick_snoc hj
      refine Aw_skip ?_
      -- join 1: live [1, 5, 6, 9, 10], turned [9]
      refine Aw_seq ?_
      refine Aw_block ?_
      refine Aw_seq ?_
      refine Aw_region ?_
      refine Al_pu (Pu_move (.inl rfl) (by conv => lhs; whnf)) rfl rfl (by decide) (by kernel_rfl) ?_
      refine Al_pu (Pu_move (.inl rfl) (by conv => lhs; whnf)) rfl rfl (by decide) (by kernel_rfl) ?_
      refine Al_pu (Pu_index rfl Try.underlying22 Try.sizeOf30 rfl rfl (rfl) (mapget hj)) rfl rfl (by decide) (by kernel_rfl) ?_
      refine Al_pu (Pu_loadN rfl Try.isAgg30 Try.sizeOf30 rfl (Nat.le_of_ble_eq_true rfl)) rfl rfl (by decide) (by kernel_rfl) ?_
      refine Al_pu (Pu_call (sfew_a m[j]) rfl ⟨Sub.rfl, trivial⟩) rfl rfl (by decide) (by kernel_rfl) ?_
      refine Al_alloc rfl rfl rfl (by decide) Try.zeroValue30 rfl (by kernel_rfl) (fun g11 => ?_)
      refine Al_storeN rfl rfl rfl (by kernel_rfl) Try.isAgg30 Try.sizeOf30 rfl rfl rfl rfl (Nat.le_of_ble_eq_true rfl) ?_
      refine Al_nil ?_
      refine Aw_seq ?_
      refine Aw_region ?_
      refine Al_pu (Pu_loadbN (r := [_, _, _, _, _, _, _, _, _, _, _, _]) rfl Try.isAgg30 Try.sizeOf30 rfl rfl rfl rfl) rfl rfl (by decide) (by kernel_rfl) ?_
      refine Al_pu (Pu_call (scheck_a (S.few m[j]) (S.few_fits _)) rfl ⟨Sub.rfl, trivial⟩) rfl rfl (by decide) (by kernel_rfl) ?_
      refine Al_nil ?_
      refine Aw_cond rfl (fun h54 => ?_) (fun h54 => ?_)
      · (try simp only [decide_eq_true_eq, decide_eq_false_iff_not, Bool.and_eq_true, Bool.or_eq_true, Bool.and_eq_false_iff, Bool.or_eq_false_iff, Bool.not_eq_true', Bool.not_eq_false', beq_iff_eq, Bool.not_eq_eq_eq_not, Bool.not_true, Bool.not_false, List.length_map, Bool.and_true, Bool.and_false, Bool.false_and, Bool.true_and, Bool.or_false, Bool.false_or] at h54)
        refine Aw_region ?_
        refine Al_pu (Pu_move (.inl rfl) (by conv => lhs; whnf)) rfl rfl (by decide) (by kernel_rfl) ?_
        refine Al_pu (Pu_loadbN (r := [_, _, _, _, _, _, _, _, _, _, _, _]) rfl Try.isAgg30 Try.sizeOf30 rfl rfl rfl rfl) rfl rfl (by decide) (by kernel_rfl) ?_
        refine Al_pu (Pu_slice1 rfl Try.underlying22 Try.sizeOf30 Try.zeroValue30 rfl (by decide) (by decide) (by kernel_rfl) rfl rfl rfl) rfl rfl (by decide) (by kernel_rfl) ?_
        refine Al_append rfl rfl rfl (by decide) (by kernel_rfl) elem22 (by decide) Try.sizeOf30 rfl rfl rfl (by simp; omega) (by decide) (fun g58 => ?_)
        refine Al_pu (Pu_move (.inr rfl) (by conv => lhs; whnf)) rfl rfl (by decide) (by kernel_rfl) ?_
        refine Al_nil ?_
        refine Aw_region ?_
        refine Al_pu (Pu_move (.inl rfl) (by conv => lhs; whnf)) rfl rfl (by decide) (by kernel_rfl) ?_
        refine Al_pu (Pu_add rfl rfl rfl (fun h1 h2 => by simp only [A.inI, A.maxI] at *; omega)) rfl rfl (by decide) (by kernel_rfl) ?_
        refine Al_pu (Pu_move (.inr rfl) (by conv => lhs; whnf)) rfl rfl (by decide) (by kernel_rfl) ?_
        refine Al_nil ?_
        exact ⟨(j + 1, g58), ⟨by omega, by omega⟩, by simp only []; omega, Le.ov ⟨Sub.num (by omega), Sub.rfl, trivial⟩ ⟨Sub.rfl, Sub.rfl, Sub.rfl, trivial⟩ ⟨obeq (by rw [hps, h54, if_pos rfl, List.map_append]; rfl), trivial⟩ trivial⟩ -- loop 1 next.0
      · (try simp only [decide_eq_true_eq, decide_eq_false_iff_not, Bool.and_eq_true, Bool.or_eq_true, Bool.and_eq_false_iff, Bool.or_eq_false_iff, Bool.not_eq_true', Bool.not_eq_false', beq_iff_eq, Bool.not_eq_eq_eq_not, Bool.not_true, Bool.not_false, List.length_map, Bool.and_true, Bool.and_false, Bool.false_and, Bool.true_and, Bool.or_false, Bool.false_or] at h54)
        refine Aw_skip ?_
        refine Aw_region ?_
        refine Al_pu (Pu_move (.inl rfl) (by conv => lhs; whnf)) rfl rfl (by decide) (by kernel_rfl) ?_
        refine Al_pu (Pu_add rfl rfl rfl (fun h1 h2 => by simp only [A.inI, A.maxI] at *; omega)) rfl rfl (by decide) (by kernel_rfl) ?_
        refine Al_pu (Pu_move (.inr rfl) (by conv => lhs; whnf)) rfl rfl (by decide) (by kernel_rfl) ?_
        refine Al_nil ?_
        exact ⟨(j + 1, g), ⟨by omega, by omega⟩, by simp only []; omega, Le.ov ⟨Sub.num (by omega), Sub.rfl, trivial⟩ ⟨Sub.rfl, Sub.rfl, Sub.rfl, trivial⟩ ⟨obeq (by rw [hps, h54]; simp), trivial⟩ trivial⟩ -- loop 1 next.1
    · (try simp only [decide_eq_true_eq, decide_eq_false_iff_not, Bool.and_eq_true, Bool.or_eq_true, Bool.and_eq_false_iff, Bool.or_eq_false_iff, Bool.not_eq_true', Bool.not_eq_false', beq_iff_eq, Bool.not_eq_eq_eq_not, Bool.not_true, Bool.not_false, List.length_map, Bool.and_true, Bool.and_false, Bool.false_and, Bool.true_and, Bool.or_false, Bool.false_or] at h45)
      have hbl := S.pick_len (m.take j)
      rw [List.length_take] at hbl
      have hbf := S.pick_fits (m.take j)
      have hbc := S.pick_check (m.take j)
      refine Aw_exit ?_
      refine Aw_seq ?_
      refine Aw_frz hnl (k := 9) [9] rfl ⟨rfl, trivial⟩ ?_
      refine Aw_region ?_
      refine Al_pu (Pu_move (.inr rfl) (by conv => lhs; whnf)) rfl rfl (by decide) (by kernel_rfl) ?_
      refine Al_nil ?_
      refine Aw_seq ?_
      refine Aw_own (j := 12) (k := 12) (T := 30) (n := 12) rfl (fun g12 => ?_)
      refine Aw_region ?_
      refine Al_pu (Pu_move (.inl rfl) (by conv => lhs; whnf)) rfl rfl (by decide) (by kernel_rfl) ?_
      refine Al_pu (Pu_move (.inl rfl) (by conv => lhs; whnf)) rfl rfl (by decide) (by kernel_rfl) ?_
      refine Al_append rfl rfl rfl (by decide) (by kernel_rfl) elem22 (by decide) Try.sizeOf30 rfl rfl rfl (by simp; omega) (by decide) (fun g61 => ?_)
      refine Al_pu (Pu_move (.inr rfl) (by conv => lhs; whnf)) rfl rfl (by decide) (by kernel_rfl) ?_
      refine Al_nil ?_
      refine Aw_seq ?_
      refine Aw_region ?_
      refine Al_pu (Pu_move (.inl rfl) (by conv => lhs; whnf)) rfl rfl (by decide) (by kernel_rfl) ?_
      refine Al_pu (Pu_move (.inl rfl) (by conv => lhs; whnf)) rfl rfl (by decide) (by kernel_rfl) ?_
      refine Al_append rfl rfl rfl (by decide) (by kernel_rfl) elem22 (by decide) Try.sizeOf30 rfl rfl rfl (by simp; omega) (by decide) (fun g64 => ?_)
      refine Al_pu (Pu_move (.inr rfl) (by conv => lhs; whnf)) rfl rfl (by decide) (by kernel_rfl) ?_
      refine Al_nil ?_
      refine Aw_seq ?_
      have hab : [] ++ (S.pick (l.take i)).map SOp.row ++ (S.pick (m.take j)).map SOp.row = (S.pick (l.take i) ++ S.pick (m.take j)).map SOp.row := by simp
      have hcl : (S.pick (l.take i) ++ S.pick (m.take j)).length ≤ 6 := by rw [List.length_append]; omega
      have hcf : ∀ o ∈ S.pick (l.take i) ++ S.pick (m.take j), S.fits o := fun o ho => by
        rcases List.mem_append.1 ho with h | h
        · exact haf o h
        · exact hbf o h
      have hcc : ∀ o ∈ S.pick (l.take i) ++ S.pick (m.take j), S.check o = true := fun o ho => by
        rcases List.mem_append.1 ho with h | h
        · exact hac o h
        · exact hbc o h
      refine Aw_frz hnl (k := 12) [12] rfl ⟨rfl, trivial⟩ ?_
      refine Aw_region ?_
      refine Al_pu (Pu_move (.inl rfl) (by conv => lhs; whnf)) rfl rfl (by decide) (by kernel_rfl) ?_
      refine Al_pu (Pu_call (sbytes_a (S.pick (l.take i)) (by omega) haf) rfl ⟨Sub.rfl, trivial⟩) rfl rfl (by decide) (by kernel_rfl) ?_
      refine Al_pu (Pu_move (.inr rfl) (by conv => lhs; whnf)) rfl rfl (by decide) (by kernel_rfl) ?_
      refine Al_nil ?_
      refine Aw_seq ?_
      refine Aw_region ?_
      refine Al_pu (Pu_move (.inl rfl) (by conv => lhs; whnf)) rfl rfl (by decide) (by kernel_rfl) ?_
      refine Al_pu (Pu_call (sbytes_a (S.pick (m.take j)) (by omega) hbf) rfl ⟨Sub.rfl, trivial⟩) rfl rfl (by decide) (by kernel_rfl) ?_
      refine Al_pu (Pu_move (.inr rfl) (by conv => lhs; whnf)) rfl rfl (by decide) (by kernel_rfl) ?_
      refine Al_nil ?_
      refine Aw_seq ?_
      refine Aw_region ?_
      refine Al_pu (Pu_move (.inl rfl) (by conv => lhs; whnf)) rfl rfl (by decide) (by kernel_rfl) ?_
      refine Al_pu (Pu_call (sbytes_a (S.pick (l.take i) ++ S.pick (m.take j)) (by omega) hcf) rfl ⟨Sub.d (by rw [← hab]), trivial⟩) rfl rfl (by decide) (by kernel_rfl) ?_
      refine Al_pu (Pu_move (.inr rfl) (by conv => lhs; whnf)) rfl rfl (by decide) (by kernel_rfl) ?_
      refine Al_nil ?_
      refine Aw_seq ?_
      refine Aw_seq ?_
      have eA := S.bytes_small hac (by omega)
      have eB := S.bytes_small hbc (by omega)
      have eC := S.bytes_small hcc (by omega)
      have zA : (V.ba (S.bytes (S.pick (l.take i)))).size = 1 + ((S.pick (l.take i)).flatMap S.one).length := by rw [A.ba_sz, eA, List.length_cons]; omega
      have zB : (V.ba (S.bytes (S.pick (m.take j)))).size = 1 + ((S.pick (m.take j)).flatMap S.one).length := by rw [A.ba_sz, eB, List.length_cons]; omega
      have zC : (V.ba (S.bytes (S.pick (l.take i) ++ S.pick (m.take j)))).size = 1 + ((S.pick (l.take i) ++ S.pick (m.take j)).flatMap S.one).length := by rw [A.ba_sz, eC, List.length_cons]; omega
      have yA := S.flat_le S.one 20000 (S.pick (l.take i)) (fun o ho => S.one_le (hac o ho) (haf o ho).1)
      have yB := S.flat_le S.one 20000 (S.pick (m.take j)) (fun o ho => S.one_le (hbc o ho) (hbf o ho).1)
      have hB0 : 0 < (V.ba (S.bytes (S.pick (l.take i) ++ S.pick (m.take j)))).size := by omega
      have h12 : ([] ++ (S.pick (l.take i)).map SOp.row ++ (S.pick (m.take j)).map SOp.row).length = (S.pick (l.take i)).length + (S.pick (m.take j)).length := by simp
      refine Aw_region ?_
      refine Al_pu (Pu_move (.inl rfl) (by conv => lhs; whnf)) rfl rfl (by decide) (by kernel_rfl) ?_
      refine Al_pu (Pu_lenS rfl Try.underlying9 rfl) rfl rfl (by decide) (by kernel_rfl) ?_
      refine Al_pu (Pu_cmp rfl rfl rfl rfl) rfl rfl (by decide) (by kernel_rfl) ?_
      refine Al_pu (Pu_move (.inl rfl) (by conv => lhs; whnf)) rfl rfl (by decide) (by kernel_rfl) ?_
      refine Al_st (St_gd [] rfl rfl rfl rfl trivial (fun hg75 => by exact Pu_move (.inl rfl) (by conv => lhs; whnf))) rfl (by decide) (by kernel_rfl) (by intro j b oj dj h1 h2 h3; cases h1; cases h2; cases h3; decide) ?_
      refine Al_st (St_gd [75] rfl rfl rfl rfl ⟨⟨_, rfl⟩, trivial⟩ (fun hg76 => Pu_lenS rfl Try.underlying9 rfl)) rfl (by decide) (by kernel_rfl) (by intro j b oj dj h1 h2 h3; cases h1; cases h2; cases h3; decide) ?_
      refine Al_st (St_gd [76] rfl rfl rfl rfl ⟨⟨_, rfl⟩, trivial⟩ (fun hg77 => Pu_cmp rfl rfl rfl rfl)) rfl (by decide) (by kernel_rfl) (by intro j b oj dj h1 h2 h3; cases h1; cases h2; cases h3; decide) ?_
      refine Al_pu (Pu_or rfl rfl rfl rfl) rfl rfl (by decide) (by kernel_rfl) ?_
      refine Al_pu (Pu_move (.inl rfl) (by conv => lhs; whnf)) rfl rfl (by decide) (by kernel_rfl) ?_
      refine Al_st (St_gd [] rfl rfl rfl rfl trivial (fun hg80 => by exact Pu_move (.inl rfl) (by conv => lhs; whnf))) rfl (by decide) (by kernel_rfl) (by intro j b oj dj h1 h2 h3; cases h1; cases h2; cases h3; decide) ?_
      refine Al_st (St_gd [80] rfl rfl rfl rfl ⟨⟨_, rfl⟩, trivial⟩ (fun hg81 => Pu_lenS rfl Try.underlying9 rfl)) rfl (by decide) (by kernel_rfl) (by intro j b oj dj h1 h2 h3; cases h1; cases h2; cases h3; decide) ?_
      refine Al_st (St_gd [81] rfl rfl rfl rfl ⟨⟨_, rfl⟩, trivial⟩ (fun hg82 => Pu_cmp rfl rfl rfl rfl)) rfl (by decide) (by kernel_rfl) (by intro j b oj dj h1 h2 h3; cases h1; cases h2; cases h3; decide) ?_
      refine Al_pu (Pu_or rfl rfl rfl rfl) rfl rfl (by decide) (by kernel_rfl) ?_
      refine Al_nil ?_
      refine Aw_cond rfl (fun h83 => ?_) (fun h83 => ?_)
      · (try simp only [decide_eq_true_eq, decide_eq_false_iff_not, Bool.and_eq_true, Bool.or_eq_true, Bool.and_eq_false_iff, Bool.or_eq_false_iff, Bool.not_eq_true', Bool.not_eq_false', beq_iff_eq, Bool.not_eq_eq_eq_not, Bool.not_true, Bool.not_false, List.length_map, Bool.and_true, Bool.and_false, Bool.false_and, Bool.true_and, Bool.or_false, Bool.false_or] at h83)
        exfalso
        omega
      · (try simp only [decide_eq_true_eq, decide_eq_false_iff_not, Bool.and_eq_true, Bool.or_eq_true, Bool.and_eq_false_iff, Bool.or_eq_false_iff, Bool.not_eq_true', Bool.not_eq_false', beq_iff_eq, Bool.not_eq_eq_eq_not, Bool.not_true, Bool.not_false, List.length_map, Bool.and_true, Bool.and_false, Bool.false_and, Bool.true_and, Bool.or_false, Bool.false_or] at h83)
        refine Aw_skip ?_
        refine Aw_seq ?_
        refine Aw_draw 19 (by kernel_rfl) (by kernel_rfl) ?_
        refine Dr_pu (Pu_move (.inl rfl) (by conv => lhs; whnf)) rfl rfl ?_
        refine Dr_pu (Pu_move (.inl rfl) (by conv => lhs; whnf)) rfl rfl ?_
        refine Dr_st (St_gd [] rfl rfl rfl rfl trivial (fun hg86 => by exact Pu_move (.inl rfl) (by conv => lhs; whnf))) rfl ?_
        refine Dr_st (St_gd [86] rfl rfl rfl rfl ⟨⟨_, rfl⟩, trivial⟩ (fun hg87 => by exact Pu_subS (1) ((V.ba (S.bytes (S.pick (l.take i) ++ S.pick (m.take j)))).size) rfl Try.underlying9 rfl ⟨_, rfl, by omega⟩ rfl ⟨by first | omega | (simp; omega), by first | omega | (simp; omega)⟩)) rfl ?_
        refine Dr_st (St_gd [] rfl rfl rfl rfl trivial (fun hg88 => by exact Pu_move (.inl rfl) (by conv => lhs; whnf))) rfl ?_
        refine Dr_st (St_gd [88] rfl rfl rfl rfl ⟨⟨_, rfl⟩, trivial⟩ (fun hg89 => by exact Pu_subS (1) ((V.ba (S.bytes (S.pick (l.take i)))).size) rfl Try.underlying9 rfl ⟨_, rfl, by omega⟩ rfl ⟨by first | omega | (simp; omega), by first | omega | (simp; omega)⟩)) rfl ?_
        refine Dr_st (St_gd [] rfl rfl rfl rfl trivial (fun hg90 => by exact Pu_move (.inl rfl) (by conv => lhs; whnf))) rfl ?_
        refine Dr_st (St_gd [90] rfl rfl rfl rfl ⟨⟨_, rfl⟩, trivial⟩ (fun hg91 => by exact Pu_subS (1) ((V.ba (S.bytes (S.pick (m.take j)))).size) rfl Try.underlying9 rfl ⟨_, rfl, by omega⟩ rfl ⟨by first | omega | (simp; omega), by first | omega | (simp; omega)⟩)) rfl ?_
        refine Dr_st (St_gd [89, 91] rfl rfl rfl rfl ⟨⟨_, rfl⟩, ⟨_, rfl⟩, trivial⟩ (fun hg92 => by exact Pu_cat rfl rfl rfl (by simp only [ByteArray.size_extract, A.maxI]; omega))) rfl ?_
        refine Dr_st (St_gd [87, 92] rfl rfl rfl rfl ⟨⟨_, rfl⟩, ⟨_, rfl⟩, trivial⟩ (fun hg93 => Pu_str rfl rfl rfl rfl)) rfl ?_
        refine Dr_pu (Pu_and rfl rfl rfl rfl) rfl rfl ?_
        refine Dr_pu (Pu_move (.inl rfl) (by conv => lhs; whnf)) rfl rfl ?_
        refine Dr_st (St_gd [] rfl rfl rfl rfl trivial (fun hg96 => by exact Pu_move (.inl rfl) (by conv => lhs; whnf))) rfl ?_
        refine Dr_st (St_gd [96] rfl rfl rfl rfl ⟨⟨_, rfl⟩, trivial⟩ (fun hg97 => Pu_indexS rfl Try.underlying9 rfl rfl (show ((0 : Int)) = ((0 : Nat) : Int) from rfl) (getS hB0))) rfl ?_
        refine Dr_st (St_gd [] rfl rfl rfl rfl trivial (fun hg98 => by exact Pu_move (.inl rfl) (by conv => lhs; whnf))) rfl ?_
        refine Dr_st (St_gd [98] rfl rfl rfl rfl ⟨⟨_, rfl⟩, trivial⟩ (fun hg99 => Pu_len rfl Try.underlying22 rfl h12)) rfl ?_
        refine Dr_st (St_gd [99] rfl rfl rfl rfl ⟨⟨_, rfl⟩, trivial⟩ (fun hg100 => by exact Pu_conv rfl Try.underlying3 Try.underlying5 rfl (fun hv => ⟨IntWalk.u8_in _ ⟨by omega, by omega⟩, by omega, by omega⟩))) rfl ?_
        refine Dr_st (St_gd [97, 100] rfl rfl rfl rfl ⟨⟨_, rfl⟩, ⟨_, rfl⟩, trivial⟩ (fun hg101 => Pu_cmp rfl rfl rfl rfl)) rfl ?_
        refine Dr_pu (Pu_and rfl rfl rfl rfl) rfl rfl ?_
        refine Dr_nil ?_
        refine Al_pu (Pu_move (.inr rfl) (by conv => lhs; whnf)) rfl rfl (by decide) (by kernel_rfl) ?_
        refine Al_nil ?_
        refine Aw_ret ?_
        refine Sub.bool ?_
        have c1 : ((V.ba (S.bytes (S.pick (l.take i) ++ S.pick (m.take j)))).extract 1 (V.ba (S.bytes (S.pick (l.take i) ++ S.pick (m.take j)))).size).toList = (((V.ba (S.bytes (S.pick (l.take i)))).extract 1 (V.ba (S.bytes (S.pick (l.take i)))).size) ++ ((V.ba (S.bytes (S.pick (m.take j)))).extract 1 (V.ba (S.bytes (S.pick (m.take j)))).size)).toList := by
          rw [eA, eB, eC, S.tail_bytes, S.tail_bytes, S.tail_bytes, V.ba_append, List.flatMap_append]
        have c2 : ((V.ba (S.bytes (S.pick (l.take i) ++ S.pick (m.take j))))[0]'hB0).toNat = (S.pick (l.take i)).length + (S.pick (m.take j)).length := by
          have : (V.ba (S.bytes (S.pick (l.take i) ++ S.pick (m.take j))))[0]'hB0 = UInt8.ofNat (S.pick (l.take i) ++ S.pick (m.take j)).length := by simp only [eC]; rfl
          rw [this, List.length_append]; simp; omega
        simp only [Bool.and_eq_true, decide_eq_true_eq, beq_iff_eq, Bool.true_and]
        exact ⟨c1, by omega⟩ -- ret 0
end Go.Proofs.Ytocgnmklgklfnaa
