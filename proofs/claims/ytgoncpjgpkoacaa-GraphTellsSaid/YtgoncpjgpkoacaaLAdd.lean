/- The reference's Add, by abstract states. -/
import Derived.Test.YtgoncpjgpkoacaaGDat
import Derived.Test.YtgoncpjgpkoacaaDAdd0
set_option linter.unusedSimpArgs false
set_option linter.unusedVariables false
namespace Go.Proofs.Ytgoncpjgpkoacaa
open Go.RowKit A
set_option maxRecDepth 100000 in
theorem rless_a (a b c d : Int) : ACall Try.prog 13 [.row [iv a, iv b], .row [iv c, iv d]] (bv (D.lessB a b c d)) := by
  refine ACall_enter (fun _ _ => by kernel_rfl) Try.func13 rfl Try.ntmps13 Try.results13 (Nat.le_of_ble_eq_true rfl) (fun hok M0 w0 hnl => ?_)
  refine Aw_seq ?_
  refine Aw_region ?_
  refine Al_pu (Pu_boxN rfl rfl) rfl rfl (by decide) (by kernel_rfl) ?_
  refine Al_pu (Pu_boxN rfl rfl) rfl rfl (by decide) (by kernel_rfl) ?_
  refine Al_pu (Pu_move (.inr rfl) (by conv => lhs; whnf)) rfl rfl (by decide) (by kernel_rfl) ?_
  refine Al_nil ?_
  refine Aw_seq ?_
  refine Aw_seq ?_
  refine Aw_region ?_
  refine Al_pu (Pu_field 0 rfl Try.underlying30 rfl rfl Try.sizeOf3 rfl) rfl rfl (by decide) (by kernel_rfl) ?_
  refine Al_pu (Pu_load1 rfl Try.isAgg3 rfl rfl) rfl rfl (by decide) (by kernel_rfl) ?_
  refine Al_pu (Pu_field 0 rfl Try.underlying30 rfl rfl Try.sizeOf3 rfl) rfl rfl (by decide) (by kernel_rfl) ?_
  refine Al_pu (Pu_load1 rfl Try.isAgg3 rfl rfl) rfl rfl (by decide) (by kernel_rfl) ?_
  refine Al_pu (Pu_cmp rfl rfl rfl rfl) rfl rfl (by decide) (by kernel_rfl) ?_
  refine Al_nil ?_
  refine Aw_cond rfl (fun h9 => ?_) (fun h9 => ?_)
  · (try simp only [decide_eq_true_eq, decide_eq_false_iff_not, Bool.and_eq_true, Bool.or_eq_true, Bool.and_eq_false_iff, Bool.or_eq_false_iff, Bool.not_eq_true', Bool.not_eq_false', beq_iff_eq, Bool.not_eq_eq_eq_not, Bool.not_true, Bool.not_false, List.length_map, Bool.and_true, Bool.and_false, Bool.false_and, Bool.true_and, Bool.or_false, Bool.false_or] at h9)
    refine Aw_seq ?_
    refine Aw_region ?_
    refine Al_pu (Pu_field 0 rfl Try.underlying30 rfl rfl Try.sizeOf3 rfl) rfl rfl (by decide) (by kernel_rfl) ?_
    refine Al_pu (Pu_load1 rfl Try.isAgg3 rfl rfl) rfl rfl (by decide) (by kernel_rfl) ?_
    refine Al_pu (Pu_field 0 rfl Try.underlying30 rfl rfl Try.sizeOf3 rfl) rfl rfl (by decide) (by kernel_rfl) ?_
    refine Al_pu (Pu_load1 rfl Try.isAgg3 rfl rfl) rfl rfl (by decide) (by kernel_rfl) ?_
    refine Al_pu (Pu_cmp rfl rfl rfl rfl) rfl rfl (by decide) (by kernel_rfl) ?_
    refine Al_pu (Pu_move (.inr rfl) (by conv => lhs; whnf)) rfl rfl (by decide) (by kernel_rfl) ?_
    refine Al_nil ?_
    refine Aw_ret ?_
    exact Sub.d (by unfold D.lessB; simp_all) -- ret 0
  · (try simp only [decide_eq_true_eq, decide_eq_false_iff_not, Bool.and_eq_true, Bool.or_eq_true, Bool.and_eq_false_iff, Bool.or_eq_false_iff, Bool.not_eq_true', Bool.not_eq_false', beq_iff_eq, Bool.not_eq_eq_eq_not, Bool.not_true, Bool.not_false, List.length_map, Bool.and_true, Bool.and_false, Bool.false_and, Bool.true_and, Bool.or_false, Bool.false_or] at h9)
    refine Aw_skip ?_
    refine Aw_seq ?_
    refine Aw_region ?_
    refine Al_pu (Pu_field 1 rfl Try.underlying30 rfl rfl Try.sizeOf3 rfl) rfl rfl (by decide) (by kernel_rfl) ?_
    refine Al_pu (Pu_load1 rfl Try.isAgg3 rfl rfl) rfl rfl (by decide) (by kernel_rfl) ?_
    refine Al_pu (Pu_field 1 rfl Try.underlying30 rfl rfl Try.sizeOf3 rfl) rfl rfl (by decide) (by kernel_rfl) ?_
    refine Al_pu (Pu_load1 rfl Try.isAgg3 rfl rfl) rfl rfl (by decide) (by kernel_rfl) ?_
    refine Al_pu (Pu_cmp rfl rfl rfl rfl) rfl rfl (by decide) (by kernel_rfl) ?_
    refine Al_pu (Pu_move (.inr rfl) (by conv => lhs; whnf)) rfl rfl (by decide) (by kernel_rfl) ?_
    refine Al_nil ?_
    refine Aw_ret ?_
    exact Sub.d (by unfold D.lessB; simp_all) -- ret 1
theorem rcheck_a (s : ByteArray) : ACall Try.prog 47 [tv s] (bv (K.checkB s)) := A.ofv (fun _ _ => by kernel_rfl) trivial fun M w vs ha => by
  obtain ⟨rfl, h⟩ := A.all1 ha
  exact (rcheck_any s h w).mono fun e w' ⟨h1, h2⟩ => ⟨h1, h2 ▸ Ev.Ext.refl _⟩
theorem rstcheck_a (n s : Int) : ACall Try.prog 48 [.row [iv n, iv s]] (bv (V.stampB n s)) := A.ofv (fun _ _ => by kernel_rfl) trivial fun M w vs ha => by
  obtain rfl := A.all1r (us := [.int .i64 n, .int .i64 s]) ha
  exact rstcheck_any n s w
set_option maxRecDepth 100000 in
theorem dadd_a (p : List Dep) (d : Dep) (hl : p.length ≤ 1000) : ACall Try.prog 29 [.sl 3 (p.map Dep.row), .row d.row] (.sl 3 ((D.add p d).map Dep.row)) := by
  refine ACall_enter (fun _ _ => by kernel_rfl) Try.func29 rfl Try.ntmps29 Try.results29 (Nat.le_of_ble_eq_true rfl) (fun hok M0 w0 hnl => ?_)
  refine Aw_seq ?_
  refine Aw_region ?_
  refine Al_pu (Pu_boxN rfl rfl) rfl rfl (by decide) (by kernel_rfl) ?_
  refine Al_pu (Pu_move (.inr rfl) (by conv => lhs; whnf)) rfl rfl (by decide) (by kernel_rfl) ?_
  refine Al_nil ?_
  refine Aw_seq ?_
  refine Aw_region ?_
  refine Al_pu (Pu_field 0 rfl Try.underlying60 rfl rfl Try.sizeOf9 rfl) rfl rfl (by decide) (by kernel_rfl) ?_
  refine Al_pu (Pu_load1 rfl Try.isAgg9 rfl rfl) rfl rfl (by decide) (by kernel_rfl) ?_
  refine Al_pu (Pu_call (rcheck_a _) rfl ⟨Sub.rfl, trivial⟩) rfl rfl (by decide) (by kernel_rfl) ?_
  refine Al_pu (Pu_move (.inr rfl) (by conv => lhs; whnf)) rfl rfl (by decide) (by kernel_rfl) ?_
  refine Al_nil ?_
  refine Aw_seq ?_
  refine Aw_region ?_
  refine Al_pu (Pu_field 1 rfl Try.underlying60 rfl rfl Try.sizeOf30 rfl) rfl rfl (by decide) (by kernel_rfl) ?_
  refine Al_pu (Pu_loadN rfl Try.isAgg30 Try.sizeOf30 rfl (Nat.le_of_ble_eq_true rfl)) rfl rfl (by decide) (by kernel_rfl) ?_
  refine Al_pu (Pu_call (rstcheck_a _ _) rfl ⟨Sub.rfl, trivial⟩) rfl rfl (by decide) (by kernel_rfl) ?_
  refine Al_pu (Pu_move (.inr rfl) (by conv => lhs; whnf)) rfl rfl (by decide) (by kernel_rfl) ?_
  refine Al_nil ?_
  refine Aw_seq ?_
  refine Aw_seq ?_
  refine Aw_region ?_
  refine Al_pu (Pu_move (.inl rfl) (by conv => lhs; whnf)) rfl rfl (by decide) (by kernel_rfl) ?_
  refine Al_pu (Pu_not rfl rfl) rfl rfl (by decide) (by kernel_rfl) ?_
  refine Al_pu (Pu_move (.inl rfl) (by conv => lhs; whnf)) rfl rfl (by decide) (by kernel_rfl) ?_
  refine Al_st (St_gd [] rfl rfl rfl rfl trivial (fun hg20 => by exact Pu_move (.inl rfl) (by conv => lhs; whnf))) rfl (by decide) (by kernel_rfl) (by intro j b oj dj h1 h2 h3; cases h1; cases h2; cases h3; decide) ?_
  refine Al_st (St_gd [20] rfl rfl rfl rfl ⟨⟨_, rfl⟩, trivial⟩ (fun hg21 => Pu_not rfl rfl)) rfl (by decide) (by kernel_rfl) (by intro j b oj dj h1 h2 h3; cases h1; cases h2; cases h3; decide) ?_
  refine Al_pu (Pu_or rfl rfl rfl rfl) rfl rfl (by decide) (by kernel_rfl) ?_
  refine Al_nil ?_
  refine Aw_cond rfl (fun h22 => ?_) (fun h22 => ?_)
  · (try simp only [decide_eq_true_eq, decide_eq_false_iff_not, Bool.and_eq_true, Bool.or_eq_true, Bool.and_eq_false_iff, Bool.or_eq_false_iff, Bool.not_eq_true', Bool.not_eq_false', beq_iff_eq, Bool.not_eq_eq_eq_not, Bool.not_true, Bool.not_false, List.length_map, Bool.and_true, Bool.and_false, Bool.false_and, Bool.true_and, Bool.or_false, Bool.false_or] at h22)
    have hno : D.add p d = p := by
      unfold D.add D.okB
      rcases h22 with h | h <;> simp [h]
    refine Aw_seq ?_
    refine Aw_region ?_
    refine Al_pu (Pu_move (.inl rfl) (by conv => lhs; whnf)) rfl rfl (by decide) (by kernel_rfl) ?_
    refine Al_pu (Pu_move (.inr rfl) (by conv => lhs; whnf)) rfl rfl (by decide) (by kernel_rfl) ?_
    refine Al_nil ?_
    refine Aw_ret ?_
    exact Sub.d (by rw [hno]) -- ret 0
  · (try simp only [decide_eq_true_eq, decide_eq_false_iff_not, Bool.and_eq_true, Bool.or_eq_true, Bool.and_eq_false_iff, Bool.or_eq_false_iff, Bool.not_eq_true', Bool.not_eq_false', beq_iff_eq, Bool.not_eq_eq_eq_not, Bool.not_true, Bool.not_false, List.length_map, Bool.and_true, Bool.and_false, Bool.false_and, Bool.true_and, Bool.or_false, Bool.false_or] at h22)
    have hdd : D.add p d = D.addF p d false := by simp [D.add, D.okB, h22.1, h22.2]
    refine Aw_skip ?_
    refine Aw_seq ?_
    refine Aw_region ?_
    refine Al_pu (Pu_move (.inr rfl) (by conv => lhs; whnf)) rfl rfl (by decide) (by kernel_rfl) ?_
    refine Al_nil ?_
    refine Aw_seq ?_
    refine Aw_region ?_
    refine Al_pu (Pu_move (.inr rfl) (by conv => lhs; whnf)) rfl rfl (by decide) (by kernel_rfl) ?_
    refine Al_nil ?_
    refine Aw_seq ?_
    refine Aw_seq ?_
    refine Aw_region ?_
    refine Al_pu (Pu_move (.inr rfl) (by conv => lhs; whnf)) rfl rfl (by decide) (by kernel_rfl) ?_
    refine Al_nil ?_
    refine Aw_block ?_
    refine Aw_own (j := 7) (k := 7) (T := 60) (n := 3) rfl (fun g0 => ?_)
    refine Aw_loopk (ι := Nat × Nat × Bool × (List Dep)) [0, 3] [] (fun (k, g, put, out) => [(9, .d (iv k)), (7, .ow 7 g), (8, .d (bv put))]) (fun (k, g, put, out) => [(7, g, .arr 60 3 (out.map Dep.row))]) (fun (k, g, put, out) => k ≤ p.length ∧ D.At p d k put out ∧ out.length ≤ 2 * k) (fun (k, g, put, out) => p.length - k) ((0, g0, false, [])) (⟨Nat.zero_le _, ⟨by simp [D.At], by simp⟩⟩) ⟨Sub.rfl, Sub.rfl, Sub.rfl, trivial⟩ ⟨rfl, trivial⟩ ?_
    rintro ⟨k, g, put, out⟩ ⟨hk0, ⟨hat, hlo⟩⟩
    refine Aw_seq ?_
    refine Aw_seq ?_
    refine Aw_region ?_
    refine Al_pu (Pu_move (.inl rfl) (by conv => lhs; whnf)) rfl rfl (by decide) (by kernel_rfl) ?_
    refine Al_pu (Pu_move (.inl rfl) (by conv => lhs; whnf)) rfl rfl (by decide) (by kernel_rfl) ?_
    refine Al_pu (Pu_len rfl Try.underlying31 rfl (by first | exact List.length_map .. | exact rfl)) rfl rfl (by decide) (by kernel_rfl) ?_
    refine Al_pu (Pu_cmp rfl rfl rfl rfl) rfl rfl (by decide) (by kernel_rfl) ?_
    refine Al_nil ?_
    refine Aw_cond rfl (fun h27 => ?_) (fun h27 => ?_)
    · (try simp only [decide_eq_true_eq, decide_eq_false_iff_not, Bool.and_eq_true, Bool.or_eq_true, Bool.and_eq_false_iff, Bool.or_eq_false_iff, Bool.not_eq_true', Bool.not_eq_false', beq_iff_eq, Bool.not_eq_eq_eq_not, Bool.not_true, Bool.not_false, List.length_map, Bool.and_true, Bool.and_false, Bool.false_and, Bool.true_and, Bool.or_false, Bool.false_or] at h27)
      have hkl : k < p.length := by omega
      refine Aw_skip ?_
      -- join 0: live [0, 3, 7, 8, 9], turned [7, 8]
      refine Aw_seq ?_
      refine Aw_block ?_
      refine Aw_seq ?_
      refine Aw_region ?_
      refine Al_pu (Pu_move (.inl rfl) (by conv => lhs; whnf)) rfl rfl (by decide) (by kernel_rfl) ?_
      refine Al_pu (Pu_move (.inl rfl) (by conv => lhs; whnf)) rfl rfl (by decide) (by kernel_rfl) ?_
      refine Al_pu (Pu_index rfl Try.underlying31 Try.sizeOf60 rfl rfl (rfl) (mapget (by omega))) rfl rfl (by decide) (by kernel_rfl) ?_
      refine Al_pu (Pu_loadN rfl Try.isAgg60 Try.sizeOf60 rfl (Nat.le_of_ble_eq_true rfl)) rfl rfl (by decide) (by kernel_rfl) ?_
      refine Al_alloc rfl rfl rfl (by decide) Try.zeroValue60 rfl (by kernel_rfl) (fun g10 => ?_)
      refine Al_storeN rfl rfl rfl (by kernel_rfl) Try.isAgg60 Try.sizeOf60 rfl rfl rfl rfl (Nat.le_of_ble_eq_true rfl) ?_
      refine Al_nil ?_
      -- join 1: live [0, 3, 7, 8, 9, 10], turned [8]
      refine Aw_seq ?_
      refine Aw_seq ?_
      refine Aw_region ?_
      refine Al_pu (Pu_fieldb 0 rfl Try.underlying60 rfl rfl Try.sizeOf9 rfl) rfl rfl (by decide) (by kernel_rfl) ?_
      refine Al_pu (Pu_loadb rfl Try.isAgg9 rfl rfl rfl) rfl rfl (by decide) (by kernel_rfl) ?_
      refine Al_pu (Pu_field 0 rfl Try.underlying60 rfl rfl Try.sizeOf9 rfl) rfl rfl (by decide) (by kernel_rfl) ?_
      refine Al_pu (Pu_load1 rfl Try.isAgg9 rfl rfl) rfl rfl (by decide) (by kernel_rfl) ?_
      refine Al_pu (Pu_str rfl rfl rfl rfl) rfl rfl (by decide) (by kernel_rfl) ?_
      refine Al_nil ?_
      refine Aw_cond rfl (fun h38 => ?_) (fun h38 => ?_)
      · skip
        have ha := hat.eq hkl h38
        -- join 2: live [0, 3, 7, 9, 10], turned []
        refine Aw_seq ?_
        refine Aw_seq ?_
        refine Aw_region ?_
        refine Al_pu (Pu_fieldb 1 rfl Try.underlying60 rfl rfl Try.sizeOf30 rfl) rfl rfl (by decide) (by kernel_rfl) ?_
        refine Al_pu (Pu_loadbN (r := [_, _]) rfl Try.isAgg30 Try.sizeOf30 rfl rfl rfl rfl) rfl rfl (by decide) (by kernel_rfl) ?_
        refine Al_pu (Pu_field 1 rfl Try.underlying60 rfl rfl Try.sizeOf30 rfl) rfl rfl (by decide) (by kernel_rfl) ?_
        refine Al_pu (Pu_loadN rfl Try.isAgg30 Try.sizeOf30 rfl (Nat.le_of_ble_eq_true rfl)) rfl rfl (by decide) (by kernel_rfl) ?_
        refine Al_pu (Pu_call (rless_a _ _ _ _) rfl ⟨Sub.rfl, Sub.rfl, trivial⟩) rfl rfl (by decide) (by kernel_rfl) ?_
        refine Al_nil ?_
        refine Aw_cond rfl (fun h43 => ?_) (fun h43 => ?_)
        · skip
          rw [h43] at ha
          refine Aw_region ?_
          refine Al_pu (Pu_loadN rfl Try.isAgg60 Try.sizeOf60 rfl (Nat.le_of_ble_eq_true rfl)) rfl rfl (by decide) (by kernel_rfl) ?_
          refine Al_storeN rfl rfl rfl (by kernel_rfl) Try.isAgg60 Try.sizeOf60 rfl rfl rfl rfl (Nat.le_of_ble_eq_true rfl) ?_
          refine Al_nil ?_
          refine Aw_region ?_
          refine Al_pu (Pu_move (.inr rfl) (by conv => lhs; whnf)) rfl rfl (by decide) (by kernel_rfl) ?_
          refine Al_nil ?_
          -- join 3: live [0, 3, 7, 8, 9, 10], turned [7, 8]
          refine Aw_seq ?_
          refine Aw_seq ?_
          refine Aw_region ?_
          refine Al_pu (Pu_move (.inl rfl) (by conv => lhs; whnf)) rfl rfl (by decide) (by kernel_rfl) ?_
          refine Al_pu (Pu_not rfl rfl) rfl rfl (by decide) (by kernel_rfl) ?_
          refine Al_pu (Pu_move (.inl rfl) (by conv => lhs; whnf)) rfl rfl (by decide) (by kernel_rfl) ?_
          refine Al_st (St_gd [] rfl rfl rfl rfl trivial (fun hg48 => Pu_fieldb 0 rfl Try.underlying60 rfl rfl Try.sizeOf9 rfl)) rfl (by decide) (by kernel_rfl) (by intro j b oj dj h1 h2 h3; cases h1; cases h2; cases h3; decide) ?_
          refine Al_st (St_gd [48] rfl rfl rfl rfl ⟨⟨_, rfl⟩, trivial⟩ (fun hg49 => Pu_loadb rfl Try.isAgg9 rfl rfl rfl)) rfl (by decide) (by kernel_rfl) (by intro j b oj dj h1 h2 h3; cases h1; cases h2; cases h3; decide) ?_
          refine Al_st (St_gd [] rfl rfl rfl rfl trivial (fun hg50 => Pu_field 0 rfl Try.underlying60 rfl rfl Try.sizeOf9 rfl)) rfl (by decide) (by kernel_rfl) (by intro j b oj dj h1 h2 h3; cases h1; cases h2; cases h3; decide) ?_
          refine Al_st (St_gd [50] rfl rfl rfl rfl ⟨⟨_, rfl⟩, trivial⟩ (fun hg51 => Pu_load1 rfl Try.isAgg9 rfl rfl)) rfl (by decide) (by kernel_rfl) (by intro j b oj dj h1 h2 h3; cases h1; cases h2; cases h3; decide) ?_
          refine Al_st (St_gd [49, 51] rfl rfl rfl rfl ⟨⟨_, rfl⟩, ⟨_, rfl⟩, trivial⟩ (fun hg52 => Pu_str rfl rfl rfl rfl)) rfl (by decide) (by kernel_rfl) (by intro j b oj dj h1 h2 h3; cases h1; cases h2; cases h3; decide) ?_
          refine Al_pu (Pu_and rfl rfl rfl rfl) rfl rfl (by decide) (by kernel_rfl) ?_
          refine Al_nil ?_
          refine Aw_cond rfl (fun h53 => ?_) (fun h53 => ?_)
          · (exfalso; revert h53; simp; done) -- next 0.0
          · first
            | (exfalso; revert h53; simp; done)
            | (
                skip
                refine Aw_skip ?_
                refine Aw_region ?_
                refine Al_pu (Pu_move (.inl rfl) (by conv => lhs; whnf)) rfl rfl (by decide) (by kernel_rfl) ?_
                refine Al_pu (Pu_loadbN (r := [_, _, _]) rfl Try.isAgg60 Try.sizeOf60 rfl rfl rfl rfl) rfl rfl (by decide) (by kernel_rfl) ?_
                refine Al_pu (Pu_slice1 rfl Try.underlying31 Try.sizeOf60 Try.zeroValue60 rfl (by decide) (by decide) (by kernel_rfl) rfl rfl rfl) rfl rfl (by decide) (by kernel_rfl) ?_
                refine Al_append rfl rfl rfl (by decide) (by kernel_rfl) elem31 (by decide) Try.sizeOf60 rfl rfl rfl (by simp; omega) (by decide) (fun g61 => ?_)
                refine Al_pu (Pu_move (.inr rfl) (by conv => lhs; whnf)) rfl rfl (by decide) (by kernel_rfl) ?_
                refine Al_nil ?_
                refine Aw_region ?_
                refine Al_pu (Pu_move (.inl rfl) (by conv => lhs; whnf)) rfl rfl (by decide) (by kernel_rfl) ?_
                refine Al_pu (Pu_add rfl rfl rfl (fun h1 h2 => by simp only [A.inI, A.maxI] at *; omega)) rfl rfl (by decide) (by kernel_rfl) ?_
                refine Al_pu (Pu_move (.inr rfl) (by conv => lhs; whnf)) rfl rfl (by decide) (by kernel_rfl) ?_
                refine Al_nil ?_
                exact ⟨(k + 1, g61, true, out ++ [d]), ⟨by omega, ⟨by simpa using ha, by simp; omega⟩⟩, by simp only []; omega, Le.ov ⟨Sub.num (by omega), Sub.rfl, Sub.rfl, trivial⟩ ⟨Sub.rfl, Sub.rfl, trivial⟩ ⟨obeq (by rw [List.map_append]; rfl), trivial⟩ trivial⟩) -- loop 0 next.1
        · skip
          rw [h43] at ha
          refine Aw_skip ?_
          refine Aw_region ?_
          refine Al_pu (Pu_move (.inr rfl) (by conv => lhs; whnf)) rfl rfl (by decide) (by kernel_rfl) ?_
          refine Al_nil ?_
          -- join 3: live [0, 3, 7, 8, 9, 10], turned [7, 8]
          refine Aw_seq ?_
          refine Aw_seq ?_
          refine Aw_region ?_
          refine Al_pu (Pu_move (.inl rfl) (by conv => lhs; whnf)) rfl rfl (by decide) (by kernel_rfl) ?_
          refine Al_pu (Pu_not rfl rfl) rfl rfl (by decide) (by kernel_rfl) ?_
          refine Al_pu (Pu_move (.inl rfl) (by conv => lhs; whnf)) rfl rfl (by decide) (by kernel_rfl) ?_
          refine Al_st (St_gd [] rfl rfl rfl rfl trivial (fun hg48 => Pu_fieldb 0 rfl Try.underlying60 rfl rfl Try.sizeOf9 rfl)) rfl (by decide) (by kernel_rfl) (by intro j b oj dj h1 h2 h3; cases h1; cases h2; cases h3; decide) ?_
          refine Al_st (St_gd [48] rfl rfl rfl rfl ⟨⟨_, rfl⟩, trivial⟩ (fun hg49 => Pu_loadb rfl Try.isAgg9 rfl rfl rfl)) rfl (by decide) (by kernel_rfl) (by intro j b oj dj h1 h2 h3; cases h1; cases h2; cases h3; decide) ?_
          refine Al_st (St_gd [] rfl rfl rfl rfl trivial (fun hg50 => Pu_field 0 rfl Try.underlying60 rfl rfl Try.sizeOf9 rfl)) rfl (by decide) (by kernel_rfl) (by intro j b oj dj h1 h2 h3; cases h1; cases h2; cases h3; decide) ?_
          refine Al_st (St_gd [50] rfl rfl rfl rfl ⟨⟨_, rfl⟩, trivial⟩ (fun hg51 => Pu_load1 rfl Try.isAgg9 rfl rfl)) rfl (by decide) (by kernel_rfl) (by intro j b oj dj h1 h2 h3; cases h1; cases h2; cases h3; decide) ?_
          refine Al_st (St_gd [49, 51] rfl rfl rfl rfl ⟨⟨_, rfl⟩, ⟨_, rfl⟩, trivial⟩ (fun hg52 => Pu_str rfl rfl rfl rfl)) rfl (by decide) (by kernel_rfl) (by intro j b oj dj h1 h2 h3; cases h1; cases h2; cases h3; decide) ?_
          refine Al_pu (Pu_and rfl rfl rfl rfl) rfl rfl (by decide) (by kernel_rfl) ?_
          refine Al_nil ?_
          refine Aw_cond rfl (fun h53 => ?_) (fun h53 => ?_)
          · (exfalso; revert h53; simp; done) -- next 0.2
          · first
            | (exfalso; revert h53; simp; done)
            | (
                skip
                refine Aw_skip ?_
                refine Aw_region ?_
                refine Al_pu (Pu_move (.inl rfl) (by conv => lhs; whnf)) rfl rfl (by decide) (by kernel_rfl) ?_
                refine Al_pu (Pu_loadbN (r := [_, _, _]) rfl Try.isAgg60 Try.sizeOf60 rfl rfl rfl rfl) rfl rfl (by decide) (by kernel_rfl) ?_
                refine Al_pu (Pu_slice1 rfl Try.underlying31 Try.sizeOf60 Try.zeroValue60 rfl (by decide) (by decide) (by kernel_rfl) rfl rfl rfl) rfl rfl (by decide) (by kernel_rfl) ?_
                refine Al_append rfl rfl rfl (by decide) (by kernel_rfl) elem31 (by decide) Try.sizeOf60 rfl rfl rfl (by simp; omega) (by decide) (fun g61 => ?_)
                refine Al_pu (Pu_move (.inr rfl) (by conv => lhs; whnf)) rfl rfl (by decide) (by kernel_rfl) ?_
                refine Al_nil ?_
                refine Aw_region ?_
                refine Al_pu (Pu_move (.inl rfl) (by conv => lhs; whnf)) rfl rfl (by decide) (by kernel_rfl) ?_
                refine Al_pu (Pu_add rfl rfl rfl (fun h1 h2 => by simp only [A.inI, A.maxI] at *; omega)) rfl rfl (by decide) (by kernel_rfl) ?_
                refine Al_pu (Pu_move (.inr rfl) (by conv => lhs; whnf)) rfl rfl (by decide) (by kernel_rfl) ?_
                refine Al_nil ?_
                exact ⟨(k + 1, g61, true, out ++ [p[k]]), ⟨by omega, ⟨by simpa using ha, by simp; omega⟩⟩, by simp only []; omega, Le.ov ⟨Sub.num (by omega), Sub.rfl, Sub.rfl, trivial⟩ ⟨Sub.rfl, Sub.rfl, trivial⟩ ⟨obeq (by rw [List.map_append]; rfl), trivial⟩ trivial⟩) -- loop 0 next.3
      · skip
        refine Aw_skip ?_
        -- join 3: live [0, 3, 7, 8, 9, 10], turned [7, 8]
        refine Aw_seq ?_
        refine Aw_seq ?_
        refine Aw_region ?_
        refine Al_pu (Pu_move (.inl rfl) (by conv => lhs; whnf)) rfl rfl (by decide) (by kernel_rfl) ?_
        refine Al_pu (Pu_not rfl rfl) rfl rfl (by decide) (by kernel_rfl) ?_
        refine Al_pu (Pu_move (.inl rfl) (by conv => lhs; whnf)) rfl rfl (by decide) (by kernel_rfl) ?_
        refine Al_st (St_gd [] rfl rfl rfl rfl trivial (fun hg48 => Pu_fieldb 0 rfl Try.underlying60 rfl rfl Try.sizeOf9 rfl)) rfl (by decide) (by kernel_rfl) (by intro j b oj dj h1 h2 h3; cases h1; cases h2; cases h3; decide) ?_
        refine Al_st (St_gd [48] rfl rfl rfl rfl ⟨⟨_, rfl⟩, trivial⟩ (fun hg49 => Pu_loadb rfl Try.isAgg9 rfl rfl rfl)) rfl (by decide) (by kernel_rfl) (by intro j b oj dj h1 h2 h3; cases h1; cases h2; cases h3; decide) ?_
        refine Al_st (St_gd [] rfl rfl rfl rfl trivial (fun hg50 => Pu_field 0 rfl Try.underlying60 rfl rfl Try.sizeOf9 rfl)) rfl (by decide) (by kernel_rfl) (by intro j b oj dj h1 h2 h3; cases h1; cases h2; cases h3; decide) ?_
        refine Al_st (St_gd [50] rfl rfl rfl rfl ⟨⟨_, rfl⟩, trivial⟩ (fun hg51 => Pu_load1 rfl Try.isAgg9 rfl rfl)) rfl (by decide) (by kernel_rfl) (by intro j b oj dj h1 h2 h3; cases h1; cases h2; cases h3; decide) ?_
        refine Al_st (St_gd [49, 51] rfl rfl rfl rfl ⟨⟨_, rfl⟩, ⟨_, rfl⟩, trivial⟩ (fun hg52 => Pu_str rfl rfl rfl rfl)) rfl (by decide) (by kernel_rfl) (by intro j b oj dj h1 h2 h3; cases h1; cases h2; cases h3; decide) ?_
        refine Al_pu (Pu_and rfl rfl rfl rfl) rfl rfl (by decide) (by kernel_rfl) ?_
        refine Al_nil ?_
        refine Aw_cond rfl (fun h53 => ?_) (fun h53 => ?_)
        · first
          | (exfalso; revert h53; simp; done)
          | (
              skip
              have hb : put = false ∧ D.ltB p[k] d = false := by
                revert h53; unfold D.ltB; cases put <;> simp_all
              obtain ⟨rfl, hlt⟩ := hb
              have ha := hat.put hkl h38 hlt
              refine Aw_seq ?_
              refine Aw_region ?_
              refine Al_pu (Pu_move (.inl rfl) (by conv => lhs; whnf)) rfl rfl (by decide) (by kernel_rfl) ?_
              refine Al_pu (Pu_loadN rfl Try.isAgg60 Try.sizeOf60 rfl (Nat.le_of_ble_eq_true rfl)) rfl rfl (by decide) (by kernel_rfl) ?_
              refine Al_pu (Pu_slice1 rfl Try.underlying31 Try.sizeOf60 Try.zeroValue60 rfl (by decide) (by decide) (by kernel_rfl) rfl rfl rfl) rfl rfl (by decide) (by kernel_rfl) ?_
              refine Al_append rfl rfl rfl (by decide) (by kernel_rfl) elem31 (by decide) Try.sizeOf60 rfl rfl rfl (by simp; omega) (by decide) (fun g57 => ?_)
              refine Al_pu (Pu_move (.inr rfl) (by conv => lhs; whnf)) rfl rfl (by decide) (by kernel_rfl) ?_
              refine Al_nil ?_
              refine Aw_region ?_
              refine Al_pu (Pu_move (.inr rfl) (by conv => lhs; whnf)) rfl rfl (by decide) (by kernel_rfl) ?_
              refine Al_nil ?_
              refine Aw_region ?_
              refine Al_pu (Pu_move (.inl rfl) (by conv => lhs; whnf)) rfl rfl (by decide) (by kernel_rfl) ?_
              refine Al_pu (Pu_loadbN (r := [_, _, _]) rfl Try.isAgg60 Try.sizeOf60 rfl rfl rfl rfl) rfl rfl (by decide) (by kernel_rfl) ?_
              refine Al_pu (Pu_slice1 rfl Try.underlying31 Try.sizeOf60 Try.zeroValue60 rfl (by decide) (by decide) (by kernel_rfl) rfl rfl rfl) rfl rfl (by decide) (by kernel_rfl) ?_
              refine Al_append rfl rfl rfl (by decide) (by kernel_rfl) elem31 (by decide) Try.sizeOf60 rfl rfl rfl (by simp; omega) (by decide) (fun g61 => ?_)
              refine Al_pu (Pu_move (.inr rfl) (by conv => lhs; whnf)) rfl rfl (by decide) (by kernel_rfl) ?_
              refine Al_nil ?_
              refine Aw_region ?_
              refine Al_pu (Pu_move (.inl rfl) (by conv => lhs; whnf)) rfl rfl (by decide) (by kernel_rfl) ?_
              refine Al_pu (Pu_add rfl rfl rfl (fun h1 h2 => by simp only [A.inI, A.maxI] at *; omega)) rfl rfl (by decide) (by kernel_rfl) ?_
              refine Al_pu (Pu_move (.inr rfl) (by conv => lhs; whnf)) rfl rfl (by decide) (by kernel_rfl) ?_
              refine Al_nil ?_
              exact ⟨(k + 1, g61, true, out ++ [d] ++ [p[k]]), ⟨by omega, ⟨ha, by simp; omega⟩⟩, by simp only []; omega, Le.ov ⟨Sub.num (by omega), Sub.rfl, Sub.rfl, trivial⟩ ⟨Sub.rfl, Sub.rfl, trivial⟩ ⟨obeq (by rw [List.map_append, List.map_append]; rfl), trivial⟩ trivial⟩) -- loop 0 next.4
        · first
          | (exfalso; revert h53; simp; done)
          | (
              skip
              have ha : D.At p d (k + 1) put (out ++ [p[k]]) := by
                cases hp : put
                · rw [hp] at h53 hat
                  refine hat.lt hkl h38 ?_
                  have h38' := h38
                  unfold D.ltB
                  simp only [Bool.not_false, Bool.true_and, Bool.not_eq_false', Bool.or_eq_true] at h53
                  rcases h53 with h | h
                  · exact h
                  · rw [h38'] at h; cases h
                · rw [hp] at hat
                  exact hat.skip hkl h38
              refine Aw_skip ?_
              refine Aw_region ?_
              refine Al_pu (Pu_move (.inl rfl) (by conv => lhs; whnf)) rfl rfl (by decide) (by kernel_rfl) ?_
              refine Al_pu (Pu_loadbN (r := [_, _, _]) rfl Try.isAgg60 Try.sizeOf60 rfl rfl rfl rfl) rfl rfl (by decide) (by kernel_rfl) ?_
              refine Al_pu (Pu_slice1 rfl Try.underlying31 Try.sizeOf60 Try.zeroValue60 rfl (by decide) (by decide) (by kernel_rfl) rfl rfl rfl) rfl rfl (by decide) (by kernel_rfl) ?_
              refine Al_append rfl rfl rfl (by decide) (by kernel_rfl) elem31 (by decide) Try.sizeOf60 rfl rfl rfl (by simp; omega) (by decide) (fun g61 => ?_)
              refine Al_pu (Pu_move (.inr rfl) (by conv => lhs; whnf)) rfl rfl (by decide) (by kernel_rfl) ?_
              refine Al_nil ?_
              refine Aw_region ?_
              refine Al_pu (Pu_move (.inl rfl) (by conv => lhs; whnf)) rfl rfl (by decide) (by kernel_rfl) ?_
              refine Al_pu (Pu_add rfl rfl rfl (fun h1 h2 => by simp only [A.inI, A.maxI] at *; omega)) rfl rfl (by decide) (by kernel_rfl) ?_
              refine Al_pu (Pu_move (.inr rfl) (by conv => lhs; whnf)) rfl rfl (by decide) (by kernel_rfl) ?_
              refine Al_nil ?_
              exact ⟨(k + 1, g61, put, out ++ [p[k]]), ⟨by omega, ⟨ha, by simp; omega⟩⟩, by simp only []; omega, Le.ov ⟨Sub.num (by omega), Sub.rfl, Sub.rfl, trivial⟩ ⟨Sub.rfl, Sub.rfl, trivial⟩ ⟨obeq (by rw [List.map_append]; rfl), trivial⟩ trivial⟩) -- loop 0 next.5
    · (try simp only [decide_eq_true_eq, decide_eq_false_iff_not, Bool.and_eq_true, Bool.or_eq_true, Bool.and_eq_false_iff, Bool.or_eq_false_iff, Bool.not_eq_true', Bool.not_eq_false', beq_iff_eq, Bool.not_eq_eq_eq_not, Bool.not_true, Bool.not_false, List.length_map, Bool.and_true, Bool.and_false, Bool.false_and, Bool.true_and, Bool.or_false, Bool.false_or] at h27)
      obtain rfl : k = p.length := by omega
      have he : out ++ D.addF [] d put = D.add p d := by rw [hdd]; have := hat; unfold D.At at this; rwa [List.drop_length] at this
      refine Aw_exit ?_
      -- join 4: live [7], turned [7]
      refine Aw_seq ?_
      refine Aw_seq ?_
      refine Aw_region ?_
      refine Al_pu (Pu_move (.inl rfl) (by conv => lhs; whnf)) rfl rfl (by decide) (by kernel_rfl) ?_
      refine Al_pu (Pu_not rfl rfl) rfl rfl (by decide) (by kernel_rfl) ?_
      refine Al_nil ?_
      refine Aw_cond rfl (fun h63 => ?_) (fun h63 => ?_)
      · (try simp only [decide_eq_true_eq, decide_eq_false_iff_not, Bool.and_eq_true, Bool.or_eq_true, Bool.and_eq_false_iff, Bool.or_eq_false_iff, Bool.not_eq_true', Bool.not_eq_false', beq_iff_eq, Bool.not_eq_eq_eq_not, Bool.not_true, Bool.not_false, List.length_map, Bool.and_true, Bool.and_false, Bool.false_and, Bool.true_and, Bool.or_false, Bool.false_or] at h63)
        have he2 : out ++ [d] = D.add p d := by rw [← he]; simp_all [D.addF]
        refine Aw_region ?_
        refine Al_pu (Pu_move (.inl rfl) (by conv => lhs; whnf)) rfl rfl (by decide) (by kernel_rfl) ?_
        refine Al_pu (Pu_loadN rfl Try.isAgg60 Try.sizeOf60 rfl (Nat.le_of_ble_eq_true rfl)) rfl rfl (by decide) (by kernel_rfl) ?_
        refine Al_pu (Pu_slice1 rfl Try.underlying31 Try.sizeOf60 Try.zeroValue60 rfl (by decide) (by decide) (by kernel_rfl) rfl rfl rfl) rfl rfl (by decide) (by kernel_rfl) ?_
        refine Al_append rfl rfl rfl (by decide) (by kernel_rfl) elem31 (by decide) Try.sizeOf60 rfl rfl rfl (by simp; omega) (by decide) (fun g67 => ?_)
        refine Al_pu (Pu_move (.inr rfl) (by conv => lhs; whnf)) rfl rfl (by decide) (by kernel_rfl) ?_
        refine Al_nil ?_
        refine Aw_seq ?_
        refine Aw_region ?_
        refine Al_pu (Pu_move (.inl rfl) (by conv => lhs; whnf)) rfl rfl (by decide) (by kernel_rfl) ?_
        refine Al_pu (Pu_move (.inr rfl) (by conv => lhs; whnf)) rfl rfl (by decide) (by kernel_rfl) ?_
        refine Al_nil ?_
        refine Aw_frz hnl (k := 7) [4] rfl ⟨rfl, trivial⟩ ?_
        refine Aw_ret ?_
        exact Sub.d (by rw [← he2, List.map_append]; rfl) -- ret 1
      · (try simp only [decide_eq_true_eq, decide_eq_false_iff_not, Bool.and_eq_true, Bool.or_eq_true, Bool.and_eq_false_iff, Bool.or_eq_false_iff, Bool.not_eq_true', Bool.not_eq_false', beq_iff_eq, Bool.not_eq_eq_eq_not, Bool.not_true, Bool.not_false, List.length_map, Bool.and_true, Bool.and_false, Bool.false_and, Bool.true_and, Bool.or_false, Bool.false_or] at h63)
        have he2 : out = D.add p d := by rw [← he]; simp_all [D.addF]
        refine Aw_skip ?_
        refine Aw_seq ?_
        refine Aw_region ?_
        refine Al_pu (Pu_move (.inl rfl) (by conv => lhs; whnf)) rfl rfl (by decide) (by kernel_rfl) ?_
        refine Al_pu (Pu_move (.inr rfl) (by conv => lhs; whnf)) rfl rfl (by decide) (by kernel_rfl) ?_
        refine Al_nil ?_
        refine Aw_frz hnl (k := 7) [4] rfl ⟨rfl, trivial⟩ ?_
        refine Aw_ret ?_
        exact Sub.d (by rw [he2]) -- ret 2
end Go.Proofs.Ytgoncpjgpkoacaa
