/- archipelagoref18: the walks. -/
import Derived.Test.YtfalbocgnmlncaaEPl
import Derived.Test.YtfalbocgnmlncaaKOrd
set_option linter.unusedSimpArgs false
set_option linter.unusedVariables false
namespace Go.Proofs.Ytfalbocgnmlncaa
open Go.RowKit A R
open A.RowT
theorem data_inj {a b : ByteArray} (h : a.data.toList = b.data.toList) : a = b := ByteArray.ext (Array.toList_inj.1 h)
theorem bounds_eq (l : List Rng) : boundsF l = rboundsF l := by
  have h1 : (dat (boundsF l)) = dat (rboundsF l) := rising_unique _ _ (bounds_spec l).1 (rbounds_spec l).1 fun x => by rw [(bounds_spec l).2, (rbounds_spec l).2]
  have : ∀ (a b : List ByteArray), dat a = dat b → a = b := by
    intro a
    induction a with
    | nil => intro b h; cases b with
      | nil => rfl
      | cons y r => simp [dat] at h
    | cons x l ih => intro b h; cases b with
      | nil => simp [dat] at h
      | cons y r =>
        have h2 := List.cons.inj (show x.data.toList :: dat l = y.data.toList :: dat r from h)
        rw [data_inj h2.1, ih r h2.2]
  exact this _ _ h1
set_option maxRecDepth 100000 in
set_option maxHeartbeats 1000000 in
theorem rparts_a (c d : SRow) (hc : T.Ahead c.parents) (hd : T.Ahead d.parents) : ACall Try.prog 19 [.row c.row, .row d.row] (.sl 2 ((T.partsF c d).map Rng.row)) := by
  refine ACall_enter (fun _ _ => by kernel_rfl) Try.func19 rfl Try.ntmps19 Try.results19 (Nat.le_of_ble_eq_true rfl) (fun hok M0 w0 hnl => ?_)
  refine Aw_seq ?_
  refine Aw_region ?_
  refine Al_pu (Pu_boxN rfl rfl) rfl rfl (by decide) (by kernel_rfl) ?_
  refine Al_pu (Pu_boxN rfl rfl) rfl rfl (by decide) (by kernel_rfl) ?_
  refine Al_pu (Pu_move (.inr rfl) (by conv => lhs; whnf)) rfl rfl (by decide) (by kernel_rfl) ?_
  refine Al_nil ?_
  refine Aw_seq ?_
  refine Aw_region ?_
  refine Al_pu (Pu_loadN rfl Try.isAgg29 Try.sizeOf29 rfl (Nat.le_of_ble_eq_true rfl)) rfl rfl (by decide) (by kernel_rfl) ?_
  refine Al_pu (Pu_loadN rfl Try.isAgg29 Try.sizeOf29 rfl (Nat.le_of_ble_eq_true rfl)) rfl rfl (by decide) (by kernel_rfl) ?_
  refine Al_pu (Pu_call (rfits_a c d hc hd) rfl ⟨Sub.rfl, Sub.rfl, trivial⟩) rfl rfl (by decide) (by kernel_rfl) ?_
  refine Al_pu (Pu_move (.inr rfl) (by conv => lhs; whnf)) rfl rfl (by decide) (by kernel_rfl) ?_
  refine Al_nil ?_
  refine Aw_seq ?_
  refine Aw_seq ?_
  refine Aw_region ?_
  refine Al_pu (Pu_move (.inl rfl) (by conv => lhs; whnf)) rfl rfl (by decide) (by kernel_rfl) ?_
  refine Al_pu (Pu_not rfl rfl) rfl rfl (by decide) (by kernel_rfl) ?_
  refine Al_nil ?_
  refine Aw_cond rfl (fun h15 => ?_) (fun h15 => ?_)
  · skip
    have hf : T.fits c d = false := by simpa using h15
    refine Aw_seq ?_
    refine Aw_region ?_
    refine Al_pu (Pu_move (.inr rfl) (by conv => lhs; whnf)) rfl rfl (by decide) (by kernel_rfl) ?_
    refine Al_nil ?_
    refine Aw_ret ?_
    have e : T.partsF c d = [] := by unfold T.partsF; rw [hf]; rfl
    rw [e]; exact Sub.nil -- ret 0
  · skip
    have hf : T.fits c d = true := by simpa using h15
    have hf2 := hf
    unfold T.fits at hf2
    simp only [Bool.and_eq_true] at hf2
    have l1 := (S.shape_facts (T.ok_facts hf2.1.1).1).2.2.1
    have l2 := (S.shape_facts (T.ok_facts hf2.1.2).1).2.2.1
    have l3 : (c.ranges ++ d.ranges).length ≤ 100 := by rw [List.length_append]; omega
    have l4 := boundsF_len (c.ranges ++ d.ranges)
    have hps : T.partsF c d = T.parts (boundsF (c.ranges ++ d.ranges)) := by unfold T.partsF; rw [if_pos hf]
    rw [bounds_eq] at l4 hps
    refine Aw_skip ?_
    refine Aw_seq ?_
    refine Aw_region ?_
    refine Al_pu (Pu_move (.inr rfl) (by conv => lhs; whnf)) rfl rfl (by decide) (by kernel_rfl) ?_
    refine Al_nil ?_
    refine Aw_seq ?_
    refine Aw_own (j := 6) (k := 6) (T := 35) (n := 2) rfl (fun g0 => ?_)
    refine Aw_region ?_
    refine Al_pu (Pu_move (.inl rfl) (by conv => lhs; whnf)) rfl rfl (by decide) (by kernel_rfl) ?_
    refine Al_pu (Pu_field 0 rfl Try.underlying29 rfl rfl Try.sizeOf27 rfl) rfl rfl (by decide) (by kernel_rfl) ?_
    refine Al_pu (Pu_load1 rfl Try.isAgg27 rfl rfl) rfl rfl (by decide) (by kernel_rfl) ?_
    refine Al_append rfl rfl rfl (by decide) (by kernel_rfl) elem27 (by decide) Try.sizeOf35 rfl rfl rfl (by simp; omega) (by decide) (fun g19 => ?_)
    refine Al_pu (Pu_move (.inr rfl) (by conv => lhs; whnf)) rfl rfl (by decide) (by kernel_rfl) ?_
    refine Al_nil ?_
    refine Aw_seq ?_
    refine Aw_region ?_
    refine Al_pu (Pu_move (.inl rfl) (by conv => lhs; whnf)) rfl rfl (by decide) (by kernel_rfl) ?_
    refine Al_pu (Pu_field 0 rfl Try.underlying29 rfl rfl Try.sizeOf27 rfl) rfl rfl (by decide) (by kernel_rfl) ?_
    refine Al_pu (Pu_load1 rfl Try.isAgg27 rfl rfl) rfl rfl (by decide) (by kernel_rfl) ?_
    refine Al_append rfl rfl rfl (by decide) (by kernel_rfl) elem27 (by decide) Try.sizeOf35 rfl rfl rfl (by simp; omega) (by decide) (fun g23 => ?_)
    refine Al_pu (Pu_move (.inr rfl) (by conv => lhs; whnf)) rfl rfl (by decide) (by kernel_rfl) ?_
    refine Al_nil ?_
    refine Aw_seq ?_
    refine Aw_frz hnl (k := 6) [6] rfl ⟨rfl, trivial⟩ ?_
    refine Aw_region ?_
    refine Al_pu (Pu_move (.inl rfl) (by conv => lhs; whnf)) rfl rfl (by decide) (by kernel_rfl) ?_
    refine Al_pu (Pu_call (rbounds_a (c.ranges ++ d.ranges) l3) rfl ⟨Sub.d (by simp), trivial⟩) rfl rfl (by decide) (by kernel_rfl) ?_
    refine Al_pu (Pu_move (.inr rfl) (by conv => lhs; whnf)) rfl rfl (by decide) (by kernel_rfl) ?_
    refine Al_nil ?_
    refine Aw_seq ?_
    generalize hss : rboundsF (c.ranges ++ d.ranges) = ss at *
    refine Aw_region ?_
    refine Al_pu (Pu_move (.inr rfl) (by conv => lhs; whnf)) rfl rfl (by decide) (by kernel_rfl) ?_
    refine Al_nil ?_
    refine Aw_seq ?_
    refine Aw_region ?_
    refine Al_pu (Pu_move (.inr rfl) (by conv => lhs; whnf)) rfl rfl (by decide) (by kernel_rfl) ?_
    refine Al_nil ?_
    refine Aw_seq ?_
    refine Aw_seq ?_
    refine Aw_region ?_
    refine Al_pu (Pu_move (.inr rfl) (by conv => lhs; whnf)) rfl rfl (by decide) (by kernel_rfl) ?_
    refine Al_nil ?_
    refine Aw_block ?_
    refine Aw_own (j := 8) (k := 8) (T := 35) (n := 2) rfl (fun g1 => ?_)
    refine Aw_loopk (ι := Nat × Nat) [7] [] (fun (k, g) => [(10, .d (iv k)), (8, .ow 8 g), (9, .d (tv (T.atF ss k)))]) (fun (k, g) => [(8, g, .arr 35 2 ((T.upto ss k).map Rng.row))]) (fun (k, g) => k ≤ ss.length) (fun (k, g) => ss.length - k) ((0, g1)) (Nat.zero_le _) ⟨Sub.rfl, Sub.rfl, Sub.rfl, trivial⟩ ⟨obeq (by simp [T.upto]), trivial⟩ ?_
    rintro ⟨k, g⟩ hk0
    refine Aw_seq ?_
    refine Aw_seq ?_
    refine Aw_region ?_
    refine Al_pu (Pu_move (.inl rfl) (by conv => lhs; whnf)) rfl rfl (by decide) (by kernel_rfl) ?_
    refine Al_pu (Pu_move (.inl rfl) (by conv => lhs; whnf)) rfl rfl (by decide) (by kernel_rfl) ?_
    refine Al_pu (Pu_len rfl Try.underlying59 rfl (by first | exact List.length_map .. | exact rfl)) rfl rfl (by decide) (by kernel_rfl) ?_
    refine Al_pu (Pu_cmp rfl rfl rfl rfl) rfl rfl (by decide) (by kernel_rfl) ?_
    refine Al_nil ?_
    refine Aw_cond rfl (fun h29 => ?_) (fun h29 => ?_)
    · (try simp only [decide_eq_true_eq, decide_eq_false_iff_not, Bool.and_eq_true, Bool.or_eq_true, Bool.and_eq_false_iff, Bool.or_eq_false_iff, Bool.not_eq_true', Bool.not_eq_false', beq_iff_eq, Bool.not_eq_eq_eq_not, Bool.not_true, Bool.not_false, List.length_map, Bool.and_true, Bool.and_false, Bool.false_and, Bool.true_and, Bool.or_false, Bool.false_or] at h29)
      have hk : k < ss.length := by omega
      have hu := T.upto_len ss k
      refine Aw_skip ?_
      refine Aw_seq ?_
      refine Aw_block ?_
      refine Aw_seq ?_
      refine Aw_region ?_
      refine Al_pu (Pu_move (.inl rfl) (by conv => lhs; whnf)) rfl rfl (by decide) (by kernel_rfl) ?_
      refine Al_pu (Pu_move (.inl rfl) (by conv => lhs; whnf)) rfl rfl (by decide) (by kernel_rfl) ?_
      refine Al_pu (Pu_move (.inl rfl) (by conv => lhs; whnf)) rfl rfl (by decide) (by kernel_rfl) ?_
      refine Al_pu (Pu_move (.inl rfl) (by conv => lhs; whnf)) rfl rfl (by decide) (by kernel_rfl) ?_
      refine Al_pu (Pu_index rfl Try.underlying59 Try.sizeOf9 rfl rfl (rfl) (mapget hk)) rfl rfl (by decide) (by kernel_rfl) ?_
      refine Al_pu (Pu_load1 rfl Try.isAgg9 rfl rfl) rfl rfl (by decide) (by kernel_rfl) ?_
      refine Al_pu (Pu_build (aa := [(0, _), (1, _)]) rfl Try.underlying35 Try.zeroValue35 (places35 Try.underlying35) (by kernel_rfl) ⟨rfl, rfl, rfl, rfl, rfl, rfl, trivial⟩ rfl) rfl rfl (by decide) (by kernel_rfl) ?_
      refine Al_pu (Pu_slice1 rfl Try.underlying27 Try.sizeOf35 Try.zeroValue35 rfl (by decide) (by decide) (by kernel_rfl) rfl rfl rfl) rfl rfl (by decide) (by kernel_rfl) ?_
      refine Al_append rfl rfl rfl (by decide) (by kernel_rfl) elem27 (by decide) Try.sizeOf35 rfl rfl rfl (by rw [List.length_map]; simp; omega) (by decide) (fun g40 => ?_)
      refine Al_pu (Pu_move (.inr rfl) (by conv => lhs; whnf)) rfl rfl (by decide) (by kernel_rfl) ?_
      refine Al_nil ?_
      refine Aw_region ?_
      refine Al_pu (Pu_move (.inl rfl) (by conv => lhs; whnf)) rfl rfl (by decide) (by kernel_rfl) ?_
      refine Al_pu (Pu_move (.inl rfl) (by conv => lhs; whnf)) rfl rfl (by decide) (by kernel_rfl) ?_
      refine Al_pu (Pu_index rfl Try.underlying59 Try.sizeOf9 rfl rfl (rfl) (mapget hk)) rfl rfl (by decide) (by kernel_rfl) ?_
      refine Al_pu (Pu_load1 rfl Try.isAgg9 rfl rfl) rfl rfl (by decide) (by kernel_rfl) ?_
      refine Al_pu (Pu_move (.inr rfl) (by conv => lhs; whnf)) rfl rfl (by decide) (by kernel_rfl) ?_
      refine Al_nil ?_
      refine Aw_region ?_
      refine Al_pu (Pu_move (.inl rfl) (by conv => lhs; whnf)) rfl rfl (by decide) (by kernel_rfl) ?_
      refine Al_pu (Pu_add rfl rfl rfl (fun h1 h2 => by simp only [A.inI, A.maxI] at *; omega)) rfl rfl (by decide) (by kernel_rfl) ?_
      refine Al_pu (Pu_move (.inr rfl) (by conv => lhs; whnf)) rfl rfl (by decide) (by kernel_rfl) ?_
      refine Al_nil ?_
      exact ⟨(k + 1, g40), by omega, by simp only []; omega, Le.ov ⟨Sub.num (by omega), Sub.rfl, Sub.str (by simp [T.atF, hk]), trivial⟩ ⟨Sub.rfl, trivial⟩ ⟨obeq (by rw [T.upto_succ]; simp [A.cellsA, Rng.row, hk]), trivial⟩ trivial⟩ -- loop 0 next.0
    · (try simp only [decide_eq_true_eq, decide_eq_false_iff_not, Bool.and_eq_true, Bool.or_eq_true, Bool.and_eq_false_iff, Bool.or_eq_false_iff, Bool.not_eq_true', Bool.not_eq_false', beq_iff_eq, Bool.not_eq_eq_eq_not, Bool.not_true, Bool.not_false, List.length_map, Bool.and_true, Bool.and_false, Bool.false_and, Bool.true_and, Bool.or_false, Bool.false_or] at h29)
      obtain rfl : k = ss.length := by omega
      have hu := T.upto_len ss ss.length
      refine Aw_exit ?_
      refine Aw_seq ?_
      refine Aw_region ?_
      refine Al_pu (Pu_move (.inl rfl) (by conv => lhs; whnf)) rfl rfl (by decide) (by kernel_rfl) ?_
      refine Al_pu (Pu_move (.inl rfl) (by conv => lhs; whnf)) rfl rfl (by decide) (by kernel_rfl) ?_
      refine Al_pu (Pu_build (aa := [(0, _)]) rfl Try.underlying35 Try.zeroValue35 (places35 Try.underlying35) (by kernel_rfl) ⟨rfl, rfl, rfl, trivial⟩ rfl) rfl rfl (by decide) (by kernel_rfl) ?_
      refine Al_pu (Pu_slice1 rfl Try.underlying27 Try.sizeOf35 Try.zeroValue35 rfl (by decide) (by decide) (by kernel_rfl) rfl rfl rfl) rfl rfl (by decide) (by kernel_rfl) ?_
      refine Al_append rfl rfl rfl (by decide) (by kernel_rfl) elem27 (by decide) Try.sizeOf35 rfl rfl rfl (by rw [List.length_map]; simp; omega) (by decide) (fun g49 => ?_)
      refine Al_pu (Pu_move (.inr rfl) (by conv => lhs; whnf)) rfl rfl (by decide) (by kernel_rfl) ?_
      refine Al_nil ?_
      refine Aw_frz hnl (k := 8) [4] rfl ⟨rfl, trivial⟩ ?_
      refine Aw_ret ?_
      exact Sub.d (by rw [hps, T.parts_eq]; simp [A.cellsA, Rng.row]) -- ret 1
theorem T.bit_out {c : SRow} (h : T.ok c = true) (key : ByteArray) {s : Nat} (hs : c.parents.length ≤ s) : T.bit (T.owners c key) (s : Nat) = false := by
  have hlt : T.owners c key < 2 ^ c.parents.length := by
    by_cases hf : findR c.ranges key < 0
    · unfold T.owners; rw [if_pos h, if_pos hf]; exact Nat.pow_pos (by omega)
    · obtain ⟨k, h1, h2, h3, h4, h5⟩ := T.shape_owner h hf
      have := ((T.ok_facts h).2 _ (List.getElem_mem h2)).2
      rw [← h5] at this
      have h3 : ((2 ^ c.parents.length : Nat) : Int) = (2 : Int) ^ c.parents.length := by rw [Int.natCast_pow]; rfl
      omega
  have h2 : T.owners c key < 2 ^ s := Nat.lt_of_lt_of_le hlt (Nat.pow_le_pow_right (by omega) hs)
  unfold T.bit
  rw [Int.toNat_natCast, Nat.div_eq_of_lt h2]
  simp
theorem T.moves_six {c d : SRow} (h : T.ok d = true) (r : Rng) : T.movesOf c d 6 r = T.movesOf c d d.parents.length r := by
  have hn := (S.shape_facts (T.ok_facts h).1).2.1
  have : ∀ m, d.parents.length + m ≤ 6 → T.movesOf c d (d.parents.length + m) r = T.movesOf c d d.parents.length r := by
    intro m
    induction m with
    | zero => intro _; rfl
    | succ m ih =>
      intro hm
      rw [show d.parents.length + (m + 1) = (d.parents.length + m) + 1 from by omega, T.movesOf_succ, ih (by omega)]
      have : T.gets c d r (d.parents.length + m) = false := by unfold T.gets; rw [T.bit_out h _ (by omega)]; rfl
      rw [this]; simp
  have := this (6 - d.parents.length) (by omega)
  rwa [show d.parents.length + (6 - d.parents.length) = 6 from by omega] at this
theorem T.plan_six (c d : SRow) : T.planL c d 6 (T.partsF c d) = T.planF c d := by
  unfold T.planF
  by_cases hf : T.fits c d = true
  · unfold T.planL
    have hf2 := hf
    unfold T.fits at hf2
    simp only [Bool.and_eq_true] at hf2
    congr 1
    funext r
    exact T.moves_six hf2.1.2 r
  · unfold T.partsF
    rw [if_neg hf]; rfl
set_option maxRecDepth 100000 in
set_option maxHeartbeats 1000000 in
theorem rplan_a (c d : SRow) (hc : T.Ahead c.parents) (hd : T.Ahead d.parents) : ACall Try.prog 21 [.row c.row, .row d.row] (.sl 4 ((T.planF c d).map Mv.row)) := by
  refine ACall_enter (fun _ _ => by kernel_rfl) Try.func21 rfl Try.ntmps21 Try.results21 (Nat.le_of_ble_eq_true rfl) (fun hok M0 w0 hnl => ?_)
  have hpl := T.partsF_len c d
  refine Aw_seq ?_
  refine Aw_region ?_
  refine Al_pu (Pu_boxN rfl rfl) rfl rfl (by decide) (by kernel_rfl) ?_
  refine Al_pu (Pu_boxN rfl rfl) rfl rfl (by decide) (by kernel_rfl) ?_
  refine Al_pu (Pu_move (.inr rfl) (by conv => lhs; whnf)) rfl rfl (by decide) (by kernel_rfl) ?_
  refine Al_nil ?_
  refine Aw_seq ?_
  refine Aw_region ?_
  refine Al_pu (Pu_move (.inr rfl) (by conv => lhs; whnf)) rfl rfl (by decide) (by kernel_rfl) ?_
  refine Al_nil ?_
  refine Aw_seq ?_
  refine Aw_region ?_
  refine Al_pu (Pu_loadN rfl Try.isAgg29 Try.sizeOf29 rfl (Nat.le_of_ble_eq_true rfl)) rfl rfl (by decide) (by kernel_rfl) ?_
  refine Al_pu (Pu_loadN rfl Try.isAgg29 Try.sizeOf29 rfl (Nat.le_of_ble_eq_true rfl)) rfl rfl (by decide) (by kernel_rfl) ?_
  refine Al_pu (Pu_call (rparts_a c d hc hd) rfl ⟨Sub.rfl, Sub.rfl, trivial⟩) rfl rfl (by decide) (by kernel_rfl) ?_
  refine Al_pu (Pu_move (.inr rfl) (by conv => lhs; whnf)) rfl rfl (by decide) (by kernel_rfl) ?_
  refine Al_nil ?_
  refine Aw_seq ?_
  refine Aw_seq ?_
  refine Aw_region ?_
  refine Al_pu (Pu_move (.inr rfl) (by conv => lhs; whnf)) rfl rfl (by decide) (by kernel_rfl) ?_
  refine Al_nil ?_
  refine Aw_block ?_
  refine Aw_own (j := 5) (k := 5) (T := 37) (n := 4) rfl (fun g0 => ?_)
  refine Aw_loopk (ι := Nat × Nat) [2, 3, 6] [] (fun (k, g) => [(7, .d (iv k)), (5, .ow 5 g)]) (fun (k, g) => [(5, g, .arr 37 4 ((T.planL c d 6 ((T.partsF c d).take k)).map Mv.row))]) (fun (k, g) => k ≤ (T.partsF c d).length) (fun (k, g) => (T.partsF c d).length - k) ((0, g0)) (Nat.zero_le _) ⟨Sub.rfl, Sub.rfl, trivial⟩ ⟨rfl, trivial⟩ ?_
  rintro ⟨k, g⟩ hk0
  refine Aw_seq ?_
  refine Aw_seq ?_
  refine Aw_region ?_
  refine Al_pu (Pu_move (.inl rfl) (by conv => lhs; whnf)) rfl rfl (by decide) (by kernel_rfl) ?_
  refine Al_pu (Pu_move (.inl rfl) (by conv => lhs; whnf)) rfl rfl (by decide) (by kernel_rfl) ?_
  refine Al_pu (Pu_len rfl Try.underlying27 rfl (by first | exact List.length_map .. | exact rfl)) rfl rfl (by decide) (by kernel_rfl) ?_
  refine Al_pu (Pu_cmp rfl rfl rfl rfl) rfl rfl (by decide) (by kernel_rfl) ?_
  refine Al_nil ?_
  refine Aw_cond rfl (fun h17 => ?_) (fun h17 => ?_)
  · (try simp only [decide_eq_true_eq, decide_eq_false_iff_not, Bool.and_eq_true, Bool.or_eq_true, Bool.and_eq_false_iff, Bool.or_eq_false_iff, Bool.not_eq_true', Bool.not_eq_false', beq_iff_eq, Bool.not_eq_eq_eq_not, Bool.not_true, Bool.not_false, List.length_map, Bool.and_true, Bool.and_false, Bool.false_and, Bool.true_and, Bool.or_false, Bool.false_or] at h17)
    have hk : k < (T.partsF c d).length := by omega
    have hn := T.planL_take_len c d 6 (T.partsF c d) k
    refine Aw_skip ?_
    refine Aw_seq ?_
    refine Aw_block ?_
    refine Aw_seq ?_
    refine Aw_region ?_
    refine Al_pu (Pu_move (.inr rfl) (by conv => lhs; whnf)) rfl rfl (by decide) (by kernel_rfl) ?_
    refine Al_nil ?_
    refine Aw_block ?_
    refine Aw_loopk (ι := Nat × Nat) [2, 3, 6, 7] [] (fun (s, g) => [(8, .d (iv s)), (5, .ow 5 g)]) (fun (s, g) => [(5, g, .arr 37 4 ((T.planL c d 6 ((T.partsF c d).take k) ++ T.movesOf c d s ((T.partsF c d)[k]'hk)).map Mv.row))]) (fun (s, g) => s ≤ 6) (fun (s, g) => 6 - s) ((0, g)) (Nat.zero_le _) ⟨Sub.rfl, Sub.rfl, trivial⟩ ⟨obeq (by simp [T.movesOf]), trivial⟩ ?_
    rintro ⟨s, g⟩ hk1
    refine Aw_seq ?_
    refine Aw_seq ?_
    refine Aw_region ?_
    refine Al_pu (Pu_move (.inl rfl) (by conv => lhs; whnf)) rfl rfl (by decide) (by kernel_rfl) ?_
    refine Al_pu (Pu_cmp rfl rfl rfl rfl) rfl rfl (by decide) (by kernel_rfl) ?_
    refine Al_nil ?_
    refine Aw_cond rfl (fun h21 => ?_) (fun h21 => ?_)
    · (try simp only [decide_eq_true_eq, decide_eq_false_iff_not, Bool.and_eq_true, Bool.or_eq_true, Bool.and_eq_false_iff, Bool.or_eq_false_iff, Bool.not_eq_true', Bool.not_eq_false', beq_iff_eq, Bool.not_eq_eq_eq_not, Bool.not_true, Bool.not_false, List.length_map, Bool.and_true, Bool.and_false, Bool.false_and, Bool.true_and, Bool.or_false, Bool.false_or] at h21)
      have hs : s < 6 := by omega
      have hm := T.movesOf_len c d s ((T.partsF c d)[k]'hk)
      refine Aw_skip ?_
      -- join 0: live [2, 3, 5, 6, 7, 8], turned [5]
      refine Aw_seq ?_
      refine Aw_block ?_
      refine Aw_seq ?_
      refine Aw_draw 8 (by kernel_rfl) (by kernel_rfl) ?_
      refine Dr_pu (Pu_loadN rfl Try.isAgg29 Try.sizeOf29 rfl (Nat.le_of_ble_eq_true rfl)) rfl rfl ?_
      refine Dr_pu (Pu_move (.inl rfl) (by conv => lhs; whnf)) rfl rfl ?_
      refine Dr_pu (Pu_move (.inl rfl) (by conv => lhs; whnf)) rfl rfl ?_
      refine Dr_pu (Pu_move (.inl rfl) (by conv => lhs; whnf)) rfl rfl ?_
      refine Dr_pu (Pu_index rfl Try.underlying27 Try.sizeOf35 rfl rfl (rfl) (mapget hk)) rfl rfl ?_
      refine Dr_pu (Pu_field 0 rfl Try.underlying35 rfl rfl Try.sizeOf9 rfl) rfl rfl ?_
      refine Dr_pu (Pu_load1 rfl Try.isAgg9 rfl rfl) rfl rfl ?_
      refine Dr_pu (Pu_call (rowns_a c s ((T.partsF c d)[k]'hk).f) rfl ⟨Sub.rfl, Sub.rfl, Sub.rfl, trivial⟩) rfl rfl ?_
      refine Dr_nil ?_
      refine Al_pu (Pu_move (.inr rfl) (by conv => lhs; whnf)) rfl rfl (by decide) (by kernel_rfl) ?_
      refine Al_nil ?_
      refine Aw_seq ?_
      refine Aw_draw 8 (by kernel_rfl) (by kernel_rfl) ?_
      refine Dr_pu (Pu_loadN rfl Try.isAgg29 Try.sizeOf29 rfl (Nat.le_of_ble_eq_true rfl)) rfl rfl ?_
      refine Dr_pu (Pu_move (.inl rfl) (by conv => lhs; whnf)) rfl rfl ?_
      refine Dr_pu (Pu_move (.inl rfl) (by conv => lhs; whnf)) rfl rfl ?_
      refine Dr_pu (Pu_move (.inl rfl) (by conv => lhs; whnf)) rfl rfl ?_
      refine Dr_pu (Pu_index rfl Try.underlying27 Try.sizeOf35 rfl rfl (rfl) (mapget hk)) rfl rfl ?_
      refine Dr_pu (Pu_field 0 rfl Try.underlying35 rfl rfl Try.sizeOf9 rfl) rfl rfl ?_
      refine Dr_pu (Pu_load1 rfl Try.isAgg9 rfl rfl) rfl rfl ?_
      refine Dr_pu (Pu_call (rowns_a d s ((T.partsF c d)[k]'hk).f) rfl ⟨Sub.rfl, Sub.rfl, Sub.rfl, trivial⟩) rfl rfl ?_
      refine Dr_nil ?_
      refine Al_pu (Pu_move (.inr rfl) (by conv => lhs; whnf)) rfl rfl (by decide) (by kernel_rfl) ?_
      refine Al_nil ?_
      refine Aw_seq ?_
      refine Aw_region ?_
      refine Al_pu (Pu_move (.inl rfl) (by conv => lhs; whnf)) rfl rfl (by decide) (by kernel_rfl) ?_
      refine Al_pu (Pu_move (.inl rfl) (by conv => lhs; whnf)) rfl rfl (by decide) (by kernel_rfl) ?_
      refine Al_st (St_gd [] rfl rfl rfl rfl trivial (fun hg42 => by exact Pu_move (.inl rfl) (by conv => lhs; whnf))) rfl (by decide) (by kernel_rfl) (by intro j b oj dj h1 h2 h3; cases h1; cases h2; cases h3; decide) ?_
      refine Al_st (St_gd [42] rfl rfl rfl rfl ⟨⟨_, rfl⟩, trivial⟩ (fun hg43 => Pu_not rfl rfl)) rfl (by decide) (by kernel_rfl) (by intro j b oj dj h1 h2 h3; cases h1; cases h2; cases h3; decide) ?_
      refine Al_pu (Pu_and rfl rfl rfl rfl) rfl rfl (by decide) (by kernel_rfl) ?_
      refine Al_nil ?_
      refine Aw_cond rfl (fun h44 => ?_) (fun h44 => ?_)
      · skip
        have hg : T.gets c d ((T.partsF c d)[k]'hk) s = true := h44
        refine Aw_draw 15 (by kernel_rfl) (by kernel_rfl) ?_
        refine Dr_pu (Pu_move (.inl rfl) (by conv => lhs; whnf)) rfl rfl ?_
        refine Dr_pu (Pu_move (.inl rfl) (by conv => lhs; whnf)) rfl rfl ?_
        refine Dr_pu (Pu_loadN rfl Try.isAgg29 Try.sizeOf29 rfl (Nat.le_of_ble_eq_true rfl)) rfl rfl ?_
        refine Dr_pu (Pu_move (.inl rfl) (by conv => lhs; whnf)) rfl rfl ?_
        refine Dr_pu (Pu_move (.inl rfl) (by conv => lhs; whnf)) rfl rfl ?_
        refine Dr_pu (Pu_index rfl Try.underlying27 Try.sizeOf35 rfl rfl (rfl) (mapget hk)) rfl rfl ?_
        refine Dr_pu (Pu_field 0 rfl Try.underlying35 rfl rfl Try.sizeOf9 rfl) rfl rfl ?_
        refine Dr_pu (Pu_load1 rfl Try.isAgg9 rfl rfl) rfl rfl ?_
        refine Dr_pu (Pu_call (rfirst_a c ((T.partsF c d)[k]'hk).f) rfl ⟨Sub.rfl, Sub.rfl, trivial⟩) rfl rfl ?_
        refine Dr_pu (Pu_move (.inl rfl) (by conv => lhs; whnf)) rfl rfl ?_
        refine Dr_pu (Pu_move (.inl rfl) (by conv => lhs; whnf)) rfl rfl ?_
        refine Dr_pu (Pu_index rfl Try.underlying27 Try.sizeOf35 rfl rfl (rfl) (mapget hk)) rfl rfl ?_
        refine Dr_pu (Pu_loadN rfl Try.isAgg35 Try.sizeOf35 rfl (Nat.le_of_ble_eq_true rfl)) rfl rfl ?_
        refine Dr_pu (Pu_build (aa := [(0, _), (1, _), (2, _)]) rfl Try.underlying37 Try.zeroValue37 (places37 Try.underlying37) (by kernel_rfl) ⟨rfl, rfl, rfl, rfl, rfl, rfl, rfl, rfl, rfl, trivial⟩ rfl) rfl rfl ?_
        refine Dr_pu (Pu_slice1 rfl Try.underlying31 Try.sizeOf37 Try.zeroValue37 rfl (by decide) (by decide) (by kernel_rfl) rfl rfl rfl) rfl rfl ?_
        refine Dr_nil ?_
        refine Al_append rfl rfl rfl (by decide) (by kernel_rfl) elem31 (by decide) Try.sizeOf37 rfl rfl rfl (by rw [List.length_map, List.length_append]; simp; omega) (by decide) (fun g60 => ?_)
        refine Al_pu (Pu_move (.inr rfl) (by conv => lhs; whnf)) rfl rfl (by decide) (by kernel_rfl) ?_
        refine Al_nil ?_
        refine Aw_region ?_
        refine Al_pu (Pu_move (.inl rfl) (by conv => lhs; whnf)) rfl rfl (by decide) (by kernel_rfl) ?_
        refine Al_pu (Pu_add rfl rfl rfl (fun h1 h2 => by simp only [A.inI, A.maxI] at *; omega)) rfl rfl (by decide) (by kernel_rfl) ?_
        refine Al_pu (Pu_move (.inr rfl) (by conv => lhs; whnf)) rfl rfl (by decide) (by kernel_rfl) ?_
        refine Al_nil ?_
        exact ⟨(s + 1, g60), by omega, by simp only []; omega, Le.ov ⟨Sub.num (by omega), Sub.rfl, trivial⟩ ⟨Sub.rfl, Sub.rfl, Sub.rfl, Sub.rfl, trivial⟩ ⟨obeq (by rw [T.movesOf_succ, hg]; simp [A.cellsA, Mv.row, Rng.row]), trivial⟩ trivial⟩ -- loop 1 next.0
      · skip
        have hg : T.gets c d ((T.partsF c d)[k]'hk) s = false := h44
        refine Aw_skip ?_
        refine Aw_region ?_
        refine Al_pu (Pu_move (.inl rfl) (by conv => lhs; whnf)) rfl rfl (by decide) (by kernel_rfl) ?_
        refine Al_pu (Pu_add rfl rfl rfl (fun h1 h2 => by simp only [A.inI, A.maxI] at *; omega)) rfl rfl (by decide) (by kernel_rfl) ?_
        refine Al_pu (Pu_move (.inr rfl) (by conv => lhs; whnf)) rfl rfl (by decide) (by kernel_rfl) ?_
        refine Al_nil ?_
        exact ⟨(s + 1, g), by omega, by simp only []; omega, Le.ov ⟨Sub.num (by omega), Sub.rfl, trivial⟩ ⟨Sub.rfl, Sub.rfl, Sub.rfl, Sub.rfl, trivial⟩ ⟨obeq (by rw [T.movesOf_succ, hg]; simp), trivial⟩ trivial⟩ -- loop 1 next.1
    · (try simp only [decide_eq_true_eq, decide_eq_false_iff_not, Bool.and_eq_true, Bool.or_eq_true, Bool.and_eq_false_iff, Bool.or_eq_false_iff, Bool.not_eq_true', Bool.not_eq_false', beq_iff_eq, Bool.not_eq_eq_eq_not, Bool.not_true, Bool.not_false, List.length_map, Bool.and_true, Bool.and_false, Bool.false_and, Bool.true_and, Bool.or_false, Bool.false_or] at h21)
      obtain rfl : s = 6 := by omega
      refine Aw_exit ?_
      refine Aw_region ?_
      refine Al_pu (Pu_move (.inl rfl) (by conv => lhs; whnf)) rfl rfl (by decide) (by kernel_rfl) ?_
      refine Al_pu (Pu_add rfl rfl rfl (fun h1 h2 => by simp only [A.inI, A.maxI] at *; omega)) rfl rfl (by decide) (by kernel_rfl) ?_
      refine Al_pu (Pu_move (.inr rfl) (by conv => lhs; whnf)) rfl rfl (by decide) (by kernel_rfl) ?_
      refine Al_nil ?_
      exact ⟨(k + 1, g), by omega, by simp only []; omega, Le.ov ⟨Sub.num (by omega), Sub.rfl, trivial⟩ ⟨Sub.rfl, Sub.rfl, Sub.rfl, trivial⟩ ⟨obeq (by rw [T.planL_take _ _ _ _ hk]), trivial⟩ trivial⟩ -- loop 0 next.0
  · (try simp only [decide_eq_true_eq, decide_eq_false_iff_not, Bool.and_eq_true, Bool.or_eq_true, Bool.and_eq_false_iff, Bool.or_eq_false_iff, Bool.not_eq_true', Bool.not_eq_false', beq_iff_eq, Bool.not_eq_eq_eq_not, Bool.not_true, Bool.not_false, List.length_map, Bool.and_true, Bool.and_false, Bool.false_and, Bool.true_and, Bool.or_false, Bool.false_or] at h17)
    have hkk : k = (T.partsF c d).length := by omega
    refine Aw_exit ?_
    refine Aw_seq ?_
    refine Aw_region ?_
    refine Al_pu (Pu_move (.inl rfl) (by conv => lhs; whnf)) rfl rfl (by decide) (by kernel_rfl) ?_
    refine Al_pu (Pu_move (.inr rfl) (by conv => lhs; whnf)) rfl rfl (by decide) (by kernel_rfl) ?_
    refine Al_nil ?_
    refine Aw_frz hnl (k := 5) [4] rfl ⟨rfl, trivial⟩ ?_
    refine Aw_ret ?_
    exact Sub.d (by rw [hkk, List.take_length, T.plan_six]) -- ret 0
set_option maxRecDepth 100000 in
theorem rgains_a (c d : SRow) (hc : T.Ahead c.parents) (hd : T.Ahead d.parents) (s : Int) : ACall Try.prog 23 [.row c.row, .row d.row, iv s] (.sl 2 ((T.gainsL (T.planF c d) s).map Rng.row)) := by
  refine ACall_enter (fun _ _ => by kernel_rfl) Try.func23 rfl Try.ntmps23 Try.results23 (Nat.le_of_ble_eq_true rfl) (fun hok M0 w0 hnl => ?_)
  have hp6 := hd.le
  have hpl := T.partsF_len c d
  have hmul : d.parents.length * (T.partsF c d).length ≤ 6 * 33 := Nat.mul_le_mul hp6 hpl
  have hnn : (T.planF c d).length ≤ 198 := Nat.le_trans (T.planL_len c d _ _) hmul
  refine Aw_seq ?_
  refine Aw_region ?_
  refine Al_pu (Pu_boxN rfl rfl) rfl rfl (by decide) (by kernel_rfl) ?_
  refine Al_pu (Pu_boxN rfl rfl) rfl rfl (by decide) (by kernel_rfl) ?_
  refine Al_pu (Pu_move (.inr rfl) (by conv => lhs; whnf)) rfl rfl (by decide) (by kernel_rfl) ?_
  refine Al_nil ?_
  refine Aw_seq ?_
  refine Aw_region ?_
  refine Al_pu (Pu_move (.inr rfl) (by conv => lhs; whnf)) rfl rfl (by decide) (by kernel_rfl) ?_
  refine Al_nil ?_
  refine Aw_seq ?_
  refine Aw_region ?_
  refine Al_pu (Pu_loadN rfl Try.isAgg29 Try.sizeOf29 rfl (Nat.le_of_ble_eq_true rfl)) rfl rfl (by decide) (by kernel_rfl) ?_
  refine Al_pu (Pu_loadN rfl Try.isAgg29 Try.sizeOf29 rfl (Nat.le_of_ble_eq_true rfl)) rfl rfl (by decide) (by kernel_rfl) ?_
  refine Al_pu (Pu_call (rplan_a c d hc hd) rfl ⟨Sub.rfl, Sub.rfl, trivial⟩) rfl rfl (by decide) (by kernel_rfl) ?_
  refine Al_pu (Pu_move (.inr rfl) (by conv => lhs; whnf)) rfl rfl (by decide) (by kernel_rfl) ?_
  refine Al_nil ?_
  refine Aw_seq ?_
  refine Aw_seq ?_
  refine Aw_region ?_
  refine Al_pu (Pu_move (.inr rfl) (by conv => lhs; whnf)) rfl rfl (by decide) (by kernel_rfl) ?_
  refine Al_nil ?_
  refine Aw_block ?_
  refine Aw_own (j := 7) (k := 7) (T := 35) (n := 2) rfl (fun g0 => ?_)
  refine Aw_loopk (ι := Nat × Nat) [2, 8] [] (fun (k, g) => [(9, .d (iv k)), (7, .ow 7 g)]) (fun (k, g) => [(7, g, .arr 35 2 ((T.gainsL ((T.planF c d).take k) s).map Rng.row))]) (fun (k, g) => k ≤ (T.planF c d).length) (fun (k, g) => (T.planF c d).length - k) ((0, g0)) (Nat.zero_le _) ⟨Sub.rfl, Sub.rfl, trivial⟩ ⟨rfl, trivial⟩ ?_
  rintro ⟨k, g⟩ hk0
  refine Aw_seq ?_
  refine Aw_seq ?_
  refine Aw_region ?_
  refine Al_pu (Pu_move (.inl rfl) (by conv => lhs; whnf)) rfl rfl (by decide) (by kernel_rfl) ?_
  refine Al_pu (Pu_move (.inl rfl) (by conv => lhs; whnf)) rfl rfl (by decide) (by kernel_rfl) ?_
  refine Al_pu (Pu_len rfl Try.underlying31 rfl (by first | exact List.length_map .. | exact rfl)) rfl rfl (by decide) (by kernel_rfl) ?_
  refine Al_pu (Pu_cmp rfl rfl rfl rfl) rfl rfl (by decide) (by kernel_rfl) ?_
  refine Al_nil ?_
  refine Aw_cond rfl (fun h16 => ?_) (fun h16 => ?_)
  · (try simp only [decide_eq_true_eq, decide_eq_false_iff_not, Bool.and_eq_true, Bool.or_eq_true, Bool.and_eq_false_iff, Bool.or_eq_false_iff, Bool.not_eq_true', Bool.not_eq_false', beq_iff_eq, Bool.not_eq_eq_eq_not, Bool.not_true, Bool.not_false, List.length_map, Bool.and_true, Bool.and_false, Bool.false_and, Bool.true_and, Bool.or_false, Bool.false_or] at h16)
    have hk : k < (T.planF c d).length := by omega
    have hgl := T.gainsL_len ((T.planF c d).take k) s
    rw [List.length_take] at hgl
    refine Aw_skip ?_
    -- join 0: live [2, 7, 8, 9], turned [7]
    refine Aw_seq ?_
    refine Aw_block ?_
    refine Aw_seq ?_
    refine Aw_region ?_
    refine Al_pu (Pu_move (.inl rfl) (by conv => lhs; whnf)) rfl rfl (by decide) (by kernel_rfl) ?_
    refine Al_pu (Pu_move (.inl rfl) (by conv => lhs; whnf)) rfl rfl (by decide) (by kernel_rfl) ?_
    refine Al_pu (Pu_index rfl Try.underlying31 Try.sizeOf37 rfl rfl (rfl) (mapget hk)) rfl rfl (by decide) (by kernel_rfl) ?_
    refine Al_pu (Pu_field 0 rfl Try.underlying37 rfl rfl Try.sizeOf3 rfl) rfl rfl (by decide) (by kernel_rfl) ?_
    refine Al_pu (Pu_load1 rfl Try.isAgg3 rfl rfl) rfl rfl (by decide) (by kernel_rfl) ?_
    refine Al_pu (Pu_move (.inl rfl) (by conv => lhs; whnf)) rfl rfl (by decide) (by kernel_rfl) ?_
    refine Al_pu (Pu_cmp rfl rfl rfl rfl) rfl rfl (by decide) (by kernel_rfl) ?_
    refine Al_nil ?_
    refine Aw_cond rfl (fun h25 => ?_) (fun h25 => ?_)
    · (try simp only [decide_eq_true_eq, decide_eq_false_iff_not, Bool.and_eq_true, Bool.or_eq_true, Bool.and_eq_false_iff, Bool.or_eq_false_iff, Bool.not_eq_true', Bool.not_eq_false', beq_iff_eq, Bool.not_eq_eq_eq_not, Bool.not_true, Bool.not_false, List.length_map, Bool.and_true, Bool.and_false, Bool.false_and, Bool.true_and, Bool.or_false, Bool.false_or] at h25)
      refine Aw_region ?_
      refine Al_pu (Pu_move (.inl rfl) (by conv => lhs; whnf)) rfl rfl (by decide) (by kernel_rfl) ?_
      refine Al_pu (Pu_move (.inl rfl) (by conv => lhs; whnf)) rfl rfl (by decide) (by kernel_rfl) ?_
      refine Al_pu (Pu_move (.inl rfl) (by conv => lhs; whnf)) rfl rfl (by decide) (by kernel_rfl) ?_
      refine Al_pu (Pu_index rfl Try.underlying31 Try.sizeOf37 rfl rfl (rfl) (mapget hk)) rfl rfl (by decide) (by kernel_rfl) ?_
      refine Al_pu (Pu_field 2 rfl Try.underlying37 rfl rfl Try.sizeOf35 rfl) rfl rfl (by decide) (by kernel_rfl) ?_
      refine Al_pu (Pu_loadN rfl Try.isAgg35 Try.sizeOf35 rfl (Nat.le_of_ble_eq_true rfl)) rfl rfl (by decide) (by kernel_rfl) ?_
      refine Al_pu (Pu_slice1 rfl Try.underlying27 Try.sizeOf35 Try.zeroValue35 rfl (by decide) (by decide) (by kernel_rfl) rfl rfl rfl) rfl rfl (by decide) (by kernel_rfl) ?_
      refine Al_append rfl rfl rfl (by decide) (by kernel_rfl) elem27 (by decide) Try.sizeOf35 rfl rfl rfl (by rw [List.length_map]; simp; omega) (by decide) (fun g33 => ?_)
      refine Al_pu (Pu_move (.inr rfl) (by conv => lhs; whnf)) rfl rfl (by decide) (by kernel_rfl) ?_
      refine Al_nil ?_
      refine Aw_region ?_
      refine Al_pu (Pu_move (.inl rfl) (by conv => lhs; whnf)) rfl rfl (by decide) (by kernel_rfl) ?_
      refine Al_pu (Pu_add rfl rfl rfl (fun h1 h2 => by simp only [A.inI, A.maxI] at *; omega)) rfl rfl (by decide) (by kernel_rfl) ?_
      refine Al_pu (Pu_move (.inr rfl) (by conv => lhs; whnf)) rfl rfl (by decide) (by kernel_rfl) ?_
      refine Al_nil ?_
      exact ⟨(k + 1, g33), by omega, by simp only []; omega, Le.ov ⟨Sub.num (by omega), Sub.rfl, trivial⟩ ⟨Sub.rfl, Sub.rfl, trivial⟩ ⟨obeq (by rw [T.gainsL_take _ _ hk, if_pos h25]; simp [A.cellsA, Rng.row, Mv.row]), trivial⟩ trivial⟩ -- loop 0 next.0
    · (try simp only [decide_eq_true_eq, decide_eq_false_iff_not, Bool.and_eq_true, Bool.or_eq_true, Bool.and_eq_false_iff, Bool.or_eq_false_iff, Bool.not_eq_true', Bool.not_eq_false', beq_iff_eq, Bool.not_eq_eq_eq_not, Bool.not_true, Bool.not_false, List.length_map, Bool.and_true, Bool.and_false, Bool.false_and, Bool.true_and, Bool.or_false, Bool.false_or] at h25)
      refine Aw_skip ?_
      refine Aw_region ?_
      refine Al_pu (Pu_move (.inl rfl) (by conv => lhs; whnf)) rfl rfl (by decide) (by kernel_rfl) ?_
      refine Al_pu (Pu_add rfl rfl rfl (fun h1 h2 => by simp only [A.inI, A.maxI] at *; omega)) rfl rfl (by decide) (by kernel_rfl) ?_
      refine Al_pu (Pu_move (.inr rfl) (by conv => lhs; whnf)) rfl rfl (by decide) (by kernel_rfl) ?_
      refine Al_nil ?_
      exact ⟨(k + 1, g), by omega, by simp only []; omega, Le.ov ⟨Sub.num (by omega), Sub.rfl, trivial⟩ ⟨Sub.rfl, Sub.rfl, trivial⟩ ⟨obeq (by rw [T.gainsL_take _ _ hk, if_neg h25]; simp), trivial⟩ trivial⟩ -- loop 0 next.1
  · (try simp only [decide_eq_true_eq, decide_eq_false_iff_not, Bool.and_eq_true, Bool.or_eq_true, Bool.and_eq_false_iff, Bool.or_eq_false_iff, Bool.not_eq_true', Bool.not_eq_false', beq_iff_eq, Bool.not_eq_eq_eq_not, Bool.not_true, Bool.not_false, List.length_map, Bool.and_true, Bool.and_false, Bool.false_and, Bool.true_and, Bool.or_false, Bool.false_or] at h16)
    have hkk : k = (T.planF c d).length := by omega
    refine Aw_exit ?_
    refine Aw_seq ?_
    refine Aw_region ?_
    refine Al_pu (Pu_move (.inl rfl) (by conv => lhs; whnf)) rfl rfl (by decide) (by kernel_rfl) ?_
    refine Al_pu (Pu_move (.inr rfl) (by conv => lhs; whnf)) rfl rfl (by decide) (by kernel_rfl) ?_
    refine Al_nil ?_
    refine Aw_frz hnl (k := 7) [6] rfl ⟨rfl, trivial⟩ ?_
    refine Aw_ret ?_
    exact Sub.d (by rw [hkk, List.take_length]) -- ret 0
set_option maxRecDepth 100000 in
theorem samemoves_a (l : List Mv) (hl : l.length ≤ 1000000) : ACall Try.prog 20 [.sl 4 (l.map Mv.row), .sl 4 (l.map Mv.row)] (bv true) := by
  refine ACall_enter (fun _ _ => by kernel_rfl) Try.func20 rfl Try.ntmps20 Try.results20 (Nat.le_of_ble_eq_true rfl) (fun hok M0 w0 hnl => ?_)
  refine Aw_seq ?_
  refine Aw_region ?_
  refine Al_pu (Pu_move (.inr rfl) (by conv => lhs; whnf)) rfl rfl (by decide) (by kernel_rfl) ?_
  refine Al_nil ?_
  refine Aw_seq ?_
  refine Aw_seq ?_
  refine Aw_region ?_
  refine Al_pu (Pu_move (.inl rfl) (by conv => lhs; whnf)) rfl rfl (by decide) (by kernel_rfl) ?_
  refine Al_pu (Pu_len rfl Try.underlying31 rfl (by first | exact List.length_map .. | exact rfl)) rfl rfl (by decide) (by kernel_rfl) ?_
  refine Al_pu (Pu_move (.inl rfl) (by conv => lhs; whnf)) rfl rfl (by decide) (by kernel_rfl) ?_
  refine Al_pu (Pu_len rfl Try.underlying31 rfl (by first | exact List.length_map .. | exact rfl)) rfl rfl (by decide) (by kernel_rfl) ?_
  refine Al_pu (Pu_cmp rfl rfl rfl rfl) rfl rfl (by decide) (by kernel_rfl) ?_
  refine Al_nil ?_
  refine Aw_cond rfl (fun h10 => ?_) (fun h10 => ?_)
  · (try simp only [decide_eq_true_eq, decide_eq_false_iff_not, Bool.and_eq_true, Bool.or_eq_true, Bool.and_eq_false_iff, Bool.or_eq_false_iff, Bool.not_eq_true', Bool.not_eq_false', beq_iff_eq, Bool.not_eq_eq_eq_not, Bool.not_true, Bool.not_false, List.length_map, Bool.and_true, Bool.and_false, Bool.false_and, Bool.true_and, Bool.or_false, Bool.false_or] at h10)
    exfalso; simp at h10
  · (try simp only [decide_eq_true_eq, decide_eq_false_iff_not, Bool.and_eq_true, Bool.or_eq_true, Bool.and_eq_false_iff, Bool.or_eq_false_iff, Bool.not_eq_true', Bool.not_eq_false', beq_iff_eq, Bool.not_eq_eq_eq_not, Bool.not_true, Bool.not_false, List.length_map, Bool.and_true, Bool.and_false, Bool.false_and, Bool.true_and, Bool.or_false, Bool.false_or] at h10)
    refine Aw_skip ?_
    refine Aw_seq ?_
    refine Aw_seq ?_
    refine Aw_region ?_
    refine Al_pu (Pu_move (.inr rfl) (by conv => lhs; whnf)) rfl rfl (by decide) (by kernel_rfl) ?_
    refine Al_nil ?_
    refine Aw_block ?_
    refine Aw_loopk (ι := Nat) [0, 1] [] (fun k => [(5, .d (iv k))]) (fun k => []) (fun k => k ≤ l.length) (fun k => l.length - k) (0) (Nat.zero_le _) ⟨Sub.rfl, trivial⟩ trivial ?_
    rintro k hk0
    refine Aw_seq ?_
    refine Aw_seq ?_
    refine Aw_region ?_
    refine Al_pu (Pu_move (.inl rfl) (by conv => lhs; whnf)) rfl rfl (by decide) (by kernel_rfl) ?_
    refine Al_pu (Pu_move (.inl rfl) (by conv => lhs; whnf)) rfl rfl (by decide) (by kernel_rfl) ?_
    refine Al_pu (Pu_len rfl Try.underlying31 rfl (by first | exact List.length_map .. | exact rfl)) rfl rfl (by decide) (by kernel_rfl) ?_
    refine Al_pu (Pu_cmp rfl rfl rfl rfl) rfl rfl (by decide) (by kernel_rfl) ?_
    refine Al_nil ?_
    refine Aw_cond rfl (fun h14 => ?_) (fun h14 => ?_)
    · (try simp only [decide_eq_true_eq, decide_eq_false_iff_not, Bool.and_eq_true, Bool.or_eq_true, Bool.and_eq_false_iff, Bool.or_eq_false_iff, Bool.not_eq_true', Bool.not_eq_false', beq_iff_eq, Bool.not_eq_eq_eq_not, Bool.not_true, Bool.not_false, List.length_map, Bool.and_true, Bool.and_false, Bool.false_and, Bool.true_and, Bool.or_false, Bool.false_or] at h14)
      have hk : k < l.length := by omega
      refine Aw_skip ?_
      refine Aw_seq ?_
      refine Aw_block ?_
      refine Aw_seq ?_
      refine Aw_draw 9 (by kernel_rfl) (by kernel_rfl) ?_
      refine Dr_pu (Pu_move (.inl rfl) (by conv => lhs; whnf)) rfl rfl ?_
      refine Dr_pu (Pu_move (.inl rfl) (by conv => lhs; whnf)) rfl rfl ?_
      refine Dr_pu (Pu_index rfl Try.underlying31 Try.sizeOf37 rfl rfl (rfl) (mapget hk)) rfl rfl ?_
      refine Dr_pu (Pu_loadN rfl Try.isAgg37 Try.sizeOf37 rfl (Nat.le_of_ble_eq_true rfl)) rfl rfl ?_
      refine Dr_pu (Pu_move (.inl rfl) (by conv => lhs; whnf)) rfl rfl ?_
      refine Dr_pu (Pu_move (.inl rfl) (by conv => lhs; whnf)) rfl rfl ?_
      refine Dr_pu (Pu_index rfl Try.underlying31 Try.sizeOf37 rfl rfl (rfl) (mapget hk)) rfl rfl ?_
      refine Dr_pu (Pu_loadN rfl Try.isAgg37 Try.sizeOf37 rfl (Nat.le_of_ble_eq_true rfl)) rfl rfl ?_
      refine Dr_pu (Pu_eqrow [.int .i64 _, .int .i64 _, .string _, .string _] [.int .i64 _, .int .i64 _, .string _, .string _] (fun w => nev37 _ _ _ _ _ _ _ _ _ _ w) rfl rfl rfl) rfl rfl ?_
      refine Dr_nil ?_
      refine Al_nil ?_
      refine Aw_cond rfl (fun h25 => ?_) (fun h25 => ?_)
      · (try simp only [decide_eq_true_eq, decide_eq_false_iff_not, Bool.and_eq_true, Bool.or_eq_true, Bool.and_eq_false_iff, Bool.or_eq_false_iff, Bool.not_eq_true', Bool.not_eq_false', beq_iff_eq, Bool.not_eq_eq_eq_not, Bool.not_true, Bool.not_false, List.length_map, Bool.and_true, Bool.and_false, Bool.false_and, Bool.true_and, Bool.or_false, Bool.false_or] at h25)
        exfalso; simp at h25
      · (try simp only [decide_eq_true_eq, decide_eq_false_iff_not, Bool.and_eq_true, Bool.or_eq_true, Bool.and_eq_false_iff, Bool.or_eq_false_iff, Bool.not_eq_true', Bool.not_eq_false', beq_iff_eq, Bool.not_eq_eq_eq_not, Bool.not_true, Bool.not_false, List.length_map, Bool.and_true, Bool.and_false, Bool.false_and, Bool.true_and, Bool.or_false, Bool.false_or] at h25)
        refine Aw_skip ?_
        refine Aw_region ?_
        refine Al_pu (Pu_move (.inl rfl) (by conv => lhs; whnf)) rfl rfl (by decide) (by kernel_rfl) ?_
        refine Al_pu (Pu_add rfl rfl rfl (fun h1 h2 => by simp only [A.inI, A.maxI] at *; omega)) rfl rfl (by decide) (by kernel_rfl) ?_
        refine Al_pu (Pu_move (.inr rfl) (by conv => lhs; whnf)) rfl rfl (by decide) (by kernel_rfl) ?_
        refine Al_nil ?_
        exact ⟨k + 1, by omega, by omega, Le.ov ⟨Sub.num (by omega), trivial⟩ ⟨Sub.rfl, Sub.rfl, trivial⟩ trivial trivial⟩ -- loop 0 next.0
    · (try simp only [decide_eq_true_eq, decide_eq_false_iff_not, Bool.and_eq_true, Bool.or_eq_true, Bool.and_eq_false_iff, Bool.or_eq_false_iff, Bool.not_eq_true', Bool.not_eq_false', beq_iff_eq, Bool.not_eq_eq_eq_not, Bool.not_true, Bool.not_false, List.length_map, Bool.and_true, Bool.and_false, Bool.false_and, Bool.true_and, Bool.or_false, Bool.false_or] at h14)
      refine Aw_exit ?_
      refine Aw_seq ?_
      refine Aw_region ?_
      refine Al_pu (Pu_move (.inr rfl) (by conv => lhs; whnf)) rfl rfl (by decide) (by kernel_rfl) ?_
      refine Al_nil ?_
      refine Aw_ret ?_
      exact Sub.rfl -- ret 0
end Go.Proofs.Ytfalbocgnmlncaa
