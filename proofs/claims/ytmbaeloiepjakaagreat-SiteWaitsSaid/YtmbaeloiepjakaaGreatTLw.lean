/- Law 17: SiteWaits. -/
import Derived.Test.YtmbaeloiepjakaaGreatTLa
import Derived.Test.YtmbaeloiepjakaaGreatRGt
set_option linter.unusedSimpArgs false
set_option linter.unusedVariables false
set_option maxRecDepth 100000
namespace Go.Proofs.YtmbaeloiepjakaaGreat
open Go.RowKit A R
open A.RowT
namespace J
theorem only_all (p : List Dep) : only p (ranges 0) = p := by
  unfold only
  rw [List.filter_eq_self]
  intro d _
  simpa using findR_all d.key
theorem ready_all {v : Ver} {hv : List Dep} (h : ready hv (ranges 0) v = true) : D.coversB hv v.past = true := by
  unfold ready misses at h
  rw [only_all] at h
  have h1 : (v.past.filter (lacks hv)) = [] := by
    rw [← List.length_eq_zero_iff]
    simpa using h
  unfold D.coversB
  rw [List.all_eq_true]
  intro d hd
  rw [List.filter_eq_nil_iff] at h1
  have := h1 d hd
  unfold lacks at this
  simpa using this
theorem next_ready {l : List Ver} {hv : List Dep} {own : List Rng} {v : Ver} (h : nextV l hv own = some v) : ready hv own v = true ∧ v ∈ l ∧ (nextL l hv own).length + 1 = l.length := by
  unfold nextV at h
  obtain ⟨hk, he⟩ := List.getElem?_eq_some_iff.1 h
  unfold nextI at hk he
  refine ⟨?_, List.mem_of_getElem? h, ?_⟩
  · rw [← he]
    exact List.findIdx_getElem
  · unfold nextL nextI
    rw [List.length_eraseIdx, if_pos hk]
    omega
end J
namespace PS
theorem arrive_wait (p : PS) (v : Ver) : (p.arrive v).wait.length ≤ p.wait.length + 1 ∧ (p.arrive v).rs = p.rs := by
  unfold PS.arrive
  split
  · split
    · exact ⟨Nat.le_succ _, rfl⟩
    · exact ⟨by show (p.wait ++ [v]).length ≤ _; simp, rfl⟩
  · exact ⟨Nat.le_succ _, rfl⟩
theorem step_wait (p : PS) : p.step.wait.length ≤ p.wait.length ∧ p.step.rs = p.rs := by
  unfold PS.step
  split
  · exact ⟨List.length_eraseIdx_le .., rfl⟩
  · exact ⟨Nat.le_refl _, rfl⟩
end PS
set_option maxHeartbeats 1000000 in
theorem sitewaits_law (l : List TOp) : ACall Tryz.prog 3 [.sl 7 (l.map TOp.row)] (bv true) := by
  refine ACall_enter (fun _ _ => by kernel_rfl) Tryz.func3 rfl Tryz.ntmps3 Tryz.results3 (Nat.le_of_ble_eq_true rfl) (fun hok M0 w0 hnl => ?_)
  have hlen := (hok _ (List.mem_cons_self ..)).len
  rw [List.length_map] at hlen
  have hr0 : (J.ranges 0).length ≤ 1000000 := Nat.le_trans (J.ranges_len 0) (by decide)
  refine Aw_seq (Aw_region ?_)
  refine Al_p Pu_mvr ?_
  refine Al_nil (Aw_seq (Aw_region ?_))
  refine Al_p (Pu_call (tawake_a) rfl trivial) ?_
  refine Al_p Pu_mvr ?_
  refine Al_nil (Aw_seq (Aw_region ?_))
  refine Al_p (Pu_call (tranges_a 0) rfl ⟨Sub.rfl, trivial⟩) ?_
  refine Al_gcallE [] [(1001, 13), (1002, 130), (1003, 131)] (stNew_g 0 (by decide) (J.ranges 0) hr0) rfl rfl rfl (by decide) (by kernel_rfl) trivial (fun _ => rfl) rfl rfl ⟨Sub.rfl, Sub.rfl, trivial⟩ ?_
  rintro b g13
  refine Al_p Pu_mvr ?_
  refine Al_nil (Aw_seq (Aw_seq (Aw_region ?_)))
  refine Al_p Pu_mvl ?_
  refine Al_p (Pu_eqnilb Tryz.underlying24 rfl rfl) ?_
  refine Al_nil ?_
  refine Aw_condF rfl (rfl) ?_
  refine Aw_skip (Aw_seq (Aw_seq (Aw_region ?_)))
  refine Al_p Pu_mvr ?_
  refine Al_nil (Aw_block ?_)
  refine Aw_loopk (ι := Nat × PS) [0, 3, 4] [] (fun (k, p) => [(5, .d (iv k))]) (fun (k, p) => [(13, g13, .box 84 [.bx 130 g13 0, .d (iv p.id), .d (versA p.wait), .d (iv p.n), .d (iv p.s)]), (130, g13, .box 115 [.d (rngA p.rs), .ow 131 g13]), (131, g13, mapV b p.cs)]) (fun (k, p) => k ≤ l.length ∧ k ≤ 20 ∧ p.Ok (30 * k) ∧ p.wait.length ≤ k ∧ p.rs = J.ranges 0) (fun (k, p) => 20 - k) (0, PS.zero 0 (J.ranges 0)) (⟨Nat.zero_le _, Nat.zero_le _, PS.Ok.zero (by decide) hr0, Nat.zero_le _, rfl⟩) ⟨Sub.rfl, trivial⟩ ⟨rfl, rfl, rfl, trivial⟩ ?_
  rintro ⟨k, p⟩ ⟨hk1, hk2, hp, hpw, hpr⟩
  refine Aw_seq (Aw_seq (Aw_region ?_))
  refine Al_p Pu_mvl ?_
  refine Al_p Pu_mvl ?_
  refine Al_p (Pu_len rfl Tryz.underlying22 rfl (by first | exact List.length_map .. | exact rfl)) ?_
  refine Al_p (Pu_cmp rfl rfl rfl rfl) ?_
  refine Al_p Pu_mvl ?_
  refine Al_st (St_gd [] rfl rfl rfl rfl trivial (fun hg21 => by exact Pu_move (.inl rfl) (by conv => lhs; whnf))) rfl (by decide) (by kernel_rfl) (by intro j b oj dj h1 h2 h3; cases h1; cases h2; cases h3; decide) ?_
  refine Al_st (St_gd [21] rfl rfl rfl rfl ⟨⟨_, rfl⟩, trivial⟩ (fun hg22 => Pu_cmp rfl rfl rfl rfl)) rfl (by decide) (by kernel_rfl) (by intro j b oj dj h1 h2 h3; cases h1; cases h2; cases h3; decide) ?_
  refine Al_p (Pu_and rfl rfl rfl rfl) ?_
  refine Al_nil ?_
  refine Aw_cond rfl (fun h23 => ?_) (fun h23 => ?_)
  · (try simp only [decide_eq_true_eq, decide_eq_false_iff_not, Bool.and_eq_true, Bool.or_eq_true, Bool.and_eq_false_iff, Bool.or_eq_false_iff, Bool.not_eq_true', Bool.not_eq_false', beq_iff_eq, Bool.not_eq_eq_eq_not, Bool.not_true, Bool.not_false, List.length_map, Bool.and_true, Bool.and_false, Bool.false_and, Bool.true_and, Bool.or_false, Bool.false_or] at h23)
    obtain ⟨ha, hb⟩ : k < l.length ∧ k < 20 := by omega
    have haw := p.arrive_wait (l.getD k default).ver
    have hq0 := hp.arrive (l.getD k default).ver
    refine Aw_skip ?_
    -- join 0: live [0, 3, 4, 5], turned []
    refine Aw_seq (Aw_block (Aw_seq (Aw_region ?_)))
    refine Al_p Pu_mvl ?_
    refine Al_p Pu_mvl ?_
    refine Al_p Pu_mvl ?_
    refine Al_p (Pu_index rfl Tryz.underlying22 Tryz.sizeOf36 rfl rfl (rfl) (mapgetD (d := default) ha)) ?_
    refine Al_p (Pu_loadN rfl Tryz.isAgg36 Tryz.sizeOf36 rfl (Nat.le_of_ble_eq_true rfl)) ?_
    refine Al_p (Pu_call (tversion_a (l.getD k default)) rfl ⟨Sub.rfl, trivial⟩) ?_
    refine Al_gcall [(1001, 13, g13), (1002, 130, g13), (1003, 131, g13)] [] (stArrive_g p b (l.getD k default).ver hp (by omega)) rfl rfl rfl (by decide) (by kernel_rfl) ⟨rfl, rfl, rfl, trivial⟩ rfl ⟨Sub.rfl, Sub.rfl, trivial⟩ (fun g32 => ?_)
    refine Al_nil ?_
    refine Aw_join (ι := PS) [0, 3, 4, 5] [] (fun q => []) (fun q => [(13, g13, .box 84 [.bx 130 g13 0, .d (iv q.id), .d (versA q.wait), .d (iv q.n), .d (iv q.s)]), (130, g13, .box 115 [.d (rngA q.rs), .ow 131 g13]), (131, g13, mapV b q.cs)]) (fun q => q.Ok (30 * (k + 1)) ∧ q.wait.length ≤ k + 1 ∧ q.rs = J.ranges 0) ?_ ?_ -- join 1
    · refine Aw_seq (Aw_region ?_)
      refine Al_p Pu_mvr ?_
      refine Al_nil (Aw_block ?_)
      refine Aw_loopk (ι := Nat × PS) [0, 3, 4, 5] [] (fun (j, q) => [(6, .d (iv j))]) (fun (j, q) => [(13, g13, .box 84 [.bx 130 g13 0, .d (iv q.id), .d (versA q.wait), .d (iv q.n), .d (iv q.s)]), (130, g13, .box 115 [.d (rngA q.rs), .ow 131 g13]), (131, g13, mapV b q.cs)]) (fun (j, q) => j ≤ 30 ∧ q.Ok (30 * k + j) ∧ q.wait.length ≤ k + 1 ∧ q.rs = J.ranges 0) (fun (j, q) => 30 - j) ((0, p.arrive (l.getD k default).ver)) (⟨Nat.zero_le _, ⟨hq0, by omega, by rw [haw.2, hpr]⟩⟩) ⟨Sub.rfl, trivial⟩ ⟨rfl, rfl, rfl, trivial⟩ ?_
      rintro ⟨j, q⟩ ⟨hk1, ⟨hq, hqw, hqr⟩⟩
      refine Aw_seq (Aw_seq (Aw_region ?_))
      refine Al_p Pu_mvl ?_
      refine Al_p (Pu_cmp rfl rfl rfl rfl) ?_
      refine Al_nil ?_
      refine Aw_cond rfl (fun h34 => ?_) (fun h34 => ?_)
      · (try simp only [decide_eq_true_eq, decide_eq_false_iff_not, Bool.and_eq_true, Bool.or_eq_true, Bool.and_eq_false_iff, Bool.or_eq_false_iff, Bool.not_eq_true', Bool.not_eq_false', beq_iff_eq, Bool.not_eq_eq_eq_not, Bool.not_true, Bool.not_false, List.length_map, Bool.and_true, Bool.and_false, Bool.false_and, Bool.true_and, Bool.or_false, Bool.false_or] at h34)
        have hj : j < 30 := by omega
        have hsw := q.step_wait
        have hqs := hq.step
        refine Aw_skip (Aw_seq (Aw_block (Aw_seq (Aw_region ?_))))
        refine Al_p Pu_mvl ?_
        refine Al_p (Pu_gcall [(1001, 13, g13), (1002, 130, g13), (1003, 131, g13)] (stHave_g q b hq (by omega)) (ST_in ..) rfl ⟨rfl, rfl, rfl, trivial⟩ rfl ⟨Sub.rfl, trivial⟩) ?_
        refine Al_p Pu_mvr ?_
        refine Al_nil (Aw_seq (Aw_region ?_))
        refine Al_p Pu_mvl ?_
        refine Al_gcall [(1001, 13, g13), (1002, 130, g13), (1003, 131, g13)] [] (stStep_g q b hq (by omega)) rfl rfl rfl (by decide) (by kernel_rfl) ⟨rfl, rfl, rfl, trivial⟩ rfl ⟨Sub.rfl, trivial⟩ (fun g41 => ?_)
        refine Al_p Pu_mvl ?_
        refine Al_p (Pu_extract rfl rfl rfl) ?_
        refine Al_p (Pu_extract rfl rfl rfl) ?_
        refine Al_alloc rfl rfl rfl (by decide) Tryz.zeroValue34 rfl (by kernel_rfl) (fun g8 => ?_)
        refine Al_storeN rfl rfl rfl (by kernel_rfl) Tryz.isAgg34 Tryz.sizeOf34 rfl rfl rfl rfl (Nat.le_of_ble_eq_true rfl) ?_
        refine Al_p Pu_mvr ?_
        refine Al_nil (Aw_seq (Aw_seq (Aw_region ?_)))
        refine Al_p Pu_mvl ?_
        refine Al_p (Pu_not rfl rfl) ?_
        refine Al_nil ?_
        refine Aw_cond rfl (fun h45 => ?_) (fun h45 => ?_)
        · skip
          refine Aw_exit ?_
          exact ⟨q.step, ⟨hqs.mono (by omega), by omega, by rw [hsw.2, hqr]⟩, Le.ov trivial ⟨Sub.rfl, Sub.rfl, Sub.rfl, Sub.rfl, trivial⟩ ⟨rfl, rfl, rfl, trivial⟩ trivial⟩ -- join 1 next.0
        · skip
          obtain ⟨v, hv⟩ := Option.isSome_iff_exists.1 (show q.stepV.isSome = true by simpa using h45)
          have hrd := (J.next_ready hv).1
          rw [hqr] at hrd
          have hcov := J.ready_all hrd
          rw [hv]
          refine Aw_skip (Aw_seq (Aw_region ?_))
          refine Al_p Pu_mvl ?_
          refine Al_p (Pu_fieldb 5 rfl Tryz.underlying34 rfl rfl Tryz.sizeOf32 rfl) ?_
          refine Al_p (Pu_loadb rfl Tryz.isAgg32 rfl rfl rfl) ?_
          refine Al_p (Pu_call (rcovers_a (J.have' q.cs) v.past) rfl ⟨Sub.rfl, Sub.rfl, trivial⟩) ?_
          refine Al_p Pu_mvr ?_
          refine Al_nil (Aw_seq (Aw_region ?_))
          refine Al_p Pu_mvl ?_
          refine Al_p (Pu_not rfl rfl) ?_
          refine Al_nil ?_
          refine Aw_condF rfl ((by rw [show D.coversB (J.have' q.cs) v.past = true from hcov]; rfl)) ?_
          refine Aw_skip (Aw_region ?_)
          refine Al_p Pu_mvl ?_
          refine Al_p (Pu_add rfl rfl rfl (fun h1 h2 => by simp only [A.inI, A.maxI] at *; omega)) ?_
          refine Al_p Pu_mvr ?_
          refine Al_nil ?_
          exact ⟨(j + 1, q.step), ⟨by omega, ⟨hqs.mono (by omega), by omega, by rw [hsw.2, hqr]⟩⟩, by simp only []; omega, Le.ov ⟨Sub.num (by omega), trivial⟩ ⟨Sub.rfl, Sub.rfl, Sub.rfl, Sub.rfl, trivial⟩ ⟨rfl, rfl, rfl, trivial⟩ trivial⟩ -- loop 1 next.0
      · (try simp only [decide_eq_true_eq, decide_eq_false_iff_not, Bool.and_eq_true, Bool.or_eq_true, Bool.and_eq_false_iff, Bool.or_eq_false_iff, Bool.not_eq_true', Bool.not_eq_false', beq_iff_eq, Bool.not_eq_eq_eq_not, Bool.not_true, Bool.not_false, List.length_map, Bool.and_true, Bool.and_false, Bool.false_and, Bool.true_and, Bool.or_false, Bool.false_or] at h34)
        refine Aw_exit ?_
        exact ⟨q, ⟨hq.mono (by omega), hqw, hqr⟩, Le.ov trivial ⟨Sub.rfl, Sub.rfl, Sub.rfl, Sub.rfl, trivial⟩ ⟨rfl, rfl, rfl, trivial⟩ trivial⟩ -- join 1 next.1
    · rintro q ⟨hq, hqw, hqr⟩
      refine Aw_seq (Aw_region ?_)
      refine Al_p Pu_mvl ?_
      refine Al_p (Pu_gcall [(1001, 13, g13), (1002, 130, g13), (1003, 131, g13)] (stWaiting_g q b) (ST_in ..) rfl ⟨rfl, rfl, rfl, trivial⟩ rfl ⟨Sub.rfl, trivial⟩) ?_
      refine Al_p Pu_mvl ?_
      refine Al_p (Pu_add rfl rfl rfl (fun h1 h2 => by simp only [A.inI, A.maxI] at *; omega)) ?_
      refine Al_p (Pu_cmp rfl rfl rfl rfl) ?_
      refine Al_nil ?_
      refine Aw_cond rfl (fun h56 => ?_) (fun h56 => ?_)
      · (try simp only [decide_eq_true_eq, decide_eq_false_iff_not, Bool.and_eq_true, Bool.or_eq_true, Bool.and_eq_false_iff, Bool.or_eq_false_iff, Bool.not_eq_true', Bool.not_eq_false', beq_iff_eq, Bool.not_eq_eq_eq_not, Bool.not_true, Bool.not_false, List.length_map, Bool.and_true, Bool.and_false, Bool.false_and, Bool.true_and, Bool.or_false, Bool.false_or] at h56)
        exfalso; omega
      · (try simp only [decide_eq_true_eq, decide_eq_false_iff_not, Bool.and_eq_true, Bool.or_eq_true, Bool.and_eq_false_iff, Bool.or_eq_false_iff, Bool.not_eq_true', Bool.not_eq_false', beq_iff_eq, Bool.not_eq_eq_eq_not, Bool.not_true, Bool.not_false, List.length_map, Bool.and_true, Bool.and_false, Bool.false_and, Bool.true_and, Bool.or_false, Bool.false_or] at h56)
        refine Aw_skip (Aw_region ?_)
        refine Al_p Pu_mvl ?_
        refine Al_p (Pu_add rfl rfl rfl (fun h1 h2 => by simp only [A.inI, A.maxI] at *; omega)) ?_
        refine Al_p Pu_mvr ?_
        refine Al_nil ?_
        exact ⟨(k + 1, q), ⟨by omega, by omega, hq, by omega, hqr⟩, by simp only []; omega, Le.ov ⟨Sub.num (by omega), trivial⟩ ⟨Sub.rfl, Sub.rfl, Sub.rfl, trivial⟩ ⟨rfl, rfl, rfl, trivial⟩ trivial⟩ -- loop 0 next.0
  · (try simp only [decide_eq_true_eq, decide_eq_false_iff_not, Bool.and_eq_true, Bool.or_eq_true, Bool.and_eq_false_iff, Bool.or_eq_false_iff, Bool.not_eq_true', Bool.not_eq_false', beq_iff_eq, Bool.not_eq_eq_eq_not, Bool.not_true, Bool.not_false, List.length_map, Bool.and_true, Bool.and_false, Bool.false_and, Bool.true_and, Bool.or_false, Bool.false_or] at h23)
    refine Aw_exit (Aw_seq (Aw_region ?_))
    refine Al_p Pu_mvl ?_
    refine Al_p Pu_mvr ?_
    refine Al_nil ?_
    refine Aw_ret ?_
    exact Sub.rfl -- ret 0
end Go.Proofs.YtmbaeloiepjakaaGreat
