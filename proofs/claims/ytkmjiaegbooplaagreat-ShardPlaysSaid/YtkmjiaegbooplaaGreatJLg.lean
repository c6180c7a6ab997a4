/- ShardPlays: a shard goes on, step by step, as the reference's; the walk. -/
import Derived.Test.YtkmjiaegbooplaaGreatJRs
set_option linter.unusedSimpArgs false
set_option linter.unusedVariables false
set_option maxRecDepth 100000
namespace Go.Proofs.YtkmjiaegbooplaaGreat
open Go.RowKit A R
open A.RowT
namespace J
theorem chns_move {cs : SC} (h : Chns cs) (rs : List Rng) : Chns (smove cs rs) := fun p hp => h p ((smove_sub cs rs).subset hp)
theorem chns_clean {cs : SC} (h : Chns cs) (n s : Int) (pins : List Dep) : Chns (sclean cs n s pins) := fun p hp => by
  obtain ⟨q, hq, rfl⟩ := List.mem_map.1 hp
  exact List.Pairwise.sublist List.filter_sublist (h q hq)
end J
set_option maxHeartbeats 4000000 in
theorem shardplays_law (z : Int) (l : List HOp) : ACall Tryz.prog 3 [iv z, .sl 14 (l.map HOp.row)] (bv true) := by
  refine ACall_enter (fun _ _ => by kernel_rfl) Tryz.func3 rfl Tryz.ntmps3 Tryz.results3 (Nat.le_of_ble_eq_true rfl) (fun hok M0 w0 hnl => ?_)
  have hlen := (hok (.sl 14 (l.map HOp.row)) (by simp)).len
  rw [List.length_map] at hlen
  have hrz : ∀ z, (J.ranges z).length ≤ 1000000 := fun z => Nat.le_trans (J.ranges_len z) (by decide)
  refine Aw_seq ?_
  refine Aw_region ?_
  refine Al_pu (Pu_move (.inr rfl) (by conv => lhs; whnf)) rfl rfl (by decide) (by kernel_rfl) ?_
  refine Al_nil ?_
  refine Aw_seq ?_
  refine Aw_region ?_
  refine Al_pu (Pu_call (hawake_a) rfl trivial) rfl rfl (by decide) (by kernel_rfl) ?_
  refine Al_pu (Pu_move (.inr rfl) (by conv => lhs; whnf)) rfl rfl (by decide) (by kernel_rfl) ?_
  refine Al_nil ?_
  refine Aw_seq ?_
  refine Aw_region ?_
  refine Al_pu (Pu_move (.inl rfl) (by conv => lhs; whnf)) rfl rfl (by decide) (by kernel_rfl) ?_
  refine Al_pu (Pu_call (hranges_a z) rfl ⟨Sub.rfl, trivial⟩) rfl rfl (by decide) (by kernel_rfl) ?_
  refine Al_gcallE [] [(1001, 29), (1002, 220)] (snew_g (J.ranges z) (hrz z)) rfl rfl rfl (by decide) (by kernel_rfl) trivial (fun _ => rfl) rfl rfl ⟨Sub.rfl, trivial⟩ ?_
  rintro b g29
  refine Al_pu (Pu_move (.inr rfl) (by conv => lhs; whnf)) rfl rfl (by decide) (by kernel_rfl) ?_
  refine Al_nil ?_
  refine Aw_seq ?_
  refine Aw_seq ?_
  refine Aw_region ?_
  refine Al_pu (Pu_move (.inl rfl) (by conv => lhs; whnf)) rfl rfl (by decide) (by kernel_rfl) ?_
  refine Al_pu (Pu_eqnilb Tryz.underlying24 rfl rfl) rfl rfl (by decide) (by kernel_rfl) ?_
  refine Al_nil ?_
  refine Aw_condF rfl (rfl) ?_
  refine Aw_skip ?_
  refine Aw_seq ?_
  refine Aw_region ?_
  refine Al_pu (Pu_move (.inl rfl) (by conv => lhs; whnf)) rfl rfl (by decide) (by kernel_rfl) ?_
  refine Al_pu (Pu_call (hranges_a z) rfl ⟨Sub.rfl, trivial⟩) rfl rfl (by decide) (by kernel_rfl) ?_
  refine Al_pu (Pu_build (aa := [(0, _)]) rfl Tryz.underlying31 Tryz.zeroValue31 (places31 Tryz.underlying31) (by kernel_rfl) ⟨rfl, rfl, rfl, trivial⟩ rfl) rfl rfl (by decide) (by kernel_rfl) ?_
  refine Al_boxN rfl rfl rfl (by decide) (by kernel_rfl) rfl (fun g35 => ?_)
  refine Al_pu (Pu_move (.inr rfl) (by conv => lhs; whnf)) rfl rfl (by decide) (by kernel_rfl) ?_
  refine Al_nil ?_
  refine Aw_seq ?_
  refine Aw_seq ?_
  refine Aw_region ?_
  refine Al_pu (Pu_move (.inr rfl) (by conv => lhs; whnf)) rfl rfl (by decide) (by kernel_rfl) ?_
  refine Al_nil ?_
  refine Aw_block ?_
  refine Aw_owncell 1 (k := 35) (k2 := 350) (e := 75) (n := 2) rfl rfl rfl (fun g0 => ?_)
  refine Aw_loopk (ι := Nat × (List Rng) × SC × Nat) [1, 5, 6, 7] [] (fun (k, rs, cs, g) => [(8, .d (iv k))]) (fun (k, rs, cs, g) => [(29, g29, .box 68 [.d (rngA rs), .ow 220 g29]), (220, g29, mapV b cs), (35, g35, .box 31 [.d (rngA rs), .ow 350 g]), (350, g, .arr 75 2 (cs.map chR))]) (fun (k, rs, cs, g) => k ≤ 50 ∧ J.Own k rs cs ∧ J.Chns cs ∧ rs.length ≤ 1000000) (fun (k, rs, cs, g) => 50 - k) (0, J.ranges z, [], g0) (⟨Nat.zero_le _, J.own_nil _, (fun _ h => nomatch h), hrz z⟩) ⟨Sub.rfl, trivial⟩ ⟨rfl, rfl, rfl, rfl, trivial⟩ ?_
  rintro ⟨k, rs, cs, g⟩ ⟨hk2, hown, hch, hrl⟩
  refine Aw_seq ?_
  refine Aw_seq ?_
  refine Aw_region ?_
  refine Al_pu (Pu_move (.inl rfl) (by conv => lhs; whnf)) rfl rfl (by decide) (by kernel_rfl) ?_
  refine Al_pu (Pu_move (.inl rfl) (by conv => lhs; whnf)) rfl rfl (by decide) (by kernel_rfl) ?_
  refine Al_pu (Pu_len rfl Tryz.underlying22 rfl (by first | exact List.length_map .. | exact rfl)) rfl rfl (by decide) (by kernel_rfl) ?_
  refine Al_pu (Pu_cmp rfl rfl rfl rfl) rfl rfl (by decide) (by kernel_rfl) ?_
  refine Al_pu (Pu_move (.inl rfl) (by conv => lhs; whnf)) rfl rfl (by decide) (by kernel_rfl) ?_
  refine Al_st (St_gd [] rfl rfl rfl rfl trivial (fun hg41 => by exact Pu_move (.inl rfl) (by conv => lhs; whnf))) rfl (by decide) (by kernel_rfl) (by intro j b oj dj h1 h2 h3; cases h1; cases h2; cases h3; decide) ?_
  refine Al_st (St_gd [41] rfl rfl rfl rfl ⟨⟨_, rfl⟩, trivial⟩ (fun hg42 => Pu_cmp rfl rfl rfl rfl)) rfl (by decide) (by kernel_rfl) (by intro j b oj dj h1 h2 h3; cases h1; cases h2; cases h3; decide) ?_
  refine Al_pu (Pu_and rfl rfl rfl rfl) rfl rfl (by decide) (by kernel_rfl) ?_
  refine Al_nil ?_
  refine Aw_cond rfl (fun h43 => ?_) (fun h43 => ?_)
  · (try simp only [decide_eq_true_eq, decide_eq_false_iff_not, Bool.and_eq_true, Bool.or_eq_true, Bool.and_eq_false_iff, Bool.or_eq_false_iff, Bool.not_eq_true', Bool.not_eq_false', beq_iff_eq, Bool.not_eq_eq_eq_not, Bool.not_true, Bool.not_false, List.length_map, Bool.and_true, Bool.and_false, Bool.false_and, Bool.true_and, Bool.or_false, Bool.false_or] at h43)
    obtain ⟨ha, hb⟩ : k < l.length ∧ k < 50 := by omega
    have hsm := hown.sm.mono (show k ≤ 1000 by omega)
    have hcl := hsm.1
    obtain ⟨v, hv⟩ : ∃ v, v = (J.ver (l.getD k default)) := ⟨_, rfl⟩
    have hvr := hversion_a (l.getD k default)
    rw [← hv] at hvr
    have hpins : ([⟨v.key, v.n, v.s⟩, (l.getD k default).pin] : List Dep).length ≤ 100000 := by simp
    have hput := sput_g rs cs b v hrl hown.rise hsm
    have hput2 := rput13_g rs cs v hrl hown.rise hsm hch
    have hat1 := sat_g rs cs b v.key v.n v.s hsm
    have hat2 : ACall Tryz.prog 13 [versA (J.getC cs v.key), .row [iv v.n, iv v.s]] (verA (J.sat cs v.key v.n v.s)) := rat12_a (J.getC cs v.key) v.n v.s (hch.get v.key)
    obtain ⟨oa, hoa⟩ : ∃ o, o = J.sat cs v.key v.n v.s := ⟨_, rfl⟩
    rw [← hoa] at hat1 hat2
    refine Aw_skip ?_
    -- join 0: live [1, 5, 6, 7, 8], turned []
    refine Aw_seq ?_
    refine Aw_block ?_
    refine Aw_seq ?_
    refine Aw_region ?_
    refine Al_pu (Pu_move (.inl rfl) (by conv => lhs; whnf)) rfl rfl (by decide) (by kernel_rfl) ?_
    refine Al_pu (Pu_move (.inl rfl) (by conv => lhs; whnf)) rfl rfl (by decide) (by kernel_rfl) ?_
    refine Al_pu (Pu_index rfl Tryz.underlying22 Tryz.sizeOf40 rfl rfl (rfl) (mapgetD (d := default) ha)) rfl rfl (by decide) (by kernel_rfl) ?_
    refine Al_pu (Pu_loadN rfl Tryz.isAgg40 Tryz.sizeOf40 rfl (Nat.le_of_ble_eq_true rfl)) rfl rfl (by decide) (by kernel_rfl) ?_
    refine Al_alloc rfl rfl rfl (by decide) Tryz.zeroValue40 rfl (by kernel_rfl) (fun g9 => ?_)
    refine Al_storeN rfl rfl rfl (by kernel_rfl) Tryz.isAgg40 Tryz.sizeOf40 rfl rfl rfl rfl (Nat.le_of_ble_eq_true rfl) ?_
    refine Al_nil ?_
    refine Aw_seq ?_
    refine Aw_region ?_
    refine Al_pu (Pu_move (.inr rfl) (by conv => lhs; whnf)) rfl rfl (by decide) (by kernel_rfl) ?_
    refine Al_nil ?_
    refine Aw_seq ?_
    refine Aw_region ?_
    refine Al_pu (Pu_loadbN (r := [_, _, _, _, _, _, _, _, _, _, _, _, _, _]) rfl Tryz.isAgg40 Tryz.sizeOf40 rfl rfl rfl rfl) rfl rfl (by decide) (by kernel_rfl) ?_
    refine Al_pu (Pu_call (hvr) rfl ⟨Sub.rfl, trivial⟩) rfl rfl (by decide) (by kernel_rfl) ?_
    refine Al_alloc rfl rfl rfl (by decide) Tryz.zeroValue36 rfl (by kernel_rfl) (fun g11 => ?_)
    refine Al_storeN rfl rfl rfl (by kernel_rfl) Tryz.isAgg36 Tryz.sizeOf36 rfl rfl rfl rfl (Nat.le_of_ble_eq_true rfl) ?_
    refine Al_nil ?_
    refine Aw_join (ι := (List Rng) × SC × Nat) [1, 5, 6, 7, 8, 11] [11] (fun (rs', cs', g') => [(10, .d (bv true))]) (fun (rs', cs', g') => [(29, g29, .box 68 [.d (rngA rs'), .ow 220 g29]), (220, g29, mapV b cs'), (35, g35, .box 31 [.d (rngA rs'), .ow 350 g']), (350, g', .arr 75 2 (cs'.map chR))]) (fun (rs', cs', g') => J.Own (k + 1) rs' cs' ∧ J.Chns cs' ∧ rs'.length ≤ 1000000) ?_ ?_ -- join 1
    · refine Aw_seq ?_
      refine Aw_region ?_
      refine Al_pu (Pu_fieldb 0 rfl Tryz.underlying40 rfl rfl Tryz.sizeOf3 rfl) rfl rfl (by decide) (by kernel_rfl) ?_
      refine Al_pu (Pu_loadb rfl Tryz.isAgg3 rfl rfl rfl) rfl rfl (by decide) (by kernel_rfl) ?_
      refine Al_pu (Pu_int_and (r := J.andI (l.getD k default).kind 7) rfl rfl rfl rfl (fun _ => V.i64_ok _)) rfl rfl (by decide) (by kernel_rfl) ?_
      refine Al_nil ?_
      refine Aw_block ?_
      refine Aw_seq ?_
      refine Aw_region ?_
      refine Al_pu (Pu_cmp rfl rfl rfl rfl) rfl rfl (by decide) (by kernel_rfl) ?_
      refine Al_pu (Pu_move (.inr rfl) (by conv => lhs; whnf)) rfl rfl (by decide) (by kernel_rfl) ?_
      refine Al_nil ?_
      refine Aw_cond rfl (fun h62 => ?_) (fun h62 => ?_)
      · (try simp only [decide_eq_true_eq, decide_eq_false_iff_not, Bool.and_eq_true, Bool.or_eq_true, Bool.and_eq_false_iff, Bool.or_eq_false_iff, Bool.not_eq_true', Bool.not_eq_false', beq_iff_eq, Bool.not_eq_eq_eq_not, Bool.not_true, Bool.not_false, List.length_map, Bool.and_true, Bool.and_false, Bool.false_and, Bool.true_and, Bool.or_false, Bool.false_or] at h62)
        refine Aw_seq ?_
        refine Aw_region ?_
        refine Al_pu (Pu_move (.inl rfl) (by conv => lhs; whnf)) rfl rfl (by decide) (by kernel_rfl) ?_
        refine Al_pu (Pu_fieldb 3 rfl Tryz.underlying36 rfl rfl Tryz.sizeOf33 rfl) rfl rfl (by decide) (by kernel_rfl) ?_
        refine Al_pu (Pu_loadbN (r := [_, _]) rfl Tryz.isAgg33 Tryz.sizeOf33 rfl rfl rfl rfl) rfl rfl (by decide) (by kernel_rfl) ?_
        refine Al_pu (Pu_fieldb 0 rfl Tryz.underlying36 rfl rfl Tryz.sizeOf9 rfl) rfl rfl (by decide) (by kernel_rfl) ?_
        refine Al_pu (Pu_loadb rfl Tryz.isAgg9 rfl rfl rfl) rfl rfl (by decide) (by kernel_rfl) ?_
        refine Al_pu (Pu_fieldb 3 rfl Tryz.underlying36 rfl rfl Tryz.sizeOf33 rfl) rfl rfl (by decide) (by kernel_rfl) ?_
        refine Al_pu (Pu_loadbN (r := [_, _]) rfl Tryz.isAgg33 Tryz.sizeOf33 rfl rfl rfl rfl) rfl rfl (by decide) (by kernel_rfl) ?_
        refine Al_pu (Pu_build (aa := [(0, _), (1, _)]) rfl Tryz.underlying38 Tryz.zeroValue38 (places38 Tryz.underlying38) (by kernel_rfl) ⟨rfl, rfl, rfl, rfl, rfl, rfl, trivial⟩ rfl) rfl rfl (by decide) (by kernel_rfl) ?_
        refine Al_pu (Pu_fieldb 11 rfl Tryz.underlying40 rfl rfl Tryz.sizeOf38 rfl) rfl rfl (by decide) (by kernel_rfl) ?_
        refine Al_pu (Pu_loadbN (r := [_, _, _]) rfl Tryz.isAgg38 Tryz.sizeOf38 rfl rfl rfl rfl) rfl rfl (by decide) (by kernel_rfl) ?_
        refine Al_pu (Pu_buildSlice (aa := [(0, _), (1, _)]) rfl Tryz.underlying34 Tryz.sizeOf38 Tryz.zeroValue38 rfl (by decide) (by decide) (by decide) (by kernel_rfl) ⟨rfl, rfl, rfl, rfl, rfl, rfl, trivial⟩ ((rfl : _ = some [[tv v.key, iv v.n, iv v.s], [tv (l.getD k default).pin.key, iv (l.getD k default).pin.n, iv (l.getD k default).pin.s]].flatten)) rfl rfl) rfl rfl (by decide) (by kernel_rfl) ?_
        refine Al_gcall [(1001, 29, g29), (1002, 220, g29)] [] (sclean_g rs cs b v.n v.s [⟨v.key, v.n, v.s⟩, (l.getD k default).pin] hpins hown.rise hsm) rfl rfl rfl (by decide) (by kernel_rfl) ⟨rfl, rfl, trivial⟩ rfl ⟨Sub.rfl, Sub.rfl, Sub.rfl, trivial⟩ (fun g75 => ?_)
        refine Al_nil ?_
        refine Aw_region ?_
        refine Al_pu (Pu_move (.inl rfl) (by conv => lhs; whnf)) rfl rfl (by decide) (by kernel_rfl) ?_
        refine Al_pu (Pu_fieldb 3 rfl Tryz.underlying36 rfl rfl Tryz.sizeOf33 rfl) rfl rfl (by decide) (by kernel_rfl) ?_
        refine Al_pu (Pu_loadbN (r := [_, _]) rfl Tryz.isAgg33 Tryz.sizeOf33 rfl rfl rfl rfl) rfl rfl (by decide) (by kernel_rfl) ?_
        refine Al_pu (Pu_fieldb 0 rfl Tryz.underlying36 rfl rfl Tryz.sizeOf9 rfl) rfl rfl (by decide) (by kernel_rfl) ?_
        refine Al_pu (Pu_loadb rfl Tryz.isAgg9 rfl rfl rfl) rfl rfl (by decide) (by kernel_rfl) ?_
        refine Al_pu (Pu_fieldb 3 rfl Tryz.underlying36 rfl rfl Tryz.sizeOf33 rfl) rfl rfl (by decide) (by kernel_rfl) ?_
        refine Al_pu (Pu_loadbN (r := [_, _]) rfl Tryz.isAgg33 Tryz.sizeOf33 rfl rfl rfl rfl) rfl rfl (by decide) (by kernel_rfl) ?_
        refine Al_pu (Pu_build (aa := [(0, _), (1, _)]) rfl Tryz.underlying38 Tryz.zeroValue38 (places38 Tryz.underlying38) (by kernel_rfl) ⟨rfl, rfl, rfl, rfl, rfl, rfl, trivial⟩ rfl) rfl rfl (by decide) (by kernel_rfl) ?_
        refine Al_pu (Pu_fieldb 11 rfl Tryz.underlying40 rfl rfl Tryz.sizeOf38 rfl) rfl rfl (by decide) (by kernel_rfl) ?_
        refine Al_pu (Pu_loadbN (r := [_, _, _]) rfl Tryz.isAgg38 Tryz.sizeOf38 rfl rfl rfl rfl) rfl rfl (by decide) (by kernel_rfl) ?_
        refine Al_pu (Pu_buildSlice (aa := [(0, _), (1, _)]) rfl Tryz.underlying34 Tryz.sizeOf38 Tryz.zeroValue38 rfl (by decide) (by decide) (by decide) (by kernel_rfl) ⟨rfl, rfl, rfl, rfl, rfl, rfl, trivial⟩ ((rfl : _ = some [[tv v.key, iv v.n, iv v.s], [tv (l.getD k default).pin.key, iv (l.getD k default).pin.n, iv (l.getD k default).pin.s]].flatten)) rfl rfl) rfl rfl (by decide) (by kernel_rfl) ?_
        refine Al_gcall [(1001, 35, g35), (1002, 350, g)] [] (rclean13_g rs cs v.n v.s [⟨v.key, v.n, v.s⟩, (l.getD k default).pin] hpins hsm hch) rfl rfl rfl (by decide) (by kernel_rfl) ⟨rfl, rfl, trivial⟩ rfl ⟨Sub.rfl, Sub.rfl, Sub.rfl, trivial⟩ (fun g87 => ?_)
        refine Al_nil ?_
        exact ⟨(rs, J.sclean cs v.n v.s [⟨v.key, v.n, v.s⟩, (l.getD k default).pin], g), ⟨(J.own_clean hown _ _ _).mono (by omega), J.chns_clean hch _ _ _, hrl⟩, Le.ov ⟨Sub.rfl, trivial⟩ ⟨Sub.rfl, Sub.rfl, Sub.rfl, Sub.rfl, Sub.rfl, Sub.rfl, trivial⟩ ⟨rfl, rfl, rfl, rfl, trivial⟩ ⟨rfl, trivial⟩⟩ -- join 1 next.0
      · (try simp only [decide_eq_true_eq, decide_eq_false_iff_not, Bool.and_eq_true, Bool.or_eq_true, Bool.and_eq_false_iff, Bool.or_eq_false_iff, Bool.not_eq_true', Bool.not_eq_false', beq_iff_eq, Bool.not_eq_eq_eq_not, Bool.not_true, Bool.not_false, List.length_map, Bool.and_true, Bool.and_false, Bool.false_and, Bool.true_and, Bool.or_false, Bool.false_or] at h62)
        refine Aw_seq ?_
        refine Aw_region ?_
        refine Al_pu (Pu_cmp rfl rfl rfl rfl) rfl rfl (by decide) (by kernel_rfl) ?_
        refine Al_pu (Pu_move (.inr rfl) (by conv => lhs; whnf)) rfl rfl (by decide) (by kernel_rfl) ?_
        refine Al_nil ?_
        refine Aw_cond rfl (fun h88 => ?_) (fun h88 => ?_)
        · (try simp only [decide_eq_true_eq, decide_eq_false_iff_not, Bool.and_eq_true, Bool.or_eq_true, Bool.and_eq_false_iff, Bool.or_eq_false_iff, Bool.not_eq_true', Bool.not_eq_false', beq_iff_eq, Bool.not_eq_eq_eq_not, Bool.not_true, Bool.not_false, List.length_map, Bool.and_true, Bool.and_false, Bool.false_and, Bool.true_and, Bool.or_false, Bool.false_or] at h88)
          refine Aw_seq ?_
          refine Aw_region ?_
          refine Al_pu (Pu_move (.inl rfl) (by conv => lhs; whnf)) rfl rfl (by decide) (by kernel_rfl) ?_
          refine Al_pu (Pu_fieldb 2 rfl Tryz.underlying40 rfl rfl Tryz.sizeOf3 rfl) rfl rfl (by decide) (by kernel_rfl) ?_
          refine Al_pu (Pu_loadb rfl Tryz.isAgg3 rfl rfl rfl) rfl rfl (by decide) (by kernel_rfl) ?_
          refine Al_pu (Pu_call (hranges_a _) rfl ⟨Sub.rfl, trivial⟩) rfl rfl (by decide) (by kernel_rfl) ?_
          refine Al_gcall [(1001, 29, g29), (1002, 220, g29)] [] (smove_g rs (J.ranges (l.getD k default).n) cs b (hrz _) hown.rise hsm) rfl rfl rfl (by decide) (by kernel_rfl) ⟨rfl, rfl, trivial⟩ rfl ⟨Sub.rfl, Sub.rfl, trivial⟩ (fun g94 => ?_)
          refine Al_nil ?_
          refine Aw_region ?_
          refine Al_pu (Pu_move (.inl rfl) (by conv => lhs; whnf)) rfl rfl (by decide) (by kernel_rfl) ?_
          refine Al_pu (Pu_fieldb 2 rfl Tryz.underlying40 rfl rfl Tryz.sizeOf3 rfl) rfl rfl (by decide) (by kernel_rfl) ?_
          refine Al_pu (Pu_loadb rfl Tryz.isAgg3 rfl rfl rfl) rfl rfl (by decide) (by kernel_rfl) ?_
          refine Al_pu (Pu_call (hranges_a _) rfl ⟨Sub.rfl, trivial⟩) rfl rfl (by decide) (by kernel_rfl) ?_
          refine Al_gcall [(1001, 35, g35), (1002, 350, g)] [(1003, 350)] (rmove13_g rs (J.ranges (l.getD k default).n) cs hcl (hrz _)) rfl rfl rfl (by decide) (by kernel_rfl) ⟨rfl, rfl, trivial⟩ rfl ⟨Sub.rfl, Sub.rfl, trivial⟩ (fun g99 => ?_)
          refine Al_nil ?_
          exact ⟨(J.ranges (l.getD k default).n, J.smove cs (J.ranges (l.getD k default).n), g99), ⟨(J.own_move hown _).mono (by omega), J.chns_move hch _, hrz _⟩, Le.ov ⟨Sub.rfl, trivial⟩ ⟨Sub.rfl, Sub.rfl, Sub.rfl, Sub.rfl, Sub.rfl, Sub.rfl, trivial⟩ ⟨rfl, rfl, rfl, rfl, trivial⟩ ⟨rfl, trivial⟩⟩ -- join 1 next.1
        · (try simp only [decide_eq_true_eq, decide_eq_false_iff_not, Bool.and_eq_true, Bool.or_eq_true, Bool.and_eq_false_iff, Bool.or_eq_false_iff, Bool.not_eq_true', Bool.not_eq_false', beq_iff_eq, Bool.not_eq_eq_eq_not, Bool.not_true, Bool.not_false, List.length_map, Bool.and_true, Bool.and_false, Bool.false_and, Bool.true_and, Bool.or_false, Bool.false_or] at h88)
          refine Aw_seq ?_
          refine Aw_region ?_
          refine Al_pu (Pu_cmp rfl rfl rfl rfl) rfl rfl (by decide) (by kernel_rfl) ?_
          refine Al_pu (Pu_move (.inr rfl) (by conv => lhs; whnf)) rfl rfl (by decide) (by kernel_rfl) ?_
          refine Al_nil ?_
          refine Aw_cond rfl (fun h100 => ?_) (fun h100 => ?_)
          · (try simp only [decide_eq_true_eq, decide_eq_false_iff_not, Bool.and_eq_true, Bool.or_eq_true, Bool.and_eq_false_iff, Bool.or_eq_false_iff, Bool.not_eq_true', Bool.not_eq_false', beq_iff_eq, Bool.not_eq_eq_eq_not, Bool.not_true, Bool.not_false, List.length_map, Bool.and_true, Bool.and_false, Bool.false_and, Bool.true_and, Bool.or_false, Bool.false_or] at h100)
            refine Aw_seq ?_
            refine Aw_region ?_
            refine Al_pu (Pu_move (.inl rfl) (by conv => lhs; whnf)) rfl rfl (by decide) (by kernel_rfl) ?_
            refine Al_pu (Pu_fieldb 0 rfl Tryz.underlying36 rfl rfl Tryz.sizeOf9 rfl) rfl rfl (by decide) (by kernel_rfl) ?_
            refine Al_pu (Pu_loadb rfl Tryz.isAgg9 rfl rfl rfl) rfl rfl (by decide) (by kernel_rfl) ?_
            refine Al_pu (Pu_fieldb 3 rfl Tryz.underlying36 rfl rfl Tryz.sizeOf33 rfl) rfl rfl (by decide) (by kernel_rfl) ?_
            refine Al_pu (Pu_loadbN (r := [_, _]) rfl Tryz.isAgg33 Tryz.sizeOf33 rfl rfl rfl rfl) rfl rfl (by decide) (by kernel_rfl) ?_
            refine Al_gcall [(1001, 29, g29), (1002, 220, g29)] [] (hat1) rfl rfl rfl (by decide) (by kernel_rfl) ⟨rfl, rfl, trivial⟩ rfl ⟨Sub.rfl, Sub.rfl, Sub.rfl, trivial⟩ (fun g108 => ?_)
            refine Al_pu (Pu_move (.inl rfl) (by conv => lhs; whnf)) rfl rfl (by decide) (by kernel_rfl) ?_
            refine Al_pu (Pu_extract rfl rfl rfl) rfl rfl (by decide) (by kernel_rfl) ?_
            refine Al_pu (Pu_extract rfl rfl rfl) rfl rfl (by decide) (by kernel_rfl) ?_
            refine Al_alloc rfl rfl rfl (by decide) Tryz.zeroValue36 rfl (by kernel_rfl) (fun g12 => ?_)
            refine Al_storeN rfl rfl rfl (by kernel_rfl) Tryz.isAgg36 Tryz.sizeOf36 rfl rfl rfl rfl (Nat.le_of_ble_eq_true rfl) ?_
            refine Al_pu (Pu_move (.inr rfl) (by conv => lhs; whnf)) rfl rfl (by decide) (by kernel_rfl) ?_
            refine Al_nil ?_
            -- join 2: live [1, 5, 6, 7, 8, 11, 12, 13, 14, 15], turned [14, 15]
            refine Aw_seq ?_
            refine Aw_drawn (by kernel_rfl) ?_
            refine Ad_take 0 rfl (PuI_move (.inl rfl) (by conv => lhs; whnf)) rfl rfl (by decide) (by kernel_rfl) (by kernel_rfl) (by kernel_rfl) (by kernel_rfl) (fun _ _ h => h) ?_
            refine Ad_take 1 rfl (PuI_fieldb 0 rfl Tryz.underlying36 rfl rfl Tryz.sizeOf9 rfl) rfl rfl (by decide) (by kernel_rfl) (by kernel_rfl) (by kernel_rfl) (by kernel_rfl) (fun _ _ h => h) ?_
            refine Ad_take 4 rfl (PuI_fieldb 3 rfl Tryz.underlying36 rfl rfl Tryz.sizeOf33 rfl) rfl rfl (by decide) (by kernel_rfl) (by kernel_rfl) (by kernel_rfl) (by kernel_rfl) (fun _ _ h => h) ?_
            refine Ad_all [2, 5, 10] (by kernel_rfl) (by simp) ⟨⟨_, rfl, ?_⟩, ⟨_, rfl, ?_⟩, ⟨_, rfl, ?_⟩, trivial⟩
            · refine Al_pu (Pu_loadb rfl Tryz.isAgg9 rfl rfl rfl) rfl rfl (by decide) (by kernel_rfl) ?_
              refine Al_nil ?_
              refine Ad_all [3, 5, 10] (by kernel_rfl) (by simp) ⟨⟨_, rfl, ?_⟩, ⟨_, rfl, ?_⟩, ⟨_, rfl, ?_⟩, trivial⟩
              · refine Al_gcall [(1001, 35, g35), (1002, 350, g)] [] (rof13_g rs cs v.key hcl) rfl rfl rfl (by decide) (by kernel_rfl) ⟨rfl, rfl, trivial⟩ rfl ⟨Sub.rfl, Sub.rfl, trivial⟩ (fun g115 => ?_)
                refine Al_nil ?_
                refine Ad_two 5 10 rfl rfl (by kernel_rfl) ?_ ?_
                · refine Al_pu (Pu_loadbN (r := [_, _]) rfl Tryz.isAgg33 Tryz.sizeOf33 rfl rfl rfl rfl) rfl rfl (by decide) (by kernel_rfl) ?_
                  refine Al_nil ?_
                  refine Ad_two 6 10 rfl rfl (by kernel_rfl) ?_ ?_
                  · refine Al_pu (Pu_call (hat2) rfl ⟨Sub.rfl, Sub.rfl, trivial⟩) rfl rfl (by decide) (by kernel_rfl) ?_
                    refine Al_nil ?_
                    refine Ad_take 7 rfl (PuI_move (.inl rfl) (by conv => lhs; whnf)) rfl rfl (by decide) (by kernel_rfl) (by kernel_rfl) (by kernel_rfl) (by kernel_rfl) (fun _ _ h => h) ?_
                    refine Ad_take 8 rfl (PuI_extract rfl rfl rfl) rfl rfl (by decide) (by kernel_rfl) (by kernel_rfl) (by kernel_rfl) (by kernel_rfl) (fun _ _ h => h) ?_
                    refine Ad_take 9 rfl (PuI_extract rfl rfl rfl) rfl rfl (by decide) (by kernel_rfl) (by kernel_rfl) (by kernel_rfl) (by kernel_rfl) (fun _ _ h => h) ?_
                    refine Ad_one 10 rfl (by kernel_rfl) ?_
                    refine Al_alloc rfl rfl rfl (by decide) Tryz.zeroValue36 rfl (by kernel_rfl) (fun g14 => ?_)
                    refine Al_nil ?_
                    refine Ad_one 11 rfl (by kernel_rfl) ?_
                    refine Al_storeN rfl rfl rfl (by kernel_rfl) Tryz.isAgg36 Tryz.sizeOf36 rfl rfl rfl rfl (Nat.le_of_ble_eq_true rfl) ?_
                    refine Al_nil ?_
                    refine Ad_take 12 rfl (PuI_move (.inr rfl) (by conv => lhs; whnf)) rfl rfl (by decide) (by kernel_rfl) (by kernel_rfl) (by kernel_rfl) (by kernel_rfl) (fun _ _ h => h) ?_
                    refine Ad_done (by kernel_rfl) ?_
                    refine Aw_seq ?_
                    refine Aw_region ?_
                    refine Al_pu (Pu_loadbN (r := [_, _, _, _, _, _]) rfl Tryz.isAgg36 Tryz.sizeOf36 rfl rfl rfl rfl) rfl rfl (by decide) (by kernel_rfl) ?_
                    refine Al_pu (Pu_loadbN (r := [_, _, _, _, _, _]) rfl Tryz.isAgg36 Tryz.sizeOf36 rfl rfl rfl rfl) rfl rfl (by decide) (by kernel_rfl) ?_
                    refine Al_pu (Pu_call (rvsame_a (oa.getD default) (oa.getD default)) rfl ⟨Sub.rfl, Sub.rfl, trivial⟩) rfl rfl (by decide) (by kernel_rfl) ?_
                    refine Al_pu (Pu_move (.inr rfl) (by conv => lhs; whnf)) rfl rfl (by decide) (by kernel_rfl) ?_
                    refine Al_nil ?_
                    refine Aw_region ?_
                    refine Al_pu (Pu_move (.inl rfl) (by conv => lhs; whnf)) rfl rfl (by decide) (by kernel_rfl) ?_
                    refine Al_pu (Pu_move (.inl rfl) (by conv => lhs; whnf)) rfl rfl (by decide) (by kernel_rfl) ?_
                    refine Al_st (St_gd [] rfl rfl rfl rfl trivial (fun hg126 => by exact Pu_move (.inl rfl) (by conv => lhs; whnf))) rfl (by decide) (by kernel_rfl) (by intro j b oj dj h1 h2 h3; cases h1; cases h2; cases h3; decide) ?_
                    refine Al_st (St_gd [] rfl rfl rfl rfl trivial (fun hg127 => by exact Pu_move (.inl rfl) (by conv => lhs; whnf))) rfl (by decide) (by kernel_rfl) (by intro j b oj dj h1 h2 h3; cases h1; cases h2; cases h3; decide) ?_
                    refine Al_st (St_gd [126, 127] rfl rfl rfl rfl ⟨⟨_, rfl⟩, ⟨_, rfl⟩, trivial⟩ (fun hg128 => Pu_bool rfl Tryz.underlying4 rfl rfl rfl)) rfl (by decide) (by kernel_rfl) (by intro j b oj dj h1 h2 h3; cases h1; cases h2; cases h3; decide) ?_
                    refine Al_pu (Pu_and rfl rfl rfl rfl) rfl rfl (by decide) (by kernel_rfl) ?_
                    refine Al_pu (Pu_move (.inr rfl) (by conv => lhs; whnf)) rfl rfl (by decide) (by kernel_rfl) ?_
                    refine Al_nil ?_
                    exact ⟨(rs, cs, g), ⟨hown.mono (by omega), hch, hrl⟩, Le.ov ⟨Sub.bool (by simp), trivial⟩ ⟨Sub.rfl, Sub.rfl, Sub.rfl, Sub.rfl, Sub.rfl, Sub.rfl, trivial⟩ ⟨rfl, rfl, rfl, rfl, trivial⟩ ⟨rfl, trivial⟩⟩ -- join 1 next.2
                  · refine Al_alloc rfl rfl rfl (by decide) Tryz.zeroValue36 rfl (by kernel_rfl) (fun g14 => ?_)
                    refine Al_nil ?_
                    refine Ad_one 6 rfl (by kernel_rfl) ?_
                    refine Al_pu (Pu_call (hat2) rfl ⟨Sub.rfl, Sub.rfl, trivial⟩) rfl rfl (by decide) (by kernel_rfl) ?_
                    refine Al_nil ?_
                    refine Ad_take 7 rfl (PuI_move (.inl rfl) (by conv => lhs; whnf)) rfl rfl (by decide) (by kernel_rfl) (by kernel_rfl) (by kernel_rfl) (by kernel_rfl) (fun _ _ h => h) ?_
                    refine Ad_take 8 rfl (PuI_extract rfl rfl rfl) rfl rfl (by decide) (by kernel_rfl) (by kernel_rfl) (by kernel_rfl) (by kernel_rfl) (fun _ _ h => h) ?_
                    refine Ad_take 9 rfl (PuI_extract rfl rfl rfl) rfl rfl (by decide) (by kernel_rfl) (by kernel_rfl) (by kernel_rfl) (by kernel_rfl) (fun _ _ h => h) ?_
                    refine Ad_one 11 rfl (by kernel_rfl) ?_
                    refine Al_storeN rfl rfl rfl (by kernel_rfl) Tryz.isAgg36 Tryz.sizeOf36 rfl rfl rfl rfl (Nat.le_of_ble_eq_true rfl) ?_
                    refine Al_nil ?_
                    refine Ad_take 12 rfl (PuI_move (.inr rfl) (by conv => lhs; whnf)) rfl rfl (by decide) (by kernel_rfl) (by kernel_rfl) (by kernel_rfl) (by kernel_rfl) (fun _ _ h => h) ?_
                    refine Ad_done (by kernel_rfl) ?_
                    refine Aw_seq ?_
                    refine Aw_region ?_
                    refine Al_pu (Pu_loadbN (r := [_, _, _, _, _, _]) rfl Tryz.isAgg36 Tryz.sizeOf36 rfl rfl rfl rfl) rfl rfl (by decide) (by kernel_rfl) ?_
                    refine Al_pu (Pu_loadbN (r := [_, _, _, _, _, _]) rfl Tryz.isAgg36 Tryz.sizeOf36 rfl rfl rfl rfl) rfl rfl (by decide) (by kernel_rfl) ?_
                    refine Al_pu (Pu_call (rvsame_a (oa.getD default) (oa.getD default)) rfl ⟨Sub.rfl, Sub.rfl, trivial⟩) rfl rfl (by decide) (by kernel_rfl) ?_
                    refine Al_pu (Pu_move (.inr rfl) (by conv => lhs; whnf)) rfl rfl (by decide) (by kernel_rfl) ?_
                    refine Al_nil ?_
                    refine Aw_region ?_
                    refine Al_pu (Pu_move (.inl rfl) (by conv => lhs; whnf)) rfl rfl (by decide) (by kernel_rfl) ?_
                    refine Al_pu (Pu_move (.inl rfl) (by conv => lhs; whnf)) rfl rfl (by decide) (by kernel_rfl) ?_
                    refine Al_st (St_gd [] rfl rfl rfl rfl trivial (fun hg126 => by exact Pu_move (.inl rfl) (by conv => lhs; whnf))) rfl (by decide) (by kernel_rfl) (by intro j b oj dj h1 h2 h3; cases h1; cases h2; cases h3; decide) ?_
                    refine Al_st (St_gd [] rfl rfl rfl rfl trivial (fun hg127 => by exact Pu_move (.inl rfl) (by conv => lhs; whnf))) rfl (by decide) (by kernel_rfl) (by intro j b oj dj h1 h2 h3; cases h1; cases h2; cases h3; decide) ?_
                    refine Al_st (St_gd [126, 127] rfl rfl rfl rfl ⟨⟨_, rfl⟩, ⟨_, rfl⟩, trivial⟩ (fun hg128 => Pu_bool rfl Tryz.underlying4 rfl rfl rfl)) rfl (by decide) (by kernel_rfl) (by intro j b oj dj h1 h2 h3; cases h1; cases h2; cases h3; decide) ?_
                    refine Al_pu (Pu_and rfl rfl rfl rfl) rfl rfl (by decide) (by kernel_rfl) ?_
                    refine Al_pu (Pu_move (.inr rfl) (by conv => lhs; whnf)) rfl rfl (by decide) (by kernel_rfl) ?_
                    refine Al_nil ?_
                    exact ⟨(rs, cs, g), ⟨hown.mono (by omega), hch, hrl⟩, Le.ov ⟨Sub.bool (by simp), trivial⟩ ⟨Sub.rfl, Sub.rfl, Sub.rfl, Sub.rfl, Sub.rfl, Sub.rfl, trivial⟩ ⟨rfl, rfl, rfl, rfl, trivial⟩ ⟨rfl, trivial⟩⟩ -- join 1 next.3
                · refine Al_alloc rfl rfl rfl (by decide) Tryz.zeroValue36 rfl (by kernel_rfl) (fun g14 => ?_)
                  refine Al_nil ?_
                  refine Ad_one 5 rfl (by kernel_rfl) ?_
                  refine Al_pu (Pu_loadbN (r := [_, _]) rfl Tryz.isAgg33 Tryz.sizeOf33 rfl rfl rfl rfl) rfl rfl (by decide) (by kernel_rfl) ?_
                  refine Al_nil ?_
                  refine Ad_one 6 rfl (by kernel_rfl) ?_
                  refine Al_pu (Pu_call (hat2) rfl ⟨Sub.rfl, Sub.rfl, trivial⟩) rfl rfl (by decide) (by kernel_rfl) ?_
                  refine Al_nil ?_
                  refine Ad_take 7 rfl (PuI_move (.inl rfl) (by conv => lhs; whnf)) rfl rfl (by decide) (by kernel_rfl) (by kernel_rfl) (by kernel_rfl) (by kernel_rfl) (fun _ _ h => h) ?_
                  refine Ad_take 8 rfl (PuI_extract rfl rfl rfl) rfl rfl (by decide) (by kernel_rfl) (by kernel_rfl) (by kernel_rfl) (by kernel_rfl) (fun _ _ h => h) ?_
                  refine Ad_take 9 rfl (PuI_extract rfl rfl rfl) rfl rfl (by decide) (by kernel_rfl) (by kernel_rfl) (by kernel_rfl) (by kernel_rfl) (fun _ _ h => h) ?_
                  refine Ad_one 11 rfl (by kernel_rfl) ?_
                  refine Al_storeN rfl rfl rfl (by kernel_rfl) Tryz.isAgg36 Tryz.sizeOf36 rfl rfl rfl rfl (Nat.le_of_ble_eq_true rfl) ?_
                  refine Al_nil ?_
                  refine Ad_take 12 rfl (PuI_move (.inr rfl) (by conv => lhs; whnf)) rfl rfl (by decide) (by kernel_rfl) (by kernel_rfl) (by kernel_rfl) (by kernel_rfl) (fun _ _ h => h) ?_
                  refine Ad_done (by kernel_rfl) ?_
                  refine Aw_seq ?_
                  refine Aw_region ?_
                  refine Al_pu (Pu_loadbN (r := [_, _, _, _, _, _]) rfl Tryz.isAgg36 Tryz.sizeOf36 rfl rfl rfl rfl) rfl rfl (by decide) (by kernel_rfl) ?_
                  refine Al_pu (Pu_loadbN (r := [_, _, _, _, _, _]) rfl Tryz.isAgg36 Tryz.sizeOf36 rfl rfl rfl rfl) rfl rfl (by decide) (by kernel_rfl) ?_
                  refine Al_pu (Pu_call (rvsame_a (oa.getD default) (oa.getD default)) rfl ⟨Sub.rfl, Sub.rfl, trivial⟩) rfl rfl (by decide) (by kernel_rfl) ?_
                  refine Al_pu (Pu_move (.inr rfl) (by conv => lhs; whnf)) rfl rfl (by decide) (by kernel_rfl) ?_
                  refine Al_nil ?_
                  refine Aw_region ?_
                  refine Al_pu (Pu_move (.inl rfl) (by conv => lhs; whnf)) rfl rfl (by decide) (by kernel_rfl) ?_
                  refine Al_pu (Pu_move (.inl rfl) (by conv => lhs; whnf)) rfl rfl (by decide) (by kernel_rfl) ?_
                  refine Al_st (St_gd [] rfl rfl rfl rfl trivial (fun hg126 => by exact Pu_move (.inl rfl) (by conv => lhs; whnf))) rfl (by decide) (by kernel_rfl) (by intro j b oj dj h1 h2 h3; cases h1; cases h2; cases h3; decide) ?_
                  refine Al_st (St_gd [] rfl rfl rfl rfl trivial (fun hg127 => by exact Pu_move (.inl rfl) (by conv => lhs; whnf))) rfl (by decide) (by kernel_rfl) (by intro j b oj dj h1 h2 h3; cases h1; cases h2; cases h3; decide) ?_
                  refine Al_st (St_gd [126, 127] rfl rfl rfl rfl ⟨⟨_, rfl⟩, ⟨_, rfl⟩, trivial⟩ (fun hg128 => Pu_bool rfl Tryz.underlying4 rfl rfl rfl)) rfl (by decide) (by kernel_rfl) (by intro j b oj dj h1 h2 h3; cases h1; cases h2; cases h3; decide) ?_
                  refine Al_pu (Pu_and rfl rfl rfl rfl) rfl rfl (by decide) (by kernel_rfl) ?_
                  refine Al_pu (Pu_move (.inr rfl) (by conv => lhs; whnf)) rfl rfl (by decide) (by kernel_rfl) ?_
                  refine Al_nil ?_
                  exact ⟨(rs, cs, g), ⟨hown.mono (by omega), hch, hrl⟩, Le.ov ⟨Sub.bool (by simp), trivial⟩ ⟨Sub.rfl, Sub.rfl, Sub.rfl, Sub.rfl, Sub.rfl, Sub.rfl, trivial⟩ ⟨rfl, rfl, rfl, rfl, trivial⟩ ⟨rfl, trivial⟩⟩ -- join 1 next.4
              · refine Al_pu (Pu_loadbN (r := [_, _]) rfl Tryz.isAgg33 Tryz.sizeOf33 rfl rfl rfl rfl) rfl rfl (by decide) (by kernel_rfl) ?_
                refine Al_nil ?_
                refine Ad_two 3 10 rfl rfl (by kernel_rfl) ?_ ?_
                · refine Al_gcall [(1001, 35, g35), (1002, 350, g)] [] (rof13_g rs cs v.key hcl) rfl rfl rfl (by decide) (by kernel_rfl) ⟨rfl, rfl, trivial⟩ rfl ⟨Sub.rfl, Sub.rfl, trivial⟩ (fun g115 => ?_)
                  refine Al_nil ?_
                  refine Ad_two 6 10 rfl rfl (by kernel_rfl) ?_ ?_
                  · refine Al_pu (Pu_call (hat2) rfl ⟨Sub.rfl, Sub.rfl, trivial⟩) rfl rfl (by decide) (by kernel_rfl) ?_
                    refine Al_nil ?_
                    refine Ad_take 7 rfl (PuI_move (.inl rfl) (by conv => lhs; whnf)) rfl rfl (by decide) (by kernel_rfl) (by kernel_rfl) (by kernel_rfl) (by kernel_rfl) (fun _ _ h => h) ?_
                    refine Ad_take 8 rfl (PuI_extract rfl rfl rfl) rfl rfl (by decide) (by kernel_rfl) (by kernel_rfl) (by kernel_rfl) (by kernel_rfl) (fun _ _ h => h) ?_
                    refine Ad_take 9 rfl (PuI_extract rfl rfl rfl) rfl rfl (by decide) (by kernel_rfl) (by kernel_rfl) (by kernel_rfl) (by kernel_rfl) (fun _ _ h => h) ?_
                    refine Ad_one 10 rfl (by kernel_rfl) ?_
                    refine Al_alloc rfl rfl rfl (by decide) Tryz.zeroValue36 rfl (by kernel_rfl) (fun g14 => ?_)
                    refine Al_nil ?_
                    refine Ad_one 11 rfl (by kernel_rfl) ?_
                    refine Al_storeN rfl rfl rfl (by kernel_rfl) Tryz.isAgg36 Tryz.sizeOf36 rfl rfl rfl rfl (Nat.le_of_ble_eq_true rfl) ?_
                    refine Al_nil ?_
                    refine Ad_take 12 rfl (PuI_move (.inr rfl) (by conv => lhs; whnf)) rfl rfl (by decide) (by kernel_rfl) (by kernel_rfl) (by kernel_rfl) (by kernel_rfl) (fun _ _ h => h) ?_
                    refine Ad_done (by kernel_rfl) ?_
                    refine Aw_seq ?_
                    refine Aw_region ?_
                    refine Al_pu (Pu_loadbN (r := [_, _, _, _, _, _]) rfl Tryz.isAgg36 Tryz.sizeOf36 rfl rfl rfl rfl) rfl rfl (by decide) (by kernel_rfl) ?_
                    refine Al_pu (Pu_loadbN (r := [_, _, _, _, _, _]) rfl Tryz.isAgg36 Tryz.sizeOf36 rfl rfl rfl rfl) rfl rfl (by decide) (by kernel_rfl) ?_
                    refine Al_pu (Pu_call (rvsame_a (oa.getD default) (oa.getD default)) rfl ⟨Sub.rfl, Sub.rfl, trivial⟩) rfl rfl (by decide) (by kernel_rfl) ?_
                    refine Al_pu (Pu_move (.inr rfl) (by conv => lhs; whnf)) rfl rfl (by decide) (by kernel_rfl) ?_
                    refine Al_nil ?_
                    refine Aw_region ?_
                    refine Al_pu (Pu_move (.inl rfl) (by conv => lhs; whnf)) rfl rfl (by decide) (by kernel_rfl) ?_
                    refine Al_pu (Pu_move (.inl rfl) (by conv => lhs; whnf)) rfl rfl (by decide) (by kernel_rfl) ?_
                    refine Al_st (St_gd [] rfl rfl rfl rfl trivial (fun hg126 => by exact Pu_move (.inl rfl) (by conv => lhs; whnf))) rfl (by decide) (by kernel_rfl) (by intro j b oj dj h1 h2 h3; cases h1; cases h2; cases h3; decide) ?_
                    refine Al_st (St_gd [] rfl rfl rfl rfl trivial (fun hg127 => by exact Pu_move (.inl rfl) (by conv => lhs; whnf))) rfl (by decide) (by kernel_rfl) (by intro j b oj dj h1 h2 h3; cases h1; cases h2; cases h3; decide) ?_
                    refine Al_st (St_gd [126, 127] rfl rfl rfl rfl ⟨⟨_, rfl⟩, ⟨_, rfl⟩, trivial⟩ (fun hg128 => Pu_bool rfl Tryz.underlying4 rfl rfl rfl)) rfl (by decide) (by kernel_rfl) (by intro j b oj dj h1 h2 h3; cases h1; cases h2; cases h3; decide) ?_
                    refine Al_pu (Pu_and rfl rfl rfl rfl) rfl rfl (by decide) (by kernel_rfl) ?_
                    refine Al_pu (Pu_move (.inr rfl) (by conv => lhs; whnf)) rfl rfl (by decide) (by kernel_rfl) ?_
                    refine Al_nil ?_
                    exact ⟨(rs, cs, g), ⟨hown.mono (by omega), hch, hrl⟩, Le.ov ⟨Sub.bool (by simp), trivial⟩ ⟨Sub.rfl, Sub.rfl, Sub.rfl, Sub.rfl, Sub.rfl, Sub.rfl, trivial⟩ ⟨rfl, rfl, rfl, rfl, trivial⟩ ⟨rfl, trivial⟩⟩ -- join 1 next.5
                  · refine Al_alloc rfl rfl rfl (by decide) Tryz.zeroValue36 rfl (by kernel_rfl) (fun g14 => ?_)
                    refine Al_nil ?_
                    refine Ad_one 6 rfl (by kernel_rfl) ?_
                    refine Al_pu (Pu_call (hat2) rfl ⟨Sub.rfl, Sub.rfl, trivial⟩) rfl rfl (by decide) (by kernel_rfl) ?_
                    refine Al_nil ?_
                    refine Ad_take 7 rfl (PuI_move (.inl rfl) (by conv => lhs; whnf)) rfl rfl (by decide) (by kernel_rfl) (by kernel_rfl) (by kernel_rfl) (by kernel_rfl) (fun _ _ h => h) ?_
                    refine Ad_take 8 rfl (PuI_extract rfl rfl rfl) rfl rfl (by decide) (by kernel_rfl) (by kernel_rfl) (by kernel_rfl) (by kernel_rfl) (fun _ _ h => h) ?_
                    refine Ad_take 9 rfl (PuI_extract rfl rfl rfl) rfl rfl (by decide) (by kernel_rfl) (by kernel_rfl) (by kernel_rfl) (by kernel_rfl) (fun _ _ h => h) ?_
                    refine Ad_one 11 rfl (by kernel_rfl) ?_
                    refine Al_storeN rfl rfl rfl (by kernel_rfl) Tryz.isAgg36 Tryz.sizeOf36 rfl rfl rfl rfl (Nat.le_of_ble_eq_true rfl) ?_
                    refine Al_nil ?_
                    refine Ad_take 12 rfl (PuI_move (.inr rfl) (by conv => lhs; whnf)) rfl rfl (by decide) (by kernel_rfl) (by kernel_rfl) (by kernel_rfl) (by kernel_rfl) (fun _ _ h => h) ?_
                    refine Ad_done (by kernel_rfl) ?_
                    refine Aw_seq ?_
                    refine Aw_region ?_
                    refine Al_pu (Pu_loadbN (r := [_, _, _, _, _, _]) rfl Tryz.isAgg36 Tryz.sizeOf36 rfl rfl rfl rfl) rfl rfl (by decide) (by kernel_rfl) ?_
                    refine Al_pu (Pu_loadbN (r := [_, _, _, _, _, _]) rfl Tryz.isAgg36 Tryz.sizeOf36 rfl rfl rfl rfl) rfl rfl (by decide) (by kernel_rfl) ?_
                    refine Al_pu (Pu_call (rvsame_a (oa.getD default) (oa.getD default)) rfl ⟨Sub.rfl, Sub.rfl, trivial⟩) rfl rfl (by decide) (by kernel_rfl) ?_
                    refine Al_pu (Pu_move (.inr rfl) (by conv => lhs; whnf)) rfl rfl (by decide) (by kernel_rfl) ?_
                    refine Al_nil ?_
                    refine Aw_region ?_
                    refine Al_pu (Pu_move (.inl rfl) (by conv => lhs; whnf)) rfl rfl (by decide) (by kernel_rfl) ?_
                    refine Al_pu (Pu_move (.inl rfl) (by conv => lhs; whnf)) rfl rfl (by decide) (by kernel_rfl) ?_
                    refine Al_st (St_gd [] rfl rfl rfl rfl trivial (fun hg126 => by exact Pu_move (.inl rfl) (by conv => lhs; whnf))) rfl (by decide) (by kernel_rfl) (by intro j b oj dj h1 h2 h3; cases h1; cases h2; cases h3; decide) ?_
                    refine Al_st (St_gd [] rfl rfl rfl rfl trivial (fun hg127 => by exact Pu_move (.inl rfl) (by conv => lhs; whnf))) rfl (by decide) (by kernel_rfl) (by intro j b oj dj h1 h2 h3; cases h1; cases h2; cases h3; decide) ?_
                    refine Al_st (St_gd [126, 127] rfl rfl rfl rfl ⟨⟨_, rfl⟩, ⟨_, rfl⟩, trivial⟩ (fun hg128 => Pu_bool rfl Tryz.underlying4 rfl rfl rfl)) rfl (by decide) (by kernel_rfl) (by intro j b oj dj h1 h2 h3; cases h1; cases h2; cases h3; decide) ?_
                    refine Al_pu (Pu_and rfl rfl rfl rfl) rfl rfl (by decide) (by kernel_rfl) ?_
                    refine Al_pu (Pu_move (.inr rfl) (by conv => lhs; whnf)) rfl rfl (by decide) (by kernel_rfl) ?_
                    refine Al_nil ?_
                    exact ⟨(rs, cs, g), ⟨hown.mono (by omega), hch, hrl⟩, Le.ov ⟨Sub.bool (by simp), trivial⟩ ⟨Sub.rfl, Sub.rfl, Sub.rfl, Sub.rfl, Sub.rfl, Sub.rfl, trivial⟩ ⟨rfl, rfl, rfl, rfl, trivial⟩ ⟨rfl, trivial⟩⟩ -- join 1 next.6
                · refine Al_alloc rfl rfl rfl (by decide) Tryz.zeroValue36 rfl (by kernel_rfl) (fun g14 => ?_)
                  refine Al_nil ?_
                  refine Ad_one 3 rfl (by kernel_rfl) ?_
                  refine Al_gcall [(1001, 35, g35), (1002, 350, g)] [] (rof13_g rs cs v.key hcl) rfl rfl rfl (by decide) (by kernel_rfl) ⟨rfl, rfl, trivial⟩ rfl ⟨Sub.rfl, Sub.rfl, trivial⟩ (fun g115 => ?_)
                  refine Al_nil ?_
                  refine Ad_one 6 rfl (by kernel_rfl) ?_
                  refine Al_pu (Pu_call (hat2) rfl ⟨Sub.rfl, Sub.rfl, trivial⟩) rfl rfl (by decide) (by kernel_rfl) ?_
                  refine Al_nil ?_
                  refine Ad_take 7 rfl (PuI_move (.inl rfl) (by conv => lhs; whnf)) rfl rfl (by decide) (by kernel_rfl) (by kernel_rfl) (by kernel_rfl) (by kernel_rfl) (fun _ _ h => h) ?_
                  refine Ad_take 8 rfl (PuI_extract rfl rfl rfl) rfl rfl (by decide) (by kernel_rfl) (by kernel_rfl) (by kernel_rfl) (by kernel_rfl) (fun _ _ h => h) ?_
                  refine Ad_take 9 rfl (PuI_extract rfl rfl rfl) rfl rfl (by decide) (by kernel_rfl) (by kernel_rfl) (by kernel_rfl) (by kernel_rfl) (fun _ _ h => h) ?_
                  refine Ad_one 11 rfl (by kernel_rfl) ?_
                  refine Al_storeN rfl rfl rfl (by kernel_rfl) Tryz.isAgg36 Tryz.sizeOf36 rfl rfl rfl rfl (Nat.le_of_ble_eq_true rfl) ?_
                  refine Al_nil ?_
                  refine Ad_take 12 rfl (PuI_move (.inr rfl) (by conv => lhs; whnf)) rfl rfl (by decide) (by kernel_rfl) (by kernel_rfl) (by kernel_rfl) (by kernel_rfl) (fun _ _ h => h) ?_
                  refine Ad_done (by kernel_rfl) ?_
                  refine Aw_seq ?_
                  refine Aw_region ?_
                  refine Al_pu (Pu_loadbN (r := [_, _, _, _, _, _]) rfl Tryz.isAgg36 Tryz.sizeOf36 rfl rfl rfl rfl) rfl rfl (by decide) (by kernel_rfl) ?_
                  refine Al_pu (Pu_loadbN (r := [_, _, _, _, _, _]) rfl Tryz.isAgg36 Tryz.sizeOf36 rfl rfl rfl rfl) rfl rfl (by decide) (by kernel_rfl) ?_
                  refine Al_pu (Pu_call (rvsame_a (oa.getD default) (oa.getD default)) rfl ⟨Sub.rfl, Sub.rfl, trivial⟩) rfl rfl (by decide) (by kernel_rfl) ?_
                  refine Al_pu (Pu_move (.inr rfl) (by conv => lhs; whnf)) rfl rfl (by decide) (by kernel_rfl) ?_
                  refine Al_nil ?_
                  refine Aw_region ?_
                  refine Al_pu (Pu_move (.inl rfl) (by conv => lhs; whnf)) rfl rfl (by decide) (by kernel_rfl) ?_
                  refine Al_pu (Pu_move (.inl rfl) (by conv => lhs; whnf)) rfl rfl (by decide) (by kernel_rfl) ?_
                  refine Al_st (St_gd [] rfl rfl rfl rfl trivial (fun hg126 => by exact Pu_move (.inl rfl) (by conv => lhs; whnf))) rfl (by decide) (by kernel_rfl) (by intro j b oj dj h1 h2 h3; cases h1; cases h2; cases h3; decide) ?_
                  refine Al_st (St_gd [] rfl rfl rfl rfl trivial (fun hg127 => by exact Pu_move (.inl rfl) (by conv => lhs; whnf))) rfl (by decide) (by kernel_rfl) (by intro j b oj dj h1 h2 h3; cases h1; cases h2; cases h3; decide) ?_
                  refine Al_st (St_gd [126, 127] rfl rfl rfl rfl ⟨⟨_, rfl⟩, ⟨_, rfl⟩, trivial⟩ (fun hg128 => Pu_bool rfl Tryz.underlying4 rfl rfl rfl)) rfl (by decide) (by kernel_rfl) (by intro j b oj dj h1 h2 h3; cases h1; cases h2; cases h3; decide) ?_
                  refine Al_pu (Pu_and rfl rfl rfl rfl) rfl rfl (by decide) (by kernel_rfl) ?_
                  refine Al_pu (Pu_move (.inr rfl) (by conv => lhs; whnf)) rfl rfl (by decide) (by kernel_rfl) ?_
                  refine Al_nil ?_
                  exact ⟨(rs, cs, g), ⟨hown.mono (by omega), hch, hrl⟩, Le.ov ⟨Sub.bool (by simp), trivial⟩ ⟨Sub.rfl, Sub.rfl, Sub.rfl, Sub.rfl, Sub.rfl, Sub.rfl, trivial⟩ ⟨rfl, rfl, rfl, rfl, trivial⟩ ⟨rfl, trivial⟩⟩ -- join 1 next.7
              · refine Al_alloc rfl rfl rfl (by decide) Tryz.zeroValue36 rfl (by kernel_rfl) (fun g14 => ?_)
                refine Al_nil ?_
                refine Ad_two 3 5 rfl rfl (by kernel_rfl) ?_ ?_
                · refine Al_gcall [(1001, 35, g35), (1002, 350, g)] [] (rof13_g rs cs v.key hcl) rfl rfl rfl (by decide) (by kernel_rfl) ⟨rfl, rfl, trivial⟩ rfl ⟨Sub.rfl, Sub.rfl, trivial⟩ (fun g115 => ?_)
                  refine Al_nil ?_
                  refine Ad_one 5 rfl (by kernel_rfl) ?_
                  refine Al_pu (Pu_loadbN (r := [_, _]) rfl Tryz.isAgg33 Tryz.sizeOf33 rfl rfl rfl rfl) rfl rfl (by decide) (by kernel_rfl) ?_
                  refine Al_nil ?_
                  refine Ad_one 6 rfl (by kernel_rfl) ?_
                  refine Al_pu (Pu_call (hat2) rfl ⟨Sub.rfl, Sub.rfl, trivial⟩) rfl rfl (by decide) (by kernel_rfl) ?_
                  refine Al_nil ?_
                  refine Ad_take 7 rfl (PuI_move (.inl rfl) (by conv => lhs; whnf)) rfl rfl (by decide) (by kernel_rfl) (by kernel_rfl) (by kernel_rfl) (by kernel_rfl) (fun _ _ h => h) ?_
                  refine Ad_take 8 rfl (PuI_extract rfl rfl rfl) rfl rfl (by decide) (by kernel_rfl) (by kernel_rfl) (by kernel_rfl) (by kernel_rfl) (fun _ _ h => h) ?_
                  refine Ad_take 9 rfl (PuI_extract rfl rfl rfl) rfl rfl (by decide) (by kernel_rfl) (by kernel_rfl) (by kernel_rfl) (by kernel_rfl) (fun _ _ h => h) ?_
                  refine Ad_one 11 rfl (by kernel_rfl) ?_
                  refine Al_storeN rfl rfl rfl (by kernel_rfl) Tryz.isAgg36 Tryz.sizeOf36 rfl rfl rfl rfl (Nat.le_of_ble_eq_true rfl) ?_
                  refine Al_nil ?_
                  refine Ad_take 12 rfl (PuI_move (.inr rfl) (by conv => lhs; whnf)) rfl rfl (by decide) (by kernel_rfl) (by kernel_rfl) (by kernel_rfl) (by kernel_rfl) (fun _ _ h => h) ?_
                  refine Ad_done (by kernel_rfl) ?_
                  refine Aw_seq ?_
                  refine Aw_region ?_
                  refine Al_pu (Pu_loadbN (r := [_, _, _, _, _, _]) rfl Tryz.isAgg36 Tryz.sizeOf36 rfl rfl rfl rfl) rfl rfl (by decide) (by kernel_rfl) ?_
                  refine Al_pu (Pu_loadbN (r := [_, _, _, _, _, _]) rfl Tryz.isAgg36 Tryz.sizeOf36 rfl rfl rfl rfl) rfl rfl (by decide) (by kernel_rfl) ?_
                  refine Al_pu (Pu_call (rvsame_a (oa.getD default) (oa.getD default)) rfl ⟨Sub.rfl, Sub.rfl, trivial⟩) rfl rfl (by decide) (by kernel_rfl) ?_
                  refine Al_pu (Pu_move (.inr rfl) (by conv => lhs; whnf)) rfl rfl (by decide) (by kernel_rfl) ?_
                  refine Al_nil ?_
                  refine Aw_region ?_
                  refine Al_pu (Pu_move (.inl rfl) (by conv => lhs; whnf)) rfl rfl (by decide) (by kernel_rfl) ?_
                  refine Al_pu (Pu_move (.inl rfl) (by conv => lhs; whnf)) rfl rfl (by decide) (by kernel_rfl) ?_
                  refine Al_st (St_gd [] rfl rfl rfl rfl trivial (fun hg126 => by exact Pu_move (.inl rfl) (by conv => lhs; whnf))) rfl (by decide) (by kernel_rfl) (by intro j b oj dj h1 h2 h3; cases h1; cases h2; cases h3; decide) ?_
                  refine Al_st (St_gd [] rfl rfl rfl rfl trivial (fun hg127 => by exact Pu_move (.inl rfl) (by conv => lhs; whnf))) rfl (by decide) (by kernel_rfl) (by intro j b oj dj h1 h2 h3; cases h1; cases h2; cases h3; decide) ?_
                  refine Al_st (St_gd [126, 127] rfl rfl rfl rfl ⟨⟨_, rfl⟩, ⟨_, rfl⟩, trivial⟩ (fun hg128 => Pu_bool rfl Tryz.underlying4 rfl rfl rfl)) rfl (by decide) (by kernel_rfl) (by intro j b oj dj h1 h2 h3; cases h1; cases h2; cases h3; decide) ?_
                  refine Al_pu (Pu_and rfl rfl rfl rfl) rfl rfl (by decide) (by kernel_rfl) ?_
                  refine Al_pu (Pu_move (.inr rfl) (by conv => lhs; whnf)) rfl rfl (by decide) (by kernel_rfl) ?_
                  refine Al_nil ?_
                  exact ⟨(rs, cs, g), ⟨hown.mono (by omega), hch, hrl⟩, Le.ov ⟨Sub.bool (by simp), trivial⟩ ⟨Sub.rfl, Sub.rfl, Sub.rfl, Sub.rfl, Sub.rfl, Sub.rfl, trivial⟩ ⟨rfl, rfl, rfl, rfl, trivial⟩ ⟨rfl, trivial⟩⟩ -- join 1 next.8
                · refine Al_pu (Pu_loadbN (r := [_, _]) rfl Tryz.isAgg33 Tryz.sizeOf33 rfl rfl rfl rfl) rfl rfl (by decide) (by kernel_rfl) ?_
                  refine Al_nil ?_
                  refine Ad_one 3 rfl (by kernel_rfl) ?_
                  refine Al_gcall [(1001, 35, g35), (1002, 350, g)] [] (rof13_g rs cs v.key hcl) rfl rfl rfl (by decide) (by kernel_rfl) ⟨rfl, rfl, trivial⟩ rfl ⟨Sub.rfl, Sub.rfl, trivial⟩ (fun g115 => ?_)
                  refine Al_nil ?_
                  refine Ad_one 6 rfl (by kernel_rfl) ?_
                  refine Al_pu (Pu_call (hat2) rfl ⟨Sub.rfl, Sub.rfl, trivial⟩) rfl rfl (by decide) (by kernel_rfl) ?_
                  refine Al_nil ?_
                  refine Ad_take 7 rfl (PuI_move (.inl rfl) (by conv => lhs; whnf)) rfl rfl (by decide) (by kernel_rfl) (by kernel_rfl) (by kernel_rfl) (by kernel_rfl) (fun _ _ h => h) ?_
                  refine Ad_take 8 rfl (PuI_extract rfl rfl rfl) rfl rfl (by decide) (by kernel_rfl) (by kernel_rfl) (by kernel_rfl) (by kernel_rfl) (fun _ _ h => h) ?_
                  refine Ad_take 9 rfl (PuI_extract rfl rfl rfl) rfl rfl (by decide) (by kernel_rfl) (by kernel_rfl) (by kernel_rfl) (by kernel_rfl) (fun _ _ h => h) ?_
                  refine Ad_one 11 rfl (by kernel_rfl) ?_
                  refine Al_storeN rfl rfl rfl (by kernel_rfl) Tryz.isAgg36 Tryz.sizeOf36 rfl rfl rfl rfl (Nat.le_of_ble_eq_true rfl) ?_
                  refine Al_nil ?_
                  refine Ad_take 12 rfl (PuI_move (.inr rfl) (by conv => lhs; whnf)) rfl rfl (by decide) (by kernel_rfl) (by kernel_rfl) (by kernel_rfl) (by kernel_rfl) (fun _ _ h => h) ?_
                  refine Ad_done (by kernel_rfl) ?_
                  refine Aw_seq ?_
                  refine Aw_region ?_
                  refine Al_pu (Pu_loadbN (r := [_, _, _, _, _, _]) rfl Tryz.isAgg36 Tryz.sizeOf36 rfl rfl rfl rfl) rfl rfl (by decide) (by kernel_rfl) ?_
                  refine Al_pu (Pu_loadbN (r := [_, _, _, _, _, _]) rfl Tryz.isAgg36 Tryz.sizeOf36 rfl rfl rfl rfl) rfl rfl (by decide) (by kernel_rfl) ?_
                  refine Al_pu (Pu_call (rvsame_a (oa.getD default) (oa.getD default)) rfl ⟨Sub.rfl, Sub.rfl, trivial⟩) rfl rfl (by decide) (by kernel_rfl) ?_
                  refine Al_pu (Pu_move (.inr rfl) (by conv => lhs; whnf)) rfl rfl (by decide) (by kernel_rfl) ?_
                  refine Al_nil ?_
                  refine Aw_region ?_
                  refine Al_pu (Pu_move (.inl rfl) (by conv => lhs; whnf)) rfl rfl (by decide) (by kernel_rfl) ?_
                  refine Al_pu (Pu_move (.inl rfl) (by conv => lhs; whnf)) rfl rfl (by decide) (by kernel_rfl) ?_
                  refine Al_st (St_gd [] rfl rfl rfl rfl trivial (fun hg126 => by exact Pu_move (.inl rfl) (by conv => lhs; whnf))) rfl (by decide) (by kernel_rfl) (by intro j b oj dj h1 h2 h3; cases h1; cases h2; cases h3; decide) ?_
                  refine Al_st (St_gd [] rfl rfl rfl rfl trivial (fun hg127 => by exact Pu_move (.inl rfl) (by conv => lhs; whnf))) rfl (by decide) (by kernel_rfl) (by intro j b oj dj h1 h2 h3; cases h1; cases h2; cases h3; decide) ?_
                  refine Al_st (St_gd [126, 127] rfl rfl rfl rfl ⟨⟨_, rfl⟩, ⟨_, rfl⟩, trivial⟩ (fun hg128 => Pu_bool rfl Tryz.underlying4 rfl rfl rfl)) rfl (by decide) (by kernel_rfl) (by intro j b oj dj h1 h2 h3; cases h1; cases h2; cases h3; decide) ?_
                  refine Al_pu (Pu_and rfl rfl rfl rfl) rfl rfl (by decide) (by kernel_rfl) ?_
                  refine Al_pu (Pu_move (.inr rfl) (by conv => lhs; whnf)) rfl rfl (by decide) (by kernel_rfl) ?_
                  refine Al_nil ?_
                  exact ⟨(rs, cs, g), ⟨hown.mono (by omega), hch, hrl⟩, Le.ov ⟨Sub.bool (by simp), trivial⟩ ⟨Sub.rfl, Sub.rfl, Sub.rfl, Sub.rfl, Sub.rfl, Sub.rfl, trivial⟩ ⟨rfl, rfl, rfl, rfl, trivial⟩ ⟨rfl, trivial⟩⟩ -- join 1 next.9
            · refine Al_pu (Pu_loadbN (r := [_, _]) rfl Tryz.isAgg33 Tryz.sizeOf33 rfl rfl rfl rfl) rfl rfl (by decide) (by kernel_rfl) ?_
              refine Al_nil ?_
              refine Ad_two 2 10 rfl rfl (by kernel_rfl) ?_ ?_
              · refine Al_pu (Pu_loadb rfl Tryz.isAgg9 rfl rfl rfl) rfl rfl (by decide) (by kernel_rfl) ?_
                refine Al_nil ?_
                refine Ad_two 3 10 rfl rfl (by kernel_rfl) ?_ ?_
                · refine Al_gcall [(1001, 35, g35), (1002, 350, g)] [] (rof13_g rs cs v.key hcl) rfl rfl rfl (by decide) (by kernel_rfl) ⟨rfl, rfl, trivial⟩ rfl ⟨Sub.rfl, Sub.rfl, trivial⟩ (fun g115 => ?_)
                  refine Al_nil ?_
                  refine Ad_two 6 10 rfl rfl (by kernel_rfl) ?_ ?_
                  · refine Al_pu (Pu_call (hat2) rfl ⟨Sub.rfl, Sub.rfl, trivial⟩) rfl rfl (by decide) (by kernel_rfl) ?_
                    refine Al_nil ?_
                    refine Ad_take 7 rfl (PuI_move (.inl rfl) (by conv => lhs; whnf)) rfl rfl (by decide) (by kernel_rfl) (by kernel_rfl) (by kernel_rfl) (by kernel_rfl) (fun _ _ h => h) ?_
                    refine Ad_take 8 rfl (PuI_extract rfl rfl rfl) rfl rfl (by decide) (by kernel_rfl) (by kernel_rfl) (by kernel_rfl) (by kernel_rfl) (fun _ _ h => h) ?_
                    refine Ad_take 9 rfl (PuI_extract rfl rfl rfl) rfl rfl (by decide) (by kernel_rfl) (by kernel_rfl) (by kernel_rfl) (by kernel_rfl) (fun _ _ h => h) ?_
                    refine Ad_one 10 rfl (by kernel_rfl) ?_
                    refine Al_alloc rfl rfl rfl (by decide) Tryz.zeroValue36 rfl (by kernel_rfl) (fun g14 => ?_)
                    refine Al_nil ?_
                    refine Ad_one 11 rfl (by kernel_rfl) ?_
                    refine Al_storeN rfl rfl rfl (by kernel_rfl) Tryz.isAgg36 Tryz.sizeOf36 rfl rfl rfl rfl (Nat.le_of_ble_eq_true rfl) ?_
                    refine Al_nil ?_
                    refine Ad_take 12 rfl (PuI_move (.inr rfl) (by conv => lhs; whnf)) rfl rfl (by decide) (by kernel_rfl) (by kernel_rfl) (by kernel_rfl) (by kernel_rfl) (fun _ _ h => h) ?_
                    refine Ad_done (by kernel_rfl) ?_
                    refine Aw_seq ?_
                    refine Aw_region ?_
                    refine Al_pu (Pu_loadbN (r := [_, _, _, _, _, _]) rfl Tryz.isAgg36 Tryz.sizeOf36 rfl rfl rfl rfl) rfl rfl (by decide) (by kernel_rfl) ?_
                    refine Al_pu (Pu_loadbN (r := [_, _, _, _, _, _]) rfl Tryz.isAgg36 Tryz.sizeOf36 rfl rfl rfl rfl) rfl rfl (by decide) (by kernel_rfl) ?_
                    refine Al_pu (Pu_call (rvsame_a (oa.getD default) (oa.getD default)) rfl ⟨Sub.rfl, Sub.rfl, trivial⟩) rfl rfl (by decide) (by kernel_rfl) ?_
                    refine Al_pu (Pu_move (.inr rfl) (by conv => lhs; whnf)) rfl rfl (by decide) (by kernel_rfl) ?_
                    refine Al_nil ?_
                    refine Aw_region ?_
                    refine Al_pu (Pu_move (.inl rfl) (by conv => lhs; whnf)) rfl rfl (by decide) (by kernel_rfl) ?_
                    refine Al_pu (Pu_move (.inl rfl) (by conv => lhs; whnf)) rfl rfl (by decide) (by kernel_rfl) ?_
                    refine Al_st (St_gd [] rfl rfl rfl rfl trivial (fun hg126 => by exact Pu_move (.inl rfl) (by conv => lhs; whnf))) rfl (by decide) (by kernel_rfl) (by intro j b oj dj h1 h2 h3; cases h1; cases h2; cases h3; decide) ?_
                    refine Al_st (St_gd [] rfl rfl rfl rfl trivial (fun hg127 => by exact Pu_move (.inl rfl) (by conv => lhs; whnf))) rfl (by decide) (by kernel_rfl) (by intro j b oj dj h1 h2 h3; cases h1; cases h2; cases h3; decide) ?_
                    refine Al_st (St_gd [126, 127] rfl rfl rfl rfl ⟨⟨_, rfl⟩, ⟨_, rfl⟩, trivial⟩ (fun hg128 => Pu_bool rfl Tryz.underlying4 rfl rfl rfl)) rfl (by decide) (by kernel_rfl) (by intro j b oj dj h1 h2 h3; cases h1; cases h2; cases h3; decide) ?_
                    refine Al_pu (Pu_and rfl rfl rfl rfl) rfl rfl (by decide) (by kernel_rfl) ?_
                    refine Al_pu (Pu_move (.inr rfl) (by conv => lhs; whnf)) rfl rfl (by decide) (by kernel_rfl) ?_
                    refine Al_nil ?_
                    exact ⟨(rs, cs, g), ⟨hown.mono (by omega), hch, hrl⟩, Le.ov ⟨Sub.bool (by simp), trivial⟩ ⟨Sub.rfl, Sub.rfl, Sub.rfl, Sub.rfl, Sub.rfl, Sub.rfl, trivial⟩ ⟨rfl, rfl, rfl, rfl, trivial⟩ ⟨rfl, trivial⟩⟩ -- join 1 next.10
                  · refine Al_alloc rfl rfl rfl (by decide) Tryz.zeroValue36 rfl (by kernel_rfl) (fun g14 => ?_)
                    refine Al_nil ?_
                    refine Ad_one 6 rfl (by kernel_rfl) ?_
                    refine Al_pu (Pu_call (hat2) rfl ⟨Sub.rfl, Sub.rfl, trivial⟩) rfl rfl (by decide) (by kernel_rfl) ?_
                    refine Al_nil ?_
                    refine Ad_take 7 rfl (PuI_move (.inl rfl) (by conv => lhs; whnf)) rfl rfl (by decide) (by kernel_rfl) (by kernel_rfl) (by kernel_rfl) (by kernel_rfl) (fun _ _ h => h) ?_
                    refine Ad_take 8 rfl (PuI_extract rfl rfl rfl) rfl rfl (by decide) (by kernel_rfl) (by kernel_rfl) (by kernel_rfl) (by kernel_rfl) (fun _ _ h => h) ?_
                    refine Ad_take 9 rfl (PuI_extract rfl rfl rfl) rfl rfl (by decide) (by kernel_rfl) (by kernel_rfl) (by kernel_rfl) (by kernel_rfl) (fun _ _ h => h) ?_
                    refine Ad_one 11 rfl (by kernel_rfl) ?_
                    refine Al_storeN rfl rfl rfl (by kernel_rfl) Tryz.isAgg36 Tryz.sizeOf36 rfl rfl rfl rfl (Nat.le_of_ble_eq_true rfl) ?_
                    refine Al_nil ?_
                    refine Ad_take 12 rfl (PuI_move (.inr rfl) (by conv => lhs; whnf)) rfl rfl (by decide) (by kernel_rfl) (by kernel_rfl) (by kernel_rfl) (by kernel_rfl) (fun _ _ h => h) ?_
                    refine Ad_done (by kernel_rfl) ?_
                    refine Aw_seq ?_
                    refine Aw_region ?_
                    refine Al_pu (Pu_loadbN (r := [_, _, _, _, _, _]) rfl Tryz.isAgg36 Tryz.sizeOf36 rfl rfl rfl rfl) rfl rfl (by decide) (by kernel_rfl) ?_
                    refine Al_pu (Pu_loadbN (r := [_, _, _, _, _, _]) rfl Tryz.isAgg36 Tryz.sizeOf36 rfl rfl rfl rfl) rfl rfl (by decide) (by kernel_rfl) ?_
                    refine Al_pu (Pu_call (rvsame_a (oa.getD default) (oa.getD default)) rfl ⟨Sub.rfl, Sub.rfl, trivial⟩) rfl rfl (by decide) (by kernel_rfl) ?_
                    refine Al_pu (Pu_move (.inr rfl) (by conv => lhs; whnf)) rfl rfl (by decide) (by kernel_rfl) ?_
                    refine Al_nil ?_
                    refine Aw_region ?_
                    refine Al_pu (Pu_move (.inl rfl) (by conv => lhs; whnf)) rfl rfl (by decide) (by kernel_rfl) ?_
                    refine Al_pu (Pu_move (.inl rfl) (by conv => lhs; whnf)) rfl rfl (by decide) (by kernel_rfl) ?_
                    refine Al_st (St_gd [] rfl rfl rfl rfl trivial (fun hg126 => by exact Pu_move (.inl rfl) (by conv => lhs; whnf))) rfl (by decide) (by kernel_rfl) (by intro j b oj dj h1 h2 h3; cases h1; cases h2; cases h3; decide) ?_
                    refine Al_st (St_gd [] rfl rfl rfl rfl trivial (fun hg127 => by exact Pu_move (.inl rfl) (by conv => lhs; whnf))) rfl (by decide) (by kernel_rfl) (by intro j b oj dj h1 h2 h3; cases h1; cases h2; cases h3; decide) ?_
                    refine Al_st (St_gd [126, 127] rfl rfl rfl rfl ⟨⟨_, rfl⟩, ⟨_, rfl⟩, trivial⟩ (fun hg128 => Pu_bool rfl Tryz.underlying4 rfl rfl rfl)) rfl (by decide) (by kernel_rfl) (by intro j b oj dj h1 h2 h3; cases h1; cases h2; cases h3; decide) ?_
                    refine Al_pu (Pu_and rfl rfl rfl rfl) rfl rfl (by decide) (by kernel_rfl) ?_
                    refine Al_pu (Pu_move (.inr rfl) (by conv => lhs; whnf)) rfl rfl (by decide) (by kernel_rfl) ?_
                    refine Al_nil ?_
                    exact ⟨(rs, cs, g), ⟨hown.mono (by omega), hch, hrl⟩, Le.ov ⟨Sub.bool (by simp), trivial⟩ ⟨Sub.rfl, Sub.rfl, Sub.rfl, Sub.rfl, Sub.rfl, Sub.rfl, trivial⟩ ⟨rfl, rfl, rfl, rfl, trivial⟩ ⟨rfl, trivial⟩⟩ -- join 1 next.11
                · refine Al_alloc rfl rfl rfl (by decide) Tryz.zeroValue36 rfl (by kernel_rfl) (fun g14 => ?_)
                  refine Al_nil ?_
                  refine Ad_one 3 rfl (by kernel_rfl) ?_
                  refine Al_gcall [(1001, 35, g35), (1002, 350, g)] [] (rof13_g rs cs v.key hcl) rfl rfl rfl (by decide) (by kernel_rfl) ⟨rfl, rfl, trivial⟩ rfl ⟨Sub.rfl, Sub.rfl, trivial⟩ (fun g115 => ?_)
                  refine Al_nil ?_
                  refine Ad_one 6 rfl (by kernel_rfl) ?_
                  refine Al_pu (Pu_call (hat2) rfl ⟨Sub.rfl, Sub.rfl, trivial⟩) rfl rfl (by decide) (by kernel_rfl) ?_
                  refine Al_nil ?_
                  refine Ad_take 7 rfl (PuI_move (.inl rfl) (by conv => lhs; whnf)) rfl rfl (by decide) (by kernel_rfl) (by kernel_rfl) (by kernel_rfl) (by kernel_rfl) (fun _ _ h => h) ?_
                  refine Ad_take 8 rfl (PuI_extract rfl rfl rfl) rfl rfl (by decide) (by kernel_rfl) (by kernel_rfl) (by kernel_rfl) (by kernel_rfl) (fun _ _ h => h) ?_
                  refine Ad_take 9 rfl (PuI_extract rfl rfl rfl) rfl rfl (by decide) (by kernel_rfl) (by kernel_rfl) (by kernel_rfl) (by kernel_rfl) (fun _ _ h => h) ?_
                  refine Ad_one 11 rfl (by kernel_rfl) ?_
                  refine Al_storeN rfl rfl rfl (by kernel_rfl) Tryz.isAgg36 Tryz.sizeOf36 rfl rfl rfl rfl (Nat.le_of_ble_eq_true rfl) ?_
                  refine Al_nil ?_
                  refine Ad_take 12 rfl (PuI_move (.inr rfl) (by conv => lhs; whnf)) rfl rfl (by decide) (by kernel_rfl) (by kernel_rfl) (by kernel_rfl) (by kernel_rfl) (fun _ _ h => h) ?_
                  refine Ad_done (by kernel_rfl) ?_
                  refine Aw_seq ?_
                  refine Aw_region ?_
                  refine Al_pu (Pu_loadbN (r := [_, _, _, _, _, _]) rfl Tryz.isAgg36 Tryz.sizeOf36 rfl rfl rfl rfl) rfl rfl (by decide) (by kernel_rfl) ?_
                  refine Al_pu (Pu_loadbN (r := [_, _, _, _, _, _]) rfl Tryz.isAgg36 Tryz.sizeOf36 rfl rfl rfl rfl) rfl rfl (by decide) (by kernel_rfl) ?_
                  refine Al_pu (Pu_call (rvsame_a (oa.getD default) (oa.getD default)) rfl ⟨Sub.rfl, Sub.rfl, trivial⟩) rfl rfl (by decide) (by kernel_rfl) ?_
                  refine Al_pu (Pu_move (.inr rfl) (by conv => lhs; whnf)) rfl rfl (by decide) (by kernel_rfl) ?_
                  refine Al_nil ?_
                  refine Aw_region ?_
                  refine Al_pu (Pu_move (.inl rfl) (by conv => lhs; whnf)) rfl rfl (by decide) (by kernel_rfl) ?_
                  refine Al_pu (Pu_move (.inl rfl) (by conv => lhs; whnf)) rfl rfl (by decide) (by kernel_rfl) ?_
                  refine Al_st (St_gd [] rfl rfl rfl rfl trivial (fun hg126 => by exact Pu_move (.inl rfl) (by conv => lhs; whnf))) rfl (by decide) (by kernel_rfl) (by intro j b oj dj h1 h2 h3; cases h1; cases h2; cases h3; decide) ?_
                  refine Al_st (St_gd [] rfl rfl rfl rfl trivial (fun hg127 => by exact Pu_move (.inl rfl) (by conv => lhs; whnf))) rfl (by decide) (by kernel_rfl) (by intro j b oj dj h1 h2 h3; cases h1; cases h2; cases h3; decide) ?_
                  refine Al_st (St_gd [126, 127] rfl rfl rfl rfl ⟨⟨_, rfl⟩, ⟨_, rfl⟩, trivial⟩ (fun hg128 => Pu_bool rfl Tryz.underlying4 rfl rfl rfl)) rfl (by decide) (by kernel_rfl) (by intro j b oj dj h1 h2 h3; cases h1; cases h2; cases h3; decide) ?_
                  refine Al_pu (Pu_and rfl rfl rfl rfl) rfl rfl (by decide) (by kernel_rfl) ?_
                  refine Al_pu (Pu_move (.inr rfl) (by conv => lhs; whnf)) rfl rfl (by decide) (by kernel_rfl) ?_
                  refine Al_nil ?_
                  exact ⟨(rs, cs, g), ⟨hown.mono (by omega), hch, hrl⟩, Le.ov ⟨Sub.bool (by simp), trivial⟩ ⟨Sub.rfl, Sub.rfl, Sub.rfl, Sub.rfl, Sub.rfl, Sub.rfl, trivial⟩ ⟨rfl, rfl, rfl, rfl, trivial⟩ ⟨rfl, trivial⟩⟩ -- join 1 next.12
              · refine Al_alloc rfl rfl rfl (by decide) Tryz.zeroValue36 rfl (by kernel_rfl) (fun g14 => ?_)
                refine Al_nil ?_
                refine Ad_one 2 rfl (by kernel_rfl) ?_
                refine Al_pu (Pu_loadb rfl Tryz.isAgg9 rfl rfl rfl) rfl rfl (by decide) (by kernel_rfl) ?_
                refine Al_nil ?_
                refine Ad_one 3 rfl (by kernel_rfl) ?_
                refine Al_gcall [(1001, 35, g35), (1002, 350, g)] [] (rof13_g rs cs v.key hcl) rfl rfl rfl (by decide) (by kernel_rfl) ⟨rfl, rfl, trivial⟩ rfl ⟨Sub.rfl, Sub.rfl, trivial⟩ (fun g115 => ?_)
                refine Al_nil ?_
                refine Ad_one 6 rfl (by kernel_rfl) ?_
                refine Al_pu (Pu_call (hat2) rfl ⟨Sub.rfl, Sub.rfl, trivial⟩) rfl rfl (by decide) (by kernel_rfl) ?_
                refine Al_nil ?_
                refine Ad_take 7 rfl (PuI_move (.inl rfl) (by conv => lhs; whnf)) rfl rfl (by decide) (by kernel_rfl) (by kernel_rfl) (by kernel_rfl) (by kernel_rfl) (fun _ _ h => h) ?_
                refine Ad_take 8 rfl (PuI_extract rfl rfl rfl) rfl rfl (by decide) (by kernel_rfl) (by kernel_rfl) (by kernel_rfl) (by kernel_rfl) (fun _ _ h => h) ?_
                refine Ad_take 9 rfl (PuI_extract rfl rfl rfl) rfl rfl (by decide) (by kernel_rfl) (by kernel_rfl) (by kernel_rfl) (by kernel_rfl) (fun _ _ h => h) ?_
                refine Ad_one 11 rfl (by kernel_rfl) ?_
                refine Al_storeN rfl rfl rfl (by kernel_rfl) Tryz.isAgg36 Tryz.sizeOf36 rfl rfl rfl rfl (Nat.le_of_ble_eq_true rfl) ?_
                refine Al_nil ?_
                refine Ad_take 12 rfl (PuI_move (.inr rfl) (by conv => lhs; whnf)) rfl rfl (by decide) (by kernel_rfl) (by kernel_rfl) (by kernel_rfl) (by kernel_rfl) (fun _ _ h => h) ?_
                refine Ad_done (by kernel_rfl) ?_
                refine Aw_seq ?_
                refine Aw_region ?_
                refine Al_pu (Pu_loadbN (r := [_, _, _, _, _, _]) rfl Tryz.isAgg36 Tryz.sizeOf36 rfl rfl rfl rfl) rfl rfl (by decide) (by kernel_rfl) ?_
                refine Al_pu (Pu_loadbN (r := [_, _, _, _, _, _]) rfl Tryz.isAgg36 Tryz.sizeOf36 rfl rfl rfl rfl) rfl rfl (by decide) (by kernel_rfl) ?_
                refine Al_pu (Pu_call (rvsame_a (oa.getD default) (oa.getD default)) rfl ⟨Sub.rfl, Sub.rfl, trivial⟩) rfl rfl (by decide) (by kernel_rfl) ?_
                refine Al_pu (Pu_move (.inr rfl) (by conv => lhs; whnf)) rfl rfl (by decide) (by kernel_rfl) ?_
                refine Al_nil ?_
                refine Aw_region ?_
                refine Al_pu (Pu_move (.inl rfl) (by conv => lhs; whnf)) rfl rfl (by decide) (by kernel_rfl) ?_
                refine Al_pu (Pu_move (.inl rfl) (by conv => lhs; whnf)) rfl rfl (by decide) (by kernel_rfl) ?_
                refine Al_st (St_gd [] rfl rfl rfl rfl trivial (fun hg126 => by exact Pu_move (.inl rfl) (by conv => lhs; whnf))) rfl (by decide) (by kernel_rfl) (by intro j b oj dj h1 h2 h3; cases h1; cases h2; cases h3; decide) ?_
                refine Al_st (St_gd [] rfl rfl rfl rfl trivial (fun hg127 => by exact Pu_move (.inl rfl) (by conv => lhs; whnf))) rfl (by decide) (by kernel_rfl) (by intro j b oj dj h1 h2 h3; cases h1; cases h2; cases h3; decide) ?_
                refine Al_st (St_gd [126, 127] rfl rfl rfl rfl ⟨⟨_, rfl⟩, ⟨_, rfl⟩, trivial⟩ (fun hg128 => Pu_bool rfl Tryz.underlying4 rfl rfl rfl)) rfl (by decide) (by kernel_rfl) (by intro j b oj dj h1 h2 h3; cases h1; cases h2; cases h3; decide) ?_
                refine Al_pu (Pu_and rfl rfl rfl rfl) rfl rfl (by decide) (by kernel_rfl) ?_
                refine Al_pu (Pu_move (.inr rfl) (by conv => lhs; whnf)) rfl rfl (by decide) (by kernel_rfl) ?_
                refine Al_nil ?_
                exact ⟨(rs, cs, g), ⟨hown.mono (by omega), hch, hrl⟩, Le.ov ⟨Sub.bool (by simp), trivial⟩ ⟨Sub.rfl, Sub.rfl, Sub.rfl, Sub.rfl, Sub.rfl, Sub.rfl, trivial⟩ ⟨rfl, rfl, rfl, rfl, trivial⟩ ⟨rfl, trivial⟩⟩ -- join 1 next.13
            · refine Al_alloc rfl rfl rfl (by decide) Tryz.zeroValue36 rfl (by kernel_rfl) (fun g14 => ?_)
              refine Al_nil ?_
              refine Ad_two 2 5 rfl rfl (by kernel_rfl) ?_ ?_
              · refine Al_pu (Pu_loadb rfl Tryz.isAgg9 rfl rfl rfl) rfl rfl (by decide) (by kernel_rfl) ?_
                refine Al_nil ?_
                refine Ad_two 3 5 rfl rfl (by kernel_rfl) ?_ ?_
                · refine Al_gcall [(1001, 35, g35), (1002, 350, g)] [] (rof13_g rs cs v.key hcl) rfl rfl rfl (by decide) (by kernel_rfl) ⟨rfl, rfl, trivial⟩ rfl ⟨Sub.rfl, Sub.rfl, trivial⟩ (fun g115 => ?_)
                  refine Al_nil ?_
                  refine Ad_one 5 rfl (by kernel_rfl) ?_
                  refine Al_pu (Pu_loadbN (r := [_, _]) rfl Tryz.isAgg33 Tryz.sizeOf33 rfl rfl rfl rfl) rfl rfl (by decide) (by kernel_rfl) ?_
                  refine Al_nil ?_
                  refine Ad_one 6 rfl (by kernel_rfl) ?_
                  refine Al_pu (Pu_call (hat2) rfl ⟨Sub.rfl, Sub.rfl, trivial⟩) rfl rfl (by decide) (by kernel_rfl) ?_
                  refine Al_nil ?_
                  refine Ad_take 7 rfl (PuI_move (.inl rfl) (by conv => lhs; whnf)) rfl rfl (by decide) (by kernel_rfl) (by kernel_rfl) (by kernel_rfl) (by kernel_rfl) (fun _ _ h => h) ?_
                  refine Ad_take 8 rfl (PuI_extract rfl rfl rfl) rfl rfl (by decide) (by kernel_rfl) (by kernel_rfl) (by kernel_rfl) (by kernel_rfl) (fun _ _ h => h) ?_
                  refine Ad_take 9 rfl (PuI_extract rfl rfl rfl) rfl rfl (by decide) (by kernel_rfl) (by kernel_rfl) (by kernel_rfl) (by kernel_rfl) (fun _ _ h => h) ?_
                  refine Ad_one 11 rfl (by kernel_rfl) ?_
                  refine Al_storeN rfl rfl rfl (by kernel_rfl) Tryz.isAgg36 Tryz.sizeOf36 rfl rfl rfl rfl (Nat.le_of_ble_eq_true rfl) ?_
                  refine Al_nil ?_
                  refine Ad_take 12 rfl (PuI_move (.inr rfl) (by conv => lhs; whnf)) rfl rfl (by decide) (by kernel_rfl) (by kernel_rfl) (by kernel_rfl) (by kernel_rfl) (fun _ _ h => h) ?_
                  refine Ad_done (by kernel_rfl) ?_
                  refine Aw_seq ?_
                  refine Aw_region ?_
                  refine Al_pu (Pu_loadbN (r := [_, _, _, _, _, _]) rfl Tryz.isAgg36 Tryz.sizeOf36 rfl rfl rfl rfl) rfl rfl (by decide) (by kernel_rfl) ?_
                  refine Al_pu (Pu_loadbN (r := [_, _, _, _, _, _]) rfl Tryz.isAgg36 Tryz.sizeOf36 rfl rfl rfl rfl) rfl rfl (by decide) (by kernel_rfl) ?_
                  refine Al_pu (Pu_call (rvsame_a (oa.getD default) (oa.getD default)) rfl ⟨Sub.rfl, Sub.rfl, trivial⟩) rfl rfl (by decide) (by kernel_rfl) ?_
                  refine Al_pu (Pu_move (.inr rfl) (by conv => lhs; whnf)) rfl rfl (by decide) (by kernel_rfl) ?_
                  refine Al_nil ?_
                  refine Aw_region ?_
                  refine Al_pu (Pu_move (.inl rfl) (by conv => lhs; whnf)) rfl rfl (by decide) (by kernel_rfl) ?_
                  refine Al_pu (Pu_move (.inl rfl) (by conv => lhs; whnf)) rfl rfl (by decide) (by kernel_rfl) ?_
                  refine Al_st (St_gd [] rfl rfl rfl rfl trivial (fun hg126 => by exact Pu_move (.inl rfl) (by conv => lhs; whnf))) rfl (by decide) (by kernel_rfl) (by intro j b oj dj h1 h2 h3; cases h1; cases h2; cases h3; decide) ?_
                  refine Al_st (St_gd [] rfl rfl rfl rfl trivial (fun hg127 => by exact Pu_move (.inl rfl) (by conv => lhs; whnf))) rfl (by decide) (by kernel_rfl) (by intro j b oj dj h1 h2 h3; cases h1; cases h2; cases h3; decide) ?_
                  refine Al_st (St_gd [126, 127] rfl rfl rfl rfl ⟨⟨_, rfl⟩, ⟨_, rfl⟩, trivial⟩ (fun hg128 => Pu_bool rfl Tryz.underlying4 rfl rfl rfl)) rfl (by decide) (by kernel_rfl) (by intro j b oj dj h1 h2 h3; cases h1; cases h2; cases h3; decide) ?_
                  refine Al_pu (Pu_and rfl rfl rfl rfl) rfl rfl (by decide) (by kernel_rfl) ?_
                  refine Al_pu (Pu_move (.inr rfl) (by conv => lhs; whnf)) rfl rfl (by decide) (by kernel_rfl) ?_
                  refine Al_nil ?_
                  exact ⟨(rs, cs, g), ⟨hown.mono (by omega), hch, hrl⟩, Le.ov ⟨Sub.bool (by simp), trivial⟩ ⟨Sub.rfl, Sub.rfl, Sub.rfl, Sub.rfl, Sub.rfl, Sub.rfl, trivial⟩ ⟨rfl, rfl, rfl, rfl, trivial⟩ ⟨rfl, trivial⟩⟩ -- join 1 next.14
                · refine Al_pu (Pu_loadbN (r := [_, _]) rfl Tryz.isAgg33 Tryz.sizeOf33 rfl rfl rfl rfl) rfl rfl (by decide) (by kernel_rfl) ?_
                  refine Al_nil ?_
                  refine Ad_one 3 rfl (by kernel_rfl) ?_
                  refine Al_gcall [(1001, 35, g35), (1002, 350, g)] [] (rof13_g rs cs v.key hcl) rfl rfl rfl (by decide) (by kernel_rfl) ⟨rfl, rfl, trivial⟩ rfl ⟨Sub.rfl, Sub.rfl, trivial⟩ (fun g115 => ?_)
                  refine Al_nil ?_
                  refine Ad_one 6 rfl (by kernel_rfl) ?_
                  refine Al_pu (Pu_call (hat2) rfl ⟨Sub.rfl, Sub.rfl, trivial⟩) rfl rfl (by decide) (by kernel_rfl) ?_
                  refine Al_nil ?_
                  refine Ad_take 7 rfl (PuI_move (.inl rfl) (by conv => lhs; whnf)) rfl rfl (by decide) (by kernel_rfl) (by kernel_rfl) (by kernel_rfl) (by kernel_rfl) (fun _ _ h => h) ?_
                  refine Ad_take 8 rfl (PuI_extract rfl rfl rfl) rfl rfl (by decide) (by kernel_rfl) (by kernel_rfl) (by kernel_rfl) (by kernel_rfl) (fun _ _ h => h) ?_
                  refine Ad_take 9 rfl (PuI_extract rfl rfl rfl) rfl rfl (by decide) (by kernel_rfl) (by kernel_rfl) (by kernel_rfl) (by kernel_rfl) (fun _ _ h => h) ?_
                  refine Ad_one 11 rfl (by kernel_rfl) ?_
                  refine Al_storeN rfl rfl rfl (by kernel_rfl) Tryz.isAgg36 Tryz.sizeOf36 rfl rfl rfl rfl (Nat.le_of_ble_eq_true rfl) ?_
                  refine Al_nil ?_
                  refine Ad_take 12 rfl (PuI_move (.inr rfl) (by conv => lhs; whnf)) rfl rfl (by decide) (by kernel_rfl) (by kernel_rfl) (by kernel_rfl) (by kernel_rfl) (fun _ _ h => h) ?_
                  refine Ad_done (by kernel_rfl) ?_
                  refine Aw_seq ?_
                  refine Aw_region ?_
                  refine Al_pu (Pu_loadbN (r := [_, _, _, _, _, _]) rfl Tryz.isAgg36 Tryz.sizeOf36 rfl rfl rfl rfl) rfl rfl (by decide) (by kernel_rfl) ?_
                  refine Al_pu (Pu_loadbN (r := [_, _, _, _, _, _]) rfl Tryz.isAgg36 Tryz.sizeOf36 rfl rfl rfl rfl) rfl rfl (by decide) (by kernel_rfl) ?_
                  refine Al_pu (Pu_call (rvsame_a (oa.getD default) (oa.getD default)) rfl ⟨Sub.rfl, Sub.rfl, trivial⟩) rfl rfl (by decide) (by kernel_rfl) ?_
                  refine Al_pu (Pu_move (.inr rfl) (by conv => lhs; whnf)) rfl rfl (by decide) (by kernel_rfl) ?_
                  refine Al_nil ?_
                  refine Aw_region ?_
                  refine Al_pu (Pu_move (.inl rfl) (by conv => lhs; whnf)) rfl rfl (by decide) (by kernel_rfl) ?_
                  refine Al_pu (Pu_move (.inl rfl) (by conv => lhs; whnf)) rfl rfl (by decide) (by kernel_rfl) ?_
                  refine Al_st (St_gd [] rfl rfl rfl rfl trivial (fun hg126 => by exact Pu_move (.inl rfl) (by conv => lhs; whnf))) rfl (by decide) (by kernel_rfl) (by intro j b oj dj h1 h2 h3; cases h1; cases h2; cases h3; decide) ?_
                  refine Al_st (St_gd [] rfl rfl rfl rfl trivial (fun hg127 => by exact Pu_move (.inl rfl) (by conv => lhs; whnf))) rfl (by decide) (by kernel_rfl) (by intro j b oj dj h1 h2 h3; cases h1; cases h2; cases h3; decide) ?_
                  refine Al_st (St_gd [126, 127] rfl rfl rfl rfl ⟨⟨_, rfl⟩, ⟨_, rfl⟩, trivial⟩ (fun hg128 => Pu_bool rfl Tryz.underlying4 rfl rfl rfl)) rfl (by decide) (by kernel_rfl) (by intro j b oj dj h1 h2 h3; cases h1; cases h2; cases h3; decide) ?_
                  refine Al_pu (Pu_and rfl rfl rfl rfl) rfl rfl (by decide) (by kernel_rfl) ?_
                  refine Al_pu (Pu_move (.inr rfl) (by conv => lhs; whnf)) rfl rfl (by decide) (by kernel_rfl) ?_
                  refine Al_nil ?_
                  exact ⟨(rs, cs, g), ⟨hown.mono (by omega), hch, hrl⟩, Le.ov ⟨Sub.bool (by simp), trivial⟩ ⟨Sub.rfl, Sub.rfl, Sub.rfl, Sub.rfl, Sub.rfl, Sub.rfl, trivial⟩ ⟨rfl, rfl, rfl, rfl, trivial⟩ ⟨rfl, trivial⟩⟩ -- join 1 next.15
              · refine Al_pu (Pu_loadbN (r := [_, _]) rfl Tryz.isAgg33 Tryz.sizeOf33 rfl rfl rfl rfl) rfl rfl (by decide) (by kernel_rfl) ?_
                refine Al_nil ?_
                refine Ad_one 2 rfl (by kernel_rfl) ?_
                refine Al_pu (Pu_loadb rfl Tryz.isAgg9 rfl rfl rfl) rfl rfl (by decide) (by kernel_rfl) ?_
                refine Al_nil ?_
                refine Ad_one 3 rfl (by kernel_rfl) ?_
                refine Al_gcall [(1001, 35, g35), (1002, 350, g)] [] (rof13_g rs cs v.key hcl) rfl rfl rfl (by decide) (by kernel_rfl) ⟨rfl, rfl, trivial⟩ rfl ⟨Sub.rfl, Sub.rfl, trivial⟩ (fun g115 => ?_)
                refine Al_nil ?_
                refine Ad_one 6 rfl (by kernel_rfl) ?_
                refine Al_pu (Pu_call (hat2) rfl ⟨Sub.rfl, Sub.rfl, trivial⟩) rfl rfl (by decide) (by kernel_rfl) ?_
                refine Al_nil ?_
                refine Ad_take 7 rfl (PuI_move (.inl rfl) (by conv => lhs; whnf)) rfl rfl (by decide) (by kernel_rfl) (by kernel_rfl) (by kernel_rfl) (by kernel_rfl) (fun _ _ h => h) ?_
                refine Ad_take 8 rfl (PuI_extract rfl rfl rfl) rfl rfl (by decide) (by kernel_rfl) (by kernel_rfl) (by kernel_rfl) (by kernel_rfl) (fun _ _ h => h) ?_
                refine Ad_take 9 rfl (PuI_extract rfl rfl rfl) rfl rfl (by decide) (by kernel_rfl) (by kernel_rfl) (by kernel_rfl) (by kernel_rfl) (fun _ _ h => h) ?_
                refine Ad_one 11 rfl (by kernel_rfl) ?_
                refine Al_storeN rfl rfl rfl (by kernel_rfl) Tryz.isAgg36 Tryz.sizeOf36 rfl rfl rfl rfl (Nat.le_of_ble_eq_true rfl) ?_
                refine Al_nil ?_
                refine Ad_take 12 rfl (PuI_move (.inr rfl) (by conv => lhs; whnf)) rfl rfl (by decide) (by kernel_rfl) (by kernel_rfl) (by kernel_rfl) (by kernel_rfl) (fun _ _ h => h) ?_
                refine Ad_done (by kernel_rfl) ?_
                refine Aw_seq ?_
                refine Aw_region ?_
                refine Al_pu (Pu_loadbN (r := [_, _, _, _, _, _]) rfl Tryz.isAgg36 Tryz.sizeOf36 rfl rfl rfl rfl) rfl rfl (by decide) (by kernel_rfl) ?_
                refine Al_pu (Pu_loadbN (r := [_, _, _, _, _, _]) rfl Tryz.isAgg36 Tryz.sizeOf36 rfl rfl rfl rfl) rfl rfl (by decide) (by kernel_rfl) ?_
                refine Al_pu (Pu_call (rvsame_a (oa.getD default) (oa.getD default)) rfl ⟨Sub.rfl, Sub.rfl, trivial⟩) rfl rfl (by decide) (by kernel_rfl) ?_
                refine Al_pu (Pu_move (.inr rfl) (by conv => lhs; whnf)) rfl rfl (by decide) (by kernel_rfl) ?_
                refine Al_nil ?_
                refine Aw_region ?_
                refine Al_pu (Pu_move (.inl rfl) (by conv => lhs; whnf)) rfl rfl (by decide) (by kernel_rfl) ?_
                refine Al_pu (Pu_move (.inl rfl) (by conv => lhs; whnf)) rfl rfl (by decide) (by kernel_rfl) ?_
                refine Al_st (St_gd [] rfl rfl rfl rfl trivial (fun hg126 => by exact Pu_move (.inl rfl) (by conv => lhs; whnf))) rfl (by decide) (by kernel_rfl) (by intro j b oj dj h1 h2 h3; cases h1; cases h2; cases h3; decide) ?_
                refine Al_st (St_gd [] rfl rfl rfl rfl trivial (fun hg127 => by exact Pu_move (.inl rfl) (by conv => lhs; whnf))) rfl (by decide) (by kernel_rfl) (by intro j b oj dj h1 h2 h3; cases h1; cases h2; cases h3; decide) ?_
                refine Al_st (St_gd [126, 127] rfl rfl rfl rfl ⟨⟨_, rfl⟩, ⟨_, rfl⟩, trivial⟩ (fun hg128 => Pu_bool rfl Tryz.underlying4 rfl rfl rfl)) rfl (by decide) (by kernel_rfl) (by intro j b oj dj h1 h2 h3; cases h1; cases h2; cases h3; decide) ?_
                refine Al_pu (Pu_and rfl rfl rfl rfl) rfl rfl (by decide) (by kernel_rfl) ?_
                refine Al_pu (Pu_move (.inr rfl) (by conv => lhs; whnf)) rfl rfl (by decide) (by kernel_rfl) ?_
                refine Al_nil ?_
                exact ⟨(rs, cs, g), ⟨hown.mono (by omega), hch, hrl⟩, Le.ov ⟨Sub.bool (by simp), trivial⟩ ⟨Sub.rfl, Sub.rfl, Sub.rfl, Sub.rfl, Sub.rfl, Sub.rfl, trivial⟩ ⟨rfl, rfl, rfl, rfl, trivial⟩ ⟨rfl, trivial⟩⟩ -- join 1 next.16
          · (try simp only [decide_eq_true_eq, decide_eq_false_iff_not, Bool.and_eq_true, Bool.or_eq_true, Bool.and_eq_false_iff, Bool.or_eq_false_iff, Bool.not_eq_true', Bool.not_eq_false', beq_iff_eq, Bool.not_eq_eq_eq_not, Bool.not_true, Bool.not_false, List.length_map, Bool.and_true, Bool.and_false, Bool.false_and, Bool.true_and, Bool.or_false, Bool.false_or] at h100)
            refine Aw_drawn (by kernel_rfl) ?_
            refine Ad_take 0 rfl (PuI_move (.inl rfl) (by conv => lhs; whnf)) rfl rfl (by decide) (by kernel_rfl) (by kernel_rfl) (by kernel_rfl) (by kernel_rfl) (fun _ _ h => h) ?_
            refine Ad_take 3 rfl (PuI_move (.inl rfl) (by conv => lhs; whnf)) rfl rfl (by decide) (by kernel_rfl) (by kernel_rfl) (by kernel_rfl) (by kernel_rfl) (fun _ _ h => h) ?_
            refine Ad_two 1 4 rfl rfl (by kernel_rfl) ?_ ?_
            · refine Al_pu (Pu_loadbN (r := [_, _, _, _, _, _]) rfl Tryz.isAgg36 Tryz.sizeOf36 rfl rfl rfl rfl) rfl rfl (by decide) (by kernel_rfl) ?_
              refine Al_nil ?_
              refine Ad_two 2 4 rfl rfl (by kernel_rfl) ?_ ?_
              · refine Al_gcall [(1001, 29, g29), (1002, 220, g29)] [] (hput) rfl rfl rfl (by decide) (by kernel_rfl) ⟨rfl, rfl, trivial⟩ rfl ⟨Sub.rfl, Sub.rfl, trivial⟩ (fun g57 => ?_)
                refine Al_nil ?_
                refine Ad_one 4 rfl (by kernel_rfl) ?_
                refine Al_pu (Pu_loadbN (r := [_, _, _, _, _, _]) rfl Tryz.isAgg36 Tryz.sizeOf36 rfl rfl rfl rfl) rfl rfl (by decide) (by kernel_rfl) ?_
                refine Al_nil ?_
                refine Ad_one 5 rfl (by kernel_rfl) ?_
                refine Al_gcall [(1001, 35, g35), (1002, 350, g)] [(1003, 350)] (hput2) rfl rfl rfl (by decide) (by kernel_rfl) ⟨rfl, rfl, trivial⟩ rfl ⟨Sub.rfl, Sub.rfl, trivial⟩ (fun g60 => ?_)
                refine Al_nil ?_
                refine Ad_one 6 rfl (by kernel_rfl) ?_
                refine Al_pu (Pu_bool rfl Tryz.underlying4 rfl rfl rfl) rfl rfl (by decide) (by kernel_rfl) ?_
                refine Al_nil ?_
                refine Ad_take 7 rfl (PuI_move (.inr rfl) (by conv => lhs; whnf)) rfl rfl (by decide) (by kernel_rfl) (by kernel_rfl) (by kernel_rfl) (by kernel_rfl) (fun _ _ h => h) ?_
                refine Ad_done (by kernel_rfl) ?_
                exact ⟨(rs, (J.sput rs cs v).1, g60), ⟨J.own_put hown _, J.chns_put hch _, hrl⟩, Le.ov ⟨Sub.bool (by simp), trivial⟩ ⟨Sub.rfl, Sub.rfl, Sub.rfl, Sub.rfl, Sub.rfl, Sub.rfl, trivial⟩ ⟨rfl, rfl, rfl, rfl, trivial⟩ ⟨rfl, trivial⟩⟩ -- join 1 next.17
              · refine Al_pu (Pu_loadbN (r := [_, _, _, _, _, _]) rfl Tryz.isAgg36 Tryz.sizeOf36 rfl rfl rfl rfl) rfl rfl (by decide) (by kernel_rfl) ?_
                refine Al_nil ?_
                refine Ad_one 2 rfl (by kernel_rfl) ?_
                refine Al_gcall [(1001, 29, g29), (1002, 220, g29)] [] (hput) rfl rfl rfl (by decide) (by kernel_rfl) ⟨rfl, rfl, trivial⟩ rfl ⟨Sub.rfl, Sub.rfl, trivial⟩ (fun g57 => ?_)
                refine Al_nil ?_
                refine Ad_one 5 rfl (by kernel_rfl) ?_
                refine Al_gcall [(1001, 35, g35), (1002, 350, g)] [(1003, 350)] (hput2) rfl rfl rfl (by decide) (by kernel_rfl) ⟨rfl, rfl, trivial⟩ rfl ⟨Sub.rfl, Sub.rfl, trivial⟩ (fun g60 => ?_)
                refine Al_nil ?_
                refine Ad_one 6 rfl (by kernel_rfl) ?_
                refine Al_pu (Pu_bool rfl Tryz.underlying4 rfl rfl rfl) rfl rfl (by decide) (by kernel_rfl) ?_
                refine Al_nil ?_
                refine Ad_take 7 rfl (PuI_move (.inr rfl) (by conv => lhs; whnf)) rfl rfl (by decide) (by kernel_rfl) (by kernel_rfl) (by kernel_rfl) (by kernel_rfl) (fun _ _ h => h) ?_
                refine Ad_done (by kernel_rfl) ?_
                exact ⟨(rs, (J.sput rs cs v).1, g60), ⟨J.own_put hown _, J.chns_put hch _, hrl⟩, Le.ov ⟨Sub.bool (by simp), trivial⟩ ⟨Sub.rfl, Sub.rfl, Sub.rfl, Sub.rfl, Sub.rfl, Sub.rfl, trivial⟩ ⟨rfl, rfl, rfl, rfl, trivial⟩ ⟨rfl, trivial⟩⟩ -- join 1 next.18
            · refine Al_pu (Pu_loadbN (r := [_, _, _, _, _, _]) rfl Tryz.isAgg36 Tryz.sizeOf36 rfl rfl rfl rfl) rfl rfl (by decide) (by kernel_rfl) ?_
              refine Al_nil ?_
              refine Ad_one 1 rfl (by kernel_rfl) ?_
              refine Al_pu (Pu_loadbN (r := [_, _, _, _, _, _]) rfl Tryz.isAgg36 Tryz.sizeOf36 rfl rfl rfl rfl) rfl rfl (by decide) (by kernel_rfl) ?_
              refine Al_nil ?_
              refine Ad_one 2 rfl (by kernel_rfl) ?_
              refine Al_gcall [(1001, 29, g29), (1002, 220, g29)] [] (hput) rfl rfl rfl (by decide) (by kernel_rfl) ⟨rfl, rfl, trivial⟩ rfl ⟨Sub.rfl, Sub.rfl, trivial⟩ (fun g57 => ?_)
              refine Al_nil ?_
              refine Ad_one 5 rfl (by kernel_rfl) ?_
              refine Al_gcall [(1001, 35, g35), (1002, 350, g)] [(1003, 350)] (hput2) rfl rfl rfl (by decide) (by kernel_rfl) ⟨rfl, rfl, trivial⟩ rfl ⟨Sub.rfl, Sub.rfl, trivial⟩ (fun g60 => ?_)
              refine Al_nil ?_
              refine Ad_one 6 rfl (by kernel_rfl) ?_
              refine Al_pu (Pu_bool rfl Tryz.underlying4 rfl rfl rfl) rfl rfl (by decide) (by kernel_rfl) ?_
              refine Al_nil ?_
              refine Ad_take 7 rfl (PuI_move (.inr rfl) (by conv => lhs; whnf)) rfl rfl (by decide) (by kernel_rfl) (by kernel_rfl) (by kernel_rfl) (by kernel_rfl) (fun _ _ h => h) ?_
              refine Ad_done (by kernel_rfl) ?_
              exact ⟨(rs, (J.sput rs cs v).1, g60), ⟨J.own_put hown _, J.chns_put hch _, hrl⟩, Le.ov ⟨Sub.bool (by simp), trivial⟩ ⟨Sub.rfl, Sub.rfl, Sub.rfl, Sub.rfl, Sub.rfl, Sub.rfl, trivial⟩ ⟨rfl, rfl, rfl, rfl, trivial⟩ ⟨rfl, trivial⟩⟩ -- join 1 next.19
    · rintro ⟨rs', cs', g'⟩ ⟨hown', hch', hrl'⟩
      have hsm' := hown'.sm.mono (show k + 1 ≤ 1000 by omega)
      have hcl' := hsm'.1
      have hhd1 := shead_g rs' cs' b v.key hsm'
      have hhd2 : ACall Tryz.prog 19 [versA (J.getC cs' v.key)] (verA (J.shead cs' v.key)) := rhead12_a (J.getC cs' v.key)
      obtain ⟨oh, hoh⟩ : ∃ o, o = J.shead cs' v.key := ⟨_, rfl⟩
      rw [← hoh] at hhd1 hhd2
      refine Aw_seq ?_
      refine Aw_region ?_
      refine Al_pu (Pu_move (.inl rfl) (by conv => lhs; whnf)) rfl rfl (by decide) (by kernel_rfl) ?_
      refine Al_pu (Pu_fieldb 0 rfl Tryz.underlying36 rfl rfl Tryz.sizeOf9 rfl) rfl rfl (by decide) (by kernel_rfl) ?_
      refine Al_pu (Pu_loadb rfl Tryz.isAgg9 rfl rfl rfl) rfl rfl (by decide) (by kernel_rfl) ?_
      refine Al_gcall [(1001, 29, g29), (1002, 220, g29)] [] (hhd1) rfl rfl rfl (by decide) (by kernel_rfl) ⟨rfl, rfl, trivial⟩ rfl ⟨Sub.rfl, Sub.rfl, trivial⟩ (fun g134 => ?_)
      refine Al_pu (Pu_move (.inl rfl) (by conv => lhs; whnf)) rfl rfl (by decide) (by kernel_rfl) ?_
      refine Al_pu (Pu_extract rfl rfl rfl) rfl rfl (by decide) (by kernel_rfl) ?_
      refine Al_pu (Pu_extract rfl rfl rfl) rfl rfl (by decide) (by kernel_rfl) ?_
      refine Al_alloc rfl rfl rfl (by decide) Tryz.zeroValue36 rfl (by kernel_rfl) (fun g17 => ?_)
      refine Al_storeN rfl rfl rfl (by kernel_rfl) Tryz.isAgg36 Tryz.sizeOf36 rfl rfl rfl rfl (Nat.le_of_ble_eq_true rfl) ?_
      refine Al_pu (Pu_move (.inr rfl) (by conv => lhs; whnf)) rfl rfl (by decide) (by kernel_rfl) ?_
      refine Al_nil ?_
      refine Aw_seq ?_
      refine Aw_region ?_
      refine Al_pu (Pu_move (.inl rfl) (by conv => lhs; whnf)) rfl rfl (by decide) (by kernel_rfl) ?_
      refine Al_pu (Pu_fieldb 0 rfl Tryz.underlying36 rfl rfl Tryz.sizeOf9 rfl) rfl rfl (by decide) (by kernel_rfl) ?_
      refine Al_pu (Pu_loadb rfl Tryz.isAgg9 rfl rfl rfl) rfl rfl (by decide) (by kernel_rfl) ?_
      refine Al_gcall [(1001, 35, g35), (1002, 350, g')] [] (rof13_g rs' cs' v.key hcl') rfl rfl rfl (by decide) (by kernel_rfl) ⟨rfl, rfl, trivial⟩ rfl ⟨Sub.rfl, Sub.rfl, trivial⟩ (fun g141 => ?_)
      refine Al_pu (Pu_call (hhd2) rfl ⟨Sub.rfl, trivial⟩) rfl rfl (by decide) (by kernel_rfl) ?_
      refine Al_pu (Pu_move (.inl rfl) (by conv => lhs; whnf)) rfl rfl (by decide) (by kernel_rfl) ?_
      refine Al_pu (Pu_extract rfl rfl rfl) rfl rfl (by decide) (by kernel_rfl) ?_
      refine Al_pu (Pu_extract rfl rfl rfl) rfl rfl (by decide) (by kernel_rfl) ?_
      refine Al_alloc rfl rfl rfl (by decide) Tryz.zeroValue36 rfl (by kernel_rfl) (fun g19 => ?_)
      refine Al_storeN rfl rfl rfl (by kernel_rfl) Tryz.isAgg36 Tryz.sizeOf36 rfl rfl rfl rfl (Nat.le_of_ble_eq_true rfl) ?_
      refine Al_pu (Pu_move (.inr rfl) (by conv => lhs; whnf)) rfl rfl (by decide) (by kernel_rfl) ?_
      refine Al_nil ?_
      refine Aw_seq ?_
      refine Aw_region ?_
      refine Al_pu (Pu_loadbN (r := [_, _, _, _, _, _]) rfl Tryz.isAgg36 Tryz.sizeOf36 rfl rfl rfl rfl) rfl rfl (by decide) (by kernel_rfl) ?_
      refine Al_pu (Pu_loadbN (r := [_, _, _, _, _, _]) rfl Tryz.isAgg36 Tryz.sizeOf36 rfl rfl rfl rfl) rfl rfl (by decide) (by kernel_rfl) ?_
      refine Al_pu (Pu_call (rvsame_a (oh.getD default) (oh.getD default)) rfl ⟨Sub.rfl, Sub.rfl, trivial⟩) rfl rfl (by decide) (by kernel_rfl) ?_
      refine Al_pu (Pu_move (.inr rfl) (by conv => lhs; whnf)) rfl rfl (by decide) (by kernel_rfl) ?_
      refine Al_nil ?_
      -- join 3: live [1, 5, 6, 7, 8, 10, 18, 20, 21, 22], turned [22]
      refine Aw_seq ?_
      refine Aw_drawn (by kernel_rfl) ?_
      refine Ad_take 0 rfl (PuI_move (.inl rfl) (by conv => lhs; whnf)) rfl rfl (by decide) (by kernel_rfl) (by kernel_rfl) (by kernel_rfl) (by kernel_rfl) (fun _ _ h => h) ?_
      refine Ad_take 1 rfl (PuI_fieldb 0 rfl Tryz.underlying36 rfl rfl Tryz.sizeOf9 rfl) rfl rfl (by decide) (by kernel_rfl) (by kernel_rfl) (by kernel_rfl) (by kernel_rfl) (fun _ _ h => h) ?_
      refine Ad_take 4 rfl (PuI_move (.inl rfl) (by conv => lhs; whnf)) rfl rfl (by decide) (by kernel_rfl) (by kernel_rfl) (by kernel_rfl) (by kernel_rfl) (fun _ _ h => h) ?_
      refine Ad_take 5 rfl (PuI_fieldb 0 rfl Tryz.underlying36 rfl rfl Tryz.sizeOf9 rfl) rfl rfl (by decide) (by kernel_rfl) (by kernel_rfl) (by kernel_rfl) (by kernel_rfl) (fun _ _ h => h) ?_
      refine Ad_two 2 6 rfl rfl (by kernel_rfl) ?_ ?_
      · refine Al_pu (Pu_loadb rfl Tryz.isAgg9 rfl rfl rfl) rfl rfl (by decide) (by kernel_rfl) ?_
        refine Al_nil ?_
        refine Ad_two 3 6 rfl rfl (by kernel_rfl) ?_ ?_
        · refine Al_gcall [(1001, 29, g29), (1002, 220, g29)] [] (schain_g rs' cs' b v.key hsm') rfl rfl rfl (by decide) (by kernel_rfl) ⟨rfl, rfl, trivial⟩ rfl ⟨Sub.rfl, Sub.rfl, trivial⟩ (fun g151 => ?_)
          refine Al_nil ?_
          refine Ad_one 6 rfl (by kernel_rfl) ?_
          refine Al_pu (Pu_loadb rfl Tryz.isAgg9 rfl rfl rfl) rfl rfl (by decide) (by kernel_rfl) ?_
          refine Al_nil ?_
          refine Ad_one 7 rfl (by kernel_rfl) ?_
          refine Al_gcall [(1001, 35, g35), (1002, 350, g')] [] (rof13_g rs' cs' v.key hcl') rfl rfl rfl (by decide) (by kernel_rfl) ⟨rfl, rfl, trivial⟩ rfl ⟨Sub.rfl, Sub.rfl, trivial⟩ (fun g155 => ?_)
          refine Al_nil ?_
          refine Ad_one 8 rfl (by kernel_rfl) ?_
          refine Al_pu (Pu_call (rsame12_a (J.getC cs' v.key) (J.getC cs' v.key)) rfl ⟨Sub.rfl, Sub.rfl, trivial⟩) rfl rfl (by decide) (by kernel_rfl) ?_
          refine Al_nil ?_
          refine Ad_take 9 rfl (PuI_move (.inr rfl) (by conv => lhs; whnf)) rfl rfl (by decide) (by kernel_rfl) (by kernel_rfl) (by kernel_rfl) (by kernel_rfl) (fun _ _ h => h) ?_
          refine Ad_done (by kernel_rfl) ?_
          refine Aw_seq ?_
          refine Aw_region ?_
          refine Al_pu (Pu_move (.inl rfl) (by conv => lhs; whnf)) rfl rfl (by decide) (by kernel_rfl) ?_
          refine Al_gcall [(1001, 29, g29), (1002, 220, g29)] [] (shave_g rs' cs' b hown'.rise hsm') rfl rfl rfl (by decide) (by kernel_rfl) ⟨rfl, rfl, trivial⟩ rfl ⟨Sub.rfl, trivial⟩ (fun g158 => ?_)
          refine Al_pu (Pu_move (.inl rfl) (by conv => lhs; whnf)) rfl rfl (by decide) (by kernel_rfl) ?_
          refine Al_gcall [(1001, 35, g35), (1002, 350, g')] [] (rhave13_g rs' cs' hcl' hown'.rise) rfl rfl rfl (by decide) (by kernel_rfl) ⟨rfl, rfl, trivial⟩ rfl ⟨Sub.rfl, trivial⟩ (fun g160 => ?_)
          refine Al_pu (Pu_call (dsame_a (J.have' cs') (J.have' cs')) rfl ⟨Sub.rfl, Sub.rfl, trivial⟩) rfl rfl (by decide) (by kernel_rfl) ?_
          refine Al_pu (Pu_move (.inr rfl) (by conv => lhs; whnf)) rfl rfl (by decide) (by kernel_rfl) ?_
          refine Al_nil ?_
          refine Aw_seq ?_
          refine Aw_region ?_
          refine Al_pu (Pu_move (.inl rfl) (by conv => lhs; whnf)) rfl rfl (by decide) (by kernel_rfl) ?_
          refine Al_gcall [(1001, 29, g29), (1002, 220, g29)] [] (skeys_g rs' cs' b hown'.rise hsm') rfl rfl rfl (by decide) (by kernel_rfl) ⟨rfl, rfl, trivial⟩ rfl ⟨Sub.rfl, trivial⟩ (fun g163 => ?_)
          refine Al_pu (Pu_move (.inl rfl) (by conv => lhs; whnf)) rfl rfl (by decide) (by kernel_rfl) ?_
          refine Al_gcall [(1001, 35, g35), (1002, 350, g')] [] (rkeys13_g rs' cs' hcl') rfl rfl rfl (by decide) (by kernel_rfl) ⟨rfl, rfl, trivial⟩ rfl ⟨Sub.rfl, trivial⟩ (fun g165 => ?_)
          refine Al_pu (Pu_call (ssame_a (J.keysC cs') (J.keysC cs')) rfl ⟨Sub.rfl, Sub.rfl, trivial⟩) rfl rfl (by decide) (by kernel_rfl) ?_
          refine Al_pu (Pu_move (.inr rfl) (by conv => lhs; whnf)) rfl rfl (by decide) (by kernel_rfl) ?_
          refine Al_nil ?_
          -- join 4: live [1, 5, 6, 7, 8, 10, 18, 20, 21, 22, 23, 24, 25], turned [25]
          refine Aw_seq ?_
          refine Aw_drawn (by kernel_rfl) ?_
          refine Ad_take 0 rfl (PuI_move (.inl rfl) (by conv => lhs; whnf)) rfl rfl (by decide) (by kernel_rfl) (by kernel_rfl) (by kernel_rfl) (by kernel_rfl) (fun _ _ h => h) ?_
          refine Ad_take 2 rfl (PuI_move (.inl rfl) (by conv => lhs; whnf)) rfl rfl (by decide) (by kernel_rfl) (by kernel_rfl) (by kernel_rfl) (by kernel_rfl) (fun _ _ h => h) ?_
          refine Ad_take 3 rfl (PuI_nilb rfl rfl) rfl rfl (by decide) (by kernel_rfl) (by kernel_rfl) (by kernel_rfl) (by kernel_rfl) (fun _ _ h => h) ?_
          refine Ad_take 4 rfl (PuI_fieldb 0 rfl Tryz.underlying31 rfl rfl Tryz.sizeOf26 rfl) rfl rfl (by decide) (by kernel_rfl) (by kernel_rfl) (by kernel_rfl) (by kernel_rfl) (fun _ _ h => h) ?_
          refine Ad_two 1 5 rfl rfl (by kernel_rfl) ?_ ?_
          · refine Al_gcall [(1001, 29, g29), (1002, 220, g29)] [] (sranges_g rs' cs' b hrl') rfl rfl rfl (by decide) (by kernel_rfl) ⟨rfl, rfl, trivial⟩ rfl ⟨Sub.rfl, trivial⟩ (fun g168 => ?_)
            refine Al_nil ?_
            refine Ad_one 5 rfl (by kernel_rfl) ?_
            refine Al_pu (Pu_loadb rfl Tryz.isAgg26 rfl rfl rfl) rfl rfl (by decide) (by kernel_rfl) ?_
            refine Al_nil ?_
            refine Ad_one 6 rfl (by kernel_rfl) ?_
            refine Al_pu (Pu_call (sameranges_a rs' hrl') rfl ⟨Sub.rfl, Sub.rfl, trivial⟩) rfl rfl (by decide) (by kernel_rfl) ?_
            refine Al_nil ?_
            refine Ad_take 7 rfl (PuI_move (.inr rfl) (by conv => lhs; whnf)) rfl rfl (by decide) (by kernel_rfl) (by kernel_rfl) (by kernel_rfl) (by kernel_rfl) (fun _ _ h => h) ?_
            refine Ad_done (by kernel_rfl) ?_
            refine Aw_seq ?_
            refine Aw_region ?_
            refine Al_pu (Pu_move (.inl rfl) (by conv => lhs; whnf)) rfl rfl (by decide) (by kernel_rfl) ?_
            refine Al_pu (Pu_not rfl rfl) rfl rfl (by decide) (by kernel_rfl) ?_
            refine Al_pu (Pu_move (.inl rfl) (by conv => lhs; whnf)) rfl rfl (by decide) (by kernel_rfl) ?_
            refine Al_st (St_gd [] rfl rfl rfl rfl trivial (fun hg177 => by exact Pu_move (.inl rfl) (by conv => lhs; whnf))) rfl (by decide) (by kernel_rfl) (by intro j b oj dj h1 h2 h3; cases h1; cases h2; cases h3; decide) ?_
            refine Al_st (St_gd [177] rfl rfl rfl rfl ⟨⟨_, rfl⟩, trivial⟩ (fun hg178 => Pu_not rfl rfl)) rfl (by decide) (by kernel_rfl) (by intro j b oj dj h1 h2 h3; cases h1; cases h2; cases h3; decide) ?_
            refine Al_pu (Pu_or rfl rfl rfl rfl) rfl rfl (by decide) (by kernel_rfl) ?_
            refine Al_pu (Pu_move (.inl rfl) (by conv => lhs; whnf)) rfl rfl (by decide) (by kernel_rfl) ?_
            refine Al_st (St_gd [] rfl rfl rfl rfl trivial (fun hg181 => by exact Pu_move (.inl rfl) (by conv => lhs; whnf))) rfl (by decide) (by kernel_rfl) (by intro j b oj dj h1 h2 h3; cases h1; cases h2; cases h3; decide) ?_
            refine Al_st (St_gd [] rfl rfl rfl rfl trivial (fun hg182 => by exact Pu_move (.inl rfl) (by conv => lhs; whnf))) rfl (by decide) (by kernel_rfl) (by intro j b oj dj h1 h2 h3; cases h1; cases h2; cases h3; decide) ?_
            refine Al_st (St_gd [181, 182] rfl rfl rfl rfl ⟨⟨_, rfl⟩, ⟨_, rfl⟩, trivial⟩ (fun hg183 => Pu_bool rfl Tryz.underlying4 rfl rfl rfl)) rfl (by decide) (by kernel_rfl) (by intro j b oj dj h1 h2 h3; cases h1; cases h2; cases h3; decide) ?_
            refine Al_pu (Pu_or rfl rfl rfl rfl) rfl rfl (by decide) (by kernel_rfl) ?_
            refine Al_pu (Pu_move (.inl rfl) (by conv => lhs; whnf)) rfl rfl (by decide) (by kernel_rfl) ?_
            refine Al_st (St_gd [] rfl rfl rfl rfl trivial (fun hg186 => by exact Pu_move (.inl rfl) (by conv => lhs; whnf))) rfl (by decide) (by kernel_rfl) (by intro j b oj dj h1 h2 h3; cases h1; cases h2; cases h3; decide) ?_
            refine Al_st (St_gd [186] rfl rfl rfl rfl ⟨⟨_, rfl⟩, trivial⟩ (fun hg187 => Pu_not rfl rfl)) rfl (by decide) (by kernel_rfl) (by intro j b oj dj h1 h2 h3; cases h1; cases h2; cases h3; decide) ?_
            refine Al_pu (Pu_or rfl rfl rfl rfl) rfl rfl (by decide) (by kernel_rfl) ?_
            refine Al_pu (Pu_move (.inl rfl) (by conv => lhs; whnf)) rfl rfl (by decide) (by kernel_rfl) ?_
            refine Al_st (St_gd [] rfl rfl rfl rfl trivial (fun hg190 => by exact Pu_move (.inl rfl) (by conv => lhs; whnf))) rfl (by decide) (by kernel_rfl) (by intro j b oj dj h1 h2 h3; cases h1; cases h2; cases h3; decide) ?_
            refine Al_st (St_gd [190] rfl rfl rfl rfl ⟨⟨_, rfl⟩, trivial⟩ (fun hg191 => Pu_not rfl rfl)) rfl (by decide) (by kernel_rfl) (by intro j b oj dj h1 h2 h3; cases h1; cases h2; cases h3; decide) ?_
            refine Al_pu (Pu_or rfl rfl rfl rfl) rfl rfl (by decide) (by kernel_rfl) ?_
            refine Al_pu (Pu_move (.inl rfl) (by conv => lhs; whnf)) rfl rfl (by decide) (by kernel_rfl) ?_
            refine Al_st (St_gd [] rfl rfl rfl rfl trivial (fun hg194 => by exact Pu_move (.inl rfl) (by conv => lhs; whnf))) rfl (by decide) (by kernel_rfl) (by intro j b oj dj h1 h2 h3; cases h1; cases h2; cases h3; decide) ?_
            refine Al_st (St_gd [194] rfl rfl rfl rfl ⟨⟨_, rfl⟩, trivial⟩ (fun hg195 => Pu_not rfl rfl)) rfl (by decide) (by kernel_rfl) (by intro j b oj dj h1 h2 h3; cases h1; cases h2; cases h3; decide) ?_
            refine Al_pu (Pu_or rfl rfl rfl rfl) rfl rfl (by decide) (by kernel_rfl) ?_
            refine Al_pu (Pu_move (.inl rfl) (by conv => lhs; whnf)) rfl rfl (by decide) (by kernel_rfl) ?_
            refine Al_st (St_gd [] rfl rfl rfl rfl trivial (fun hg198 => by exact Pu_move (.inl rfl) (by conv => lhs; whnf))) rfl (by decide) (by kernel_rfl) (by intro j b oj dj h1 h2 h3; cases h1; cases h2; cases h3; decide) ?_
            refine Al_st (St_gd [198] rfl rfl rfl rfl ⟨⟨_, rfl⟩, trivial⟩ (fun hg199 => Pu_not rfl rfl)) rfl (by decide) (by kernel_rfl) (by intro j b oj dj h1 h2 h3; cases h1; cases h2; cases h3; decide) ?_
            refine Al_pu (Pu_or rfl rfl rfl rfl) rfl rfl (by decide) (by kernel_rfl) ?_
            refine Al_nil ?_
            refine Aw_cond rfl (fun h200 => ?_) (fun h200 => ?_)
            · skip
              exfalso
              simp at h200
            · skip
              refine Aw_skip ?_
              refine Aw_region ?_
              refine Al_pu (Pu_move (.inl rfl) (by conv => lhs; whnf)) rfl rfl (by decide) (by kernel_rfl) ?_
              refine Al_pu (Pu_add rfl rfl rfl (fun h1 h2 => by simp only [A.inI, A.maxI] at *; omega)) rfl rfl (by decide) (by kernel_rfl) ?_
              refine Al_pu (Pu_move (.inr rfl) (by conv => lhs; whnf)) rfl rfl (by decide) (by kernel_rfl) ?_
              refine Al_nil ?_
              exact ⟨(k + 1, rs', cs', g'), ⟨by omega, hown', hch', hrl'⟩, by simp only []; omega, Le.ov ⟨Sub.num (by omega), trivial⟩ ⟨Sub.rfl, Sub.rfl, Sub.rfl, Sub.rfl, trivial⟩ ⟨rfl, rfl, rfl, rfl, trivial⟩ trivial⟩ -- loop 0 next.0
          · refine Al_pu (Pu_loadb rfl Tryz.isAgg26 rfl rfl rfl) rfl rfl (by decide) (by kernel_rfl) ?_
            refine Al_nil ?_
            refine Ad_one 1 rfl (by kernel_rfl) ?_
            refine Al_gcall [(1001, 29, g29), (1002, 220, g29)] [] (sranges_g rs' cs' b hrl') rfl rfl rfl (by decide) (by kernel_rfl) ⟨rfl, rfl, trivial⟩ rfl ⟨Sub.rfl, trivial⟩ (fun g168 => ?_)
            refine Al_nil ?_
            refine Ad_one 6 rfl (by kernel_rfl) ?_
            refine Al_pu (Pu_call (sameranges_a rs' hrl') rfl ⟨Sub.rfl, Sub.rfl, trivial⟩) rfl rfl (by decide) (by kernel_rfl) ?_
            refine Al_nil ?_
            refine Ad_take 7 rfl (PuI_move (.inr rfl) (by conv => lhs; whnf)) rfl rfl (by decide) (by kernel_rfl) (by kernel_rfl) (by kernel_rfl) (by kernel_rfl) (fun _ _ h => h) ?_
            refine Ad_done (by kernel_rfl) ?_
            refine Aw_seq ?_
            refine Aw_region ?_
            refine Al_pu (Pu_move (.inl rfl) (by conv => lhs; whnf)) rfl rfl (by decide) (by kernel_rfl) ?_
            refine Al_pu (Pu_not rfl rfl) rfl rfl (by decide) (by kernel_rfl) ?_
            refine Al_pu (Pu_move (.inl rfl) (by conv => lhs; whnf)) rfl rfl (by decide) (by kernel_rfl) ?_
            refine Al_st (St_gd [] rfl rfl rfl rfl trivial (fun hg177 => by exact Pu_move (.inl rfl) (by conv => lhs; whnf))) rfl (by decide) (by kernel_rfl) (by intro j b oj dj h1 h2 h3; cases h1; cases h2; cases h3; decide) ?_
            refine Al_st (St_gd [177] rfl rfl rfl rfl ⟨⟨_, rfl⟩, trivial⟩ (fun hg178 => Pu_not rfl rfl)) rfl (by decide) (by kernel_rfl) (by intro j b oj dj h1 h2 h3; cases h1; cases h2; cases h3; decide) ?_
            refine Al_pu (Pu_or rfl rfl rfl rfl) rfl rfl (by decide) (by kernel_rfl) ?_
            refine Al_pu (Pu_move (.inl rfl) (by conv => lhs; whnf)) rfl rfl (by decide) (by kernel_rfl) ?_
            refine Al_st (St_gd [] rfl rfl rfl rfl trivial (fun hg181 => by exact Pu_move (.inl rfl) (by conv => lhs; whnf))) rfl (by decide) (by kernel_rfl) (by intro j b oj dj h1 h2 h3; cases h1; cases h2; cases h3; decide) ?_
            refine Al_st (St_gd [] rfl rfl rfl rfl trivial (fun hg182 => by exact Pu_move (.inl rfl) (by conv => lhs; whnf))) rfl (by decide) (by kernel_rfl) (by intro j b oj dj h1 h2 h3; cases h1; cases h2; cases h3; decide) ?_
            refine Al_st (St_gd [181, 182] rfl rfl rfl rfl ⟨⟨_, rfl⟩, ⟨_, rfl⟩, trivial⟩ (fun hg183 => Pu_bool rfl Tryz.underlying4 rfl rfl rfl)) rfl (by decide) (by kernel_rfl) (by intro j b oj dj h1 h2 h3; cases h1; cases h2; cases h3; decide) ?_
            refine Al_pu (Pu_or rfl rfl rfl rfl) rfl rfl (by decide) (by kernel_rfl) ?_
            refine Al_pu (Pu_move (.inl rfl) (by conv => lhs; whnf)) rfl rfl (by decide) (by kernel_rfl) ?_
            refine Al_st (St_gd [] rfl rfl rfl rfl trivial (fun hg186 => by exact Pu_move (.inl rfl) (by conv => lhs; whnf))) rfl (by decide) (by kernel_rfl) (by intro j b oj dj h1 h2 h3; cases h1; cases h2; cases h3; decide) ?_
            refine Al_st (St_gd [186] rfl rfl rfl rfl ⟨⟨_, rfl⟩, trivial⟩ (fun hg187 => Pu_not rfl rfl)) rfl (by decide) (by kernel_rfl) (by intro j b oj dj h1 h2 h3; cases h1; cases h2; cases h3; decide) ?_
            refine Al_pu (Pu_or rfl rfl rfl rfl) rfl rfl (by decide) (by kernel_rfl) ?_
            refine Al_pu (Pu_move (.inl rfl) (by conv => lhs; whnf)) rfl rfl (by decide) (by kernel_rfl) ?_
            refine Al_st (St_gd [] rfl rfl rfl rfl trivial (fun hg190 => by exact Pu_move (.inl rfl) (by conv => lhs; whnf))) rfl (by decide) (by kernel_rfl) (by intro j b oj dj h1 h2 h3; cases h1; cases h2; cases h3; decide) ?_
            refine Al_st (St_gd [190] rfl rfl rfl rfl ⟨⟨_, rfl⟩, trivial⟩ (fun hg191 => Pu_not rfl rfl)) rfl (by decide) (by kernel_rfl) (by intro j b oj dj h1 h2 h3; cases h1; cases h2; cases h3; decide) ?_
            refine Al_pu (Pu_or rfl rfl rfl rfl) rfl rfl (by decide) (by kernel_rfl) ?_
            refine Al_pu (Pu_move (.inl rfl) (by conv => lhs; whnf)) rfl rfl (by decide) (by kernel_rfl) ?_
            refine Al_st (St_gd [] rfl rfl rfl rfl trivial (fun hg194 => by exact Pu_move (.inl rfl) (by conv => lhs; whnf))) rfl (by decide) (by kernel_rfl) (by intro j b oj dj h1 h2 h3; cases h1; cases h2; cases h3; decide) ?_
            refine Al_st (St_gd [194] rfl rfl rfl rfl ⟨⟨_, rfl⟩, trivial⟩ (fun hg195 => Pu_not rfl rfl)) rfl (by decide) (by kernel_rfl) (by intro j b oj dj h1 h2 h3; cases h1; cases h2; cases h3; decide) ?_
            refine Al_pu (Pu_or rfl rfl rfl rfl) rfl rfl (by decide) (by kernel_rfl) ?_
            refine Al_pu (Pu_move (.inl rfl) (by conv => lhs; whnf)) rfl rfl (by decide) (by kernel_rfl) ?_
            refine Al_st (St_gd [] rfl rfl rfl rfl trivial (fun hg198 => by exact Pu_move (.inl rfl) (by conv => lhs; whnf))) rfl (by decide) (by kernel_rfl) (by intro j b oj dj h1 h2 h3; cases h1; cases h2; cases h3; decide) ?_
            refine Al_st (St_gd [198] rfl rfl rfl rfl ⟨⟨_, rfl⟩, trivial⟩ (fun hg199 => Pu_not rfl rfl)) rfl (by decide) (by kernel_rfl) (by intro j b oj dj h1 h2 h3; cases h1; cases h2; cases h3; decide) ?_
            refine Al_pu (Pu_or rfl rfl rfl rfl) rfl rfl (by decide) (by kernel_rfl) ?_
            refine Al_nil ?_
            refine Aw_cond rfl (fun h200 => ?_) (fun h200 => ?_)
            · skip
              exfalso
              simp at h200
            · skip
              refine Aw_skip ?_
              refine Aw_region ?_
              refine Al_pu (Pu_move (.inl rfl) (by conv => lhs; whnf)) rfl rfl (by decide) (by kernel_rfl) ?_
              refine Al_pu (Pu_add rfl rfl rfl (fun h1 h2 => by simp only [A.inI, A.maxI] at *; omega)) rfl rfl (by decide) (by kernel_rfl) ?_
              refine Al_pu (Pu_move (.inr rfl) (by conv => lhs; whnf)) rfl rfl (by decide) (by kernel_rfl) ?_
              refine Al_nil ?_
              exact ⟨(k + 1, rs', cs', g'), ⟨by omega, hown', hch', hrl'⟩, by simp only []; omega, Le.ov ⟨Sub.num (by omega), trivial⟩ ⟨Sub.rfl, Sub.rfl, Sub.rfl, Sub.rfl, trivial⟩ ⟨rfl, rfl, rfl, rfl, trivial⟩ trivial⟩ -- loop 0 next.1
        · refine Al_pu (Pu_loadb rfl Tryz.isAgg9 rfl rfl rfl) rfl rfl (by decide) (by kernel_rfl) ?_
          refine Al_nil ?_
          refine Ad_one 3 rfl (by kernel_rfl) ?_
          refine Al_gcall [(1001, 29, g29), (1002, 220, g29)] [] (schain_g rs' cs' b v.key hsm') rfl rfl rfl (by decide) (by kernel_rfl) ⟨rfl, rfl, trivial⟩ rfl ⟨Sub.rfl, Sub.rfl, trivial⟩ (fun g151 => ?_)
          refine Al_nil ?_
          refine Ad_one 7 rfl (by kernel_rfl) ?_
          refine Al_gcall [(1001, 35, g35), (1002, 350, g')] [] (rof13_g rs' cs' v.key hcl') rfl rfl rfl (by decide) (by kernel_rfl) ⟨rfl, rfl, trivial⟩ rfl ⟨Sub.rfl, Sub.rfl, trivial⟩ (fun g155 => ?_)
          refine Al_nil ?_
          refine Ad_one 8 rfl (by kernel_rfl) ?_
          refine Al_pu (Pu_call (rsame12_a (J.getC cs' v.key) (J.getC cs' v.key)) rfl ⟨Sub.rfl, Sub.rfl, trivial⟩) rfl rfl (by decide) (by kernel_rfl) ?_
          refine Al_nil ?_
          refine Ad_take 9 rfl (PuI_move (.inr rfl) (by conv => lhs; whnf)) rfl rfl (by decide) (by kernel_rfl) (by kernel_rfl) (by kernel_rfl) (by kernel_rfl) (fun _ _ h => h) ?_
          refine Ad_done (by kernel_rfl) ?_
          refine Aw_seq ?_
          refine Aw_region ?_
          refine Al_pu (Pu_move (.inl rfl) (by conv => lhs; whnf)) rfl rfl (by decide) (by kernel_rfl) ?_
          refine Al_gcall [(1001, 29, g29), (1002, 220, g29)] [] (shave_g rs' cs' b hown'.rise hsm') rfl rfl rfl (by decide) (by kernel_rfl) ⟨rfl, rfl, trivial⟩ rfl ⟨Sub.rfl, trivial⟩ (fun g158 => ?_)
          refine Al_pu (Pu_move (.inl rfl) (by conv => lhs; whnf)) rfl rfl (by decide) (by kernel_rfl) ?_
          refine Al_gcall [(1001, 35, g35), (1002, 350, g')] [] (rhave13_g rs' cs' hcl' hown'.rise) rfl rfl rfl (by decide) (by kernel_rfl) ⟨rfl, rfl, trivial⟩ rfl ⟨Sub.rfl, trivial⟩ (fun g160 => ?_)
          refine Al_pu (Pu_call (dsame_a (J.have' cs') (J.have' cs')) rfl ⟨Sub.rfl, Sub.rfl, trivial⟩) rfl rfl (by decide) (by kernel_rfl) ?_
          refine Al_pu (Pu_move (.inr rfl) (by conv => lhs; whnf)) rfl rfl (by decide) (by kernel_rfl) ?_
          refine Al_nil ?_
          refine Aw_seq ?_
          refine Aw_region ?_
          refine Al_pu (Pu_move (.inl rfl) (by conv => lhs; whnf)) rfl rfl (by decide) (by kernel_rfl) ?_
          refine Al_gcall [(1001, 29, g29), (1002, 220, g29)] [] (skeys_g rs' cs' b hown'.rise hsm') rfl rfl rfl (by decide) (by kernel_rfl) ⟨rfl, rfl, trivial⟩ rfl ⟨Sub.rfl, trivial⟩ (fun g163 => ?_)
          refine Al_pu (Pu_move (.inl rfl) (by conv => lhs; whnf)) rfl rfl (by decide) (by kernel_rfl) ?_
          refine Al_gcall [(1001, 35, g35), (1002, 350, g')] [] (rkeys13_g rs' cs' hcl') rfl rfl rfl (by decide) (by kernel_rfl) ⟨rfl, rfl, trivial⟩ rfl ⟨Sub.rfl, trivial⟩ (fun g165 => ?_)
          refine Al_pu (Pu_call (ssame_a (J.keysC cs') (J.keysC cs')) rfl ⟨Sub.rfl, Sub.rfl, trivial⟩) rfl rfl (by decide) (by kernel_rfl) ?_
          refine Al_pu (Pu_move (.inr rfl) (by conv => lhs; whnf)) rfl rfl (by decide) (by kernel_rfl) ?_
          refine Al_nil ?_
          -- join 4: live [1, 5, 6, 7, 8, 10, 18, 20, 21, 22, 23, 24, 25], turned [25]
          refine Aw_seq ?_
          refine Aw_drawn (by kernel_rfl) ?_
          refine Ad_take 0 rfl (PuI_move (.inl rfl) (by conv => lhs; whnf)) rfl rfl (by decide) (by kernel_rfl) (by kernel_rfl) (by kernel_rfl) (by kernel_rfl) (fun _ _ h => h) ?_
          refine Ad_take 2 rfl (PuI_move (.inl rfl) (by conv => lhs; whnf)) rfl rfl (by decide) (by kernel_rfl) (by kernel_rfl) (by kernel_rfl) (by kernel_rfl) (fun _ _ h => h) ?_
          refine Ad_take 3 rfl (PuI_nilb rfl rfl) rfl rfl (by decide) (by kernel_rfl) (by kernel_rfl) (by kernel_rfl) (by kernel_rfl) (fun _ _ h => h) ?_
          refine Ad_take 4 rfl (PuI_fieldb 0 rfl Tryz.underlying31 rfl rfl Tryz.sizeOf26 rfl) rfl rfl (by decide) (by kernel_rfl) (by kernel_rfl) (by kernel_rfl) (by kernel_rfl) (fun _ _ h => h) ?_
          refine Ad_two 1 5 rfl rfl (by kernel_rfl) ?_ ?_
          · refine Al_gcall [(1001, 29, g29), (1002, 220, g29)] [] (sranges_g rs' cs' b hrl') rfl rfl rfl (by decide) (by kernel_rfl) ⟨rfl, rfl, trivial⟩ rfl ⟨Sub.rfl, trivial⟩ (fun g168 => ?_)
            refine Al_nil ?_
            refine Ad_one 5 rfl (by kernel_rfl) ?_
            refine Al_pu (Pu_loadb rfl Tryz.isAgg26 rfl rfl rfl) rfl rfl (by decide) (by kernel_rfl) ?_
            refine Al_nil ?_
            refine Ad_one 6 rfl (by kernel_rfl) ?_
            refine Al_pu (Pu_call (sameranges_a rs' hrl') rfl ⟨Sub.rfl, Sub.rfl, trivial⟩) rfl rfl (by decide) (by kernel_rfl) ?_
            refine Al_nil ?_
            refine Ad_take 7 rfl (PuI_move (.inr rfl) (by conv => lhs; whnf)) rfl rfl (by decide) (by kernel_rfl) (by kernel_rfl) (by kernel_rfl) (by kernel_rfl) (fun _ _ h => h) ?_
            refine Ad_done (by kernel_rfl) ?_
            refine Aw_seq ?_
            refine Aw_region ?_
            refine Al_pu (Pu_move (.inl rfl) (by conv => lhs; whnf)) rfl rfl (by decide) (by kernel_rfl) ?_
            refine Al_pu (Pu_not rfl rfl) rfl rfl (by decide) (by kernel_rfl) ?_
            refine Al_pu (Pu_move (.inl rfl) (by conv => lhs; whnf)) rfl rfl (by decide) (by kernel_rfl) ?_
            refine Al_st (St_gd [] rfl rfl rfl rfl trivial (fun hg177 => by exact Pu_move (.inl rfl) (by conv => lhs; whnf))) rfl (by decide) (by kernel_rfl) (by intro j b oj dj h1 h2 h3; cases h1; cases h2; cases h3; decide) ?_
            refine Al_st (St_gd [177] rfl rfl rfl rfl ⟨⟨_, rfl⟩, trivial⟩ (fun hg178 => Pu_not rfl rfl)) rfl (by decide) (by kernel_rfl) (by intro j b oj dj h1 h2 h3; cases h1; cases h2; cases h3; decide) ?_
            refine Al_pu (Pu_or rfl rfl rfl rfl) rfl rfl (by decide) (by kernel_rfl) ?_
            refine Al_pu (Pu_move (.inl rfl) (by conv => lhs; whnf)) rfl rfl (by decide) (by kernel_rfl) ?_
            refine Al_st (St_gd [] rfl rfl rfl rfl trivial (fun hg181 => by exact Pu_move (.inl rfl) (by conv => lhs; whnf))) rfl (by decide) (by kernel_rfl) (by intro j b oj dj h1 h2 h3; cases h1; cases h2; cases h3; decide) ?_
            refine Al_st (St_gd [] rfl rfl rfl rfl trivial (fun hg182 => by exact Pu_move (.inl rfl) (by conv => lhs; whnf))) rfl (by decide) (by kernel_rfl) (by intro j b oj dj h1 h2 h3; cases h1; cases h2; cases h3; decide) ?_
            refine Al_st (St_gd [181, 182] rfl rfl rfl rfl ⟨⟨_, rfl⟩, ⟨_, rfl⟩, trivial⟩ (fun hg183 => Pu_bool rfl Tryz.underlying4 rfl rfl rfl)) rfl (by decide) (by kernel_rfl) (by intro j b oj dj h1 h2 h3; cases h1; cases h2; cases h3; decide) ?_
            refine Al_pu (Pu_or rfl rfl rfl rfl) rfl rfl (by decide) (by kernel_rfl) ?_
            refine Al_pu (Pu_move (.inl rfl) (by conv => lhs; whnf)) rfl rfl (by decide) (by kernel_rfl) ?_
            refine Al_st (St_gd [] rfl rfl rfl rfl trivial (fun hg186 => by exact Pu_move (.inl rfl) (by conv => lhs; whnf))) rfl (by decide) (by kernel_rfl) (by intro j b oj dj h1 h2 h3; cases h1; cases h2; cases h3; decide) ?_
            refine Al_st (St_gd [186] rfl rfl rfl rfl ⟨⟨_, rfl⟩, trivial⟩ (fun hg187 => Pu_not rfl rfl)) rfl (by decide) (by kernel_rfl) (by intro j b oj dj h1 h2 h3; cases h1; cases h2; cases h3; decide) ?_
            refine Al_pu (Pu_or rfl rfl rfl rfl) rfl rfl (by decide) (by kernel_rfl) ?_
            refine Al_pu (Pu_move (.inl rfl) (by conv => lhs; whnf)) rfl rfl (by decide) (by kernel_rfl) ?_
            refine Al_st (St_gd [] rfl rfl rfl rfl trivial (fun hg190 => by exact Pu_move (.inl rfl) (by conv => lhs; whnf))) rfl (by decide) (by kernel_rfl) (by intro j b oj dj h1 h2 h3; cases h1; cases h2; cases h3; decide) ?_
            refine Al_st (St_gd [190] rfl rfl rfl rfl ⟨⟨_, rfl⟩, trivial⟩ (fun hg191 => Pu_not rfl rfl)) rfl (by decide) (by kernel_rfl) (by intro j b oj dj h1 h2 h3; cases h1; cases h2; cases h3; decide) ?_
            refine Al_pu (Pu_or rfl rfl rfl rfl) rfl rfl (by decide) (by kernel_rfl) ?_
            refine Al_pu (Pu_move (.inl rfl) (by conv => lhs; whnf)) rfl rfl (by decide) (by kernel_rfl) ?_
            refine Al_st (St_gd [] rfl rfl rfl rfl trivial (fun hg194 => by exact Pu_move (.inl rfl) (by conv => lhs; whnf))) rfl (by decide) (by kernel_rfl) (by intro j b oj dj h1 h2 h3; cases h1; cases h2; cases h3; decide) ?_
            refine Al_st (St_gd [194] rfl rfl rfl rfl ⟨⟨_, rfl⟩, trivial⟩ (fun hg195 => Pu_not rfl rfl)) rfl (by decide) (by kernel_rfl) (by intro j b oj dj h1 h2 h3; cases h1; cases h2; cases h3; decide) ?_
            refine Al_pu (Pu_or rfl rfl rfl rfl) rfl rfl (by decide) (by kernel_rfl) ?_
            refine Al_pu (Pu_move (.inl rfl) (by conv => lhs; whnf)) rfl rfl (by decide) (by kernel_rfl) ?_
            refine Al_st (St_gd [] rfl rfl rfl rfl trivial (fun hg198 => by exact Pu_move (.inl rfl) (by conv => lhs; whnf))) rfl (by decide) (by kernel_rfl) (by intro j b oj dj h1 h2 h3; cases h1; cases h2; cases h3; decide) ?_
            refine Al_st (St_gd [198] rfl rfl rfl rfl ⟨⟨_, rfl⟩, trivial⟩ (fun hg199 => Pu_not rfl rfl)) rfl (by decide) (by kernel_rfl) (by intro j b oj dj h1 h2 h3; cases h1; cases h2; cases h3; decide) ?_
            refine Al_pu (Pu_or rfl rfl rfl rfl) rfl rfl (by decide) (by kernel_rfl) ?_
            refine Al_nil ?_
            refine Aw_cond rfl (fun h200 => ?_) (fun h200 => ?_)
            · skip
              exfalso
              simp at h200
            · skip
              refine Aw_skip ?_
              refine Aw_region ?_
              refine Al_pu (Pu_move (.inl rfl) (by conv => lhs; whnf)) rfl rfl (by decide) (by kernel_rfl) ?_
              refine Al_pu (Pu_add rfl rfl rfl (fun h1 h2 => by simp only [A.inI, A.maxI] at *; omega)) rfl rfl (by decide) (by kernel_rfl) ?_
              refine Al_pu (Pu_move (.inr rfl) (by conv => lhs; whnf)) rfl rfl (by decide) (by kernel_rfl) ?_
              refine Al_nil ?_
              exact ⟨(k + 1, rs', cs', g'), ⟨by omega, hown', hch', hrl'⟩, by simp only []; omega, Le.ov ⟨Sub.num (by omega), trivial⟩ ⟨Sub.rfl, Sub.rfl, Sub.rfl, Sub.rfl, trivial⟩ ⟨rfl, rfl, rfl, rfl, trivial⟩ trivial⟩ -- loop 0 next.2
          · refine Al_pu (Pu_loadb rfl Tryz.isAgg26 rfl rfl rfl) rfl rfl (by decide) (by kernel_rfl) ?_
            refine Al_nil ?_
            refine Ad_one 1 rfl (by kernel_rfl) ?_
            refine Al_gcall [(1001, 29, g29), (1002, 220, g29)] [] (sranges_g rs' cs' b hrl') rfl rfl rfl (by decide) (by kernel_rfl) ⟨rfl, rfl, trivial⟩ rfl ⟨Sub.rfl, trivial⟩ (fun g168 => ?_)
            refine Al_nil ?_
            refine Ad_one 6 rfl (by kernel_rfl) ?_
            refine Al_pu (Pu_call (sameranges_a rs' hrl') rfl ⟨Sub.rfl, Sub.rfl, trivial⟩) rfl rfl (by decide) (by kernel_rfl) ?_
            refine Al_nil ?_
            refine Ad_take 7 rfl (PuI_move (.inr rfl) (by conv => lhs; whnf)) rfl rfl (by decide) (by kernel_rfl) (by kernel_rfl) (by kernel_rfl) (by kernel_rfl) (fun _ _ h => h) ?_
            refine Ad_done (by kernel_rfl) ?_
            refine Aw_seq ?_
            refine Aw_region ?_
            refine Al_pu (Pu_move (.inl rfl) (by conv => lhs; whnf)) rfl rfl (by decide) (by kernel_rfl) ?_
            refine Al_pu (Pu_not rfl rfl) rfl rfl (by decide) (by kernel_rfl) ?_
            refine Al_pu (Pu_move (.inl rfl) (by conv => lhs; whnf)) rfl rfl (by decide) (by kernel_rfl) ?_
            refine Al_st (St_gd [] rfl rfl rfl rfl trivial (fun hg177 => by exact Pu_move (.inl rfl) (by conv => lhs; whnf))) rfl (by decide) (by kernel_rfl) (by intro j b oj dj h1 h2 h3; cases h1; cases h2; cases h3; decide) ?_
            refine Al_st (St_gd [177] rfl rfl rfl rfl ⟨⟨_, rfl⟩, trivial⟩ (fun hg178 => Pu_not rfl rfl)) rfl (by decide) (by kernel_rfl) (by intro j b oj dj h1 h2 h3; cases h1; cases h2; cases h3; decide) ?_
            refine Al_pu (Pu_or rfl rfl rfl rfl) rfl rfl (by decide) (by kernel_rfl) ?_
            refine Al_pu (Pu_move (.inl rfl) (by conv => lhs; whnf)) rfl rfl (by decide) (by kernel_rfl) ?_
            refine Al_st (St_gd [] rfl rfl rfl rfl trivial (fun hg181 => by exact Pu_move (.inl rfl) (by conv => lhs; whnf))) rfl (by decide) (by kernel_rfl) (by intro j b oj dj h1 h2 h3; cases h1; cases h2; cases h3; decide) ?_
            refine Al_st (St_gd [] rfl rfl rfl rfl trivial (fun hg182 => by exact Pu_move (.inl rfl) (by conv => lhs; whnf))) rfl (by decide) (by kernel_rfl) (by intro j b oj dj h1 h2 h3; cases h1; cases h2; cases h3; decide) ?_
            refine Al_st (St_gd [181, 182] rfl rfl rfl rfl ⟨⟨_, rfl⟩, ⟨_, rfl⟩, trivial⟩ (fun hg183 => Pu_bool rfl Tryz.underlying4 rfl rfl rfl)) rfl (by decide) (by kernel_rfl) (by intro j b oj dj h1 h2 h3; cases h1; cases h2; cases h3; decide) ?_
            refine Al_pu (Pu_or rfl rfl rfl rfl) rfl rfl (by decide) (by kernel_rfl) ?_
            refine Al_pu (Pu_move (.inl rfl) (by conv => lhs; whnf)) rfl rfl (by decide) (by kernel_rfl) ?_
            refine Al_st (St_gd [] rfl rfl rfl rfl trivial (fun hg186 => by exact Pu_move (.inl rfl) (by conv => lhs; whnf))) rfl (by decide) (by kernel_rfl) (by intro j b oj dj h1 h2 h3; cases h1; cases h2; cases h3; decide) ?_
            refine Al_st (St_gd [186] rfl rfl rfl rfl ⟨⟨_, rfl⟩, trivial⟩ (fun hg187 => Pu_not rfl rfl)) rfl (by decide) (by kernel_rfl) (by intro j b oj dj h1 h2 h3; cases h1; cases h2; cases h3; decide) ?_
            refine Al_pu (Pu_or rfl rfl rfl rfl) rfl rfl (by decide) (by kernel_rfl) ?_
            refine Al_pu (Pu_move (.inl rfl) (by conv => lhs; whnf)) rfl rfl (by decide) (by kernel_rfl) ?_
            refine Al_st (St_gd [] rfl rfl rfl rfl trivial (fun hg190 => by exact Pu_move (.inl rfl) (by conv => lhs; whnf))) rfl (by decide) (by kernel_rfl) (by intro j b oj dj h1 h2 h3; cases h1; cases h2; cases h3; decide) ?_
            refine Al_st (St_gd [190] rfl rfl rfl rfl ⟨⟨_, rfl⟩, trivial⟩ (fun hg191 => Pu_not rfl rfl)) rfl (by decide) (by kernel_rfl) (by intro j b oj dj h1 h2 h3; cases h1; cases h2; cases h3; decide) ?_
            refine Al_pu (Pu_or rfl rfl rfl rfl) rfl rfl (by decide) (by kernel_rfl) ?_
            refine Al_pu (Pu_move (.inl rfl) (by conv => lhs; whnf)) rfl rfl (by decide) (by kernel_rfl) ?_
            refine Al_st (St_gd [] rfl rfl rfl rfl trivial (fun hg194 => by exact Pu_move (.inl rfl) (by conv => lhs; whnf))) rfl (by decide) (by kernel_rfl) (by intro j b oj dj h1 h2 h3; cases h1; cases h2; cases h3; decide) ?_
            refine Al_st (St_gd [194] rfl rfl rfl rfl ⟨⟨_, rfl⟩, trivial⟩ (fun hg195 => Pu_not rfl rfl)) rfl (by decide) (by kernel_rfl) (by intro j b oj dj h1 h2 h3; cases h1; cases h2; cases h3; decide) ?_
            refine Al_pu (Pu_or rfl rfl rfl rfl) rfl rfl (by decide) (by kernel_rfl) ?_
            refine Al_pu (Pu_move (.inl rfl) (by conv => lhs; whnf)) rfl rfl (by decide) (by kernel_rfl) ?_
            refine Al_st (St_gd [] rfl rfl rfl rfl trivial (fun hg198 => by exact Pu_move (.inl rfl) (by conv => lhs; whnf))) rfl (by decide) (by kernel_rfl) (by intro j b oj dj h1 h2 h3; cases h1; cases h2; cases h3; decide) ?_
            refine Al_st (St_gd [198] rfl rfl rfl rfl ⟨⟨_, rfl⟩, trivial⟩ (fun hg199 => Pu_not rfl rfl)) rfl (by decide) (by kernel_rfl) (by intro j b oj dj h1 h2 h3; cases h1; cases h2; cases h3; decide) ?_
            refine Al_pu (Pu_or rfl rfl rfl rfl) rfl rfl (by decide) (by kernel_rfl) ?_
            refine Al_nil ?_
            refine Aw_cond rfl (fun h200 => ?_) (fun h200 => ?_)
            · skip
              exfalso
              simp at h200
            · skip
              refine Aw_skip ?_
              refine Aw_region ?_
              refine Al_pu (Pu_move (.inl rfl) (by conv => lhs; whnf)) rfl rfl (by decide) (by kernel_rfl) ?_
              refine Al_pu (Pu_add rfl rfl rfl (fun h1 h2 => by simp only [A.inI, A.maxI] at *; omega)) rfl rfl (by decide) (by kernel_rfl) ?_
              refine Al_pu (Pu_move (.inr rfl) (by conv => lhs; whnf)) rfl rfl (by decide) (by kernel_rfl) ?_
              refine Al_nil ?_
              exact ⟨(k + 1, rs', cs', g'), ⟨by omega, hown', hch', hrl'⟩, by simp only []; omega, Le.ov ⟨Sub.num (by omega), trivial⟩ ⟨Sub.rfl, Sub.rfl, Sub.rfl, Sub.rfl, trivial⟩ ⟨rfl, rfl, rfl, rfl, trivial⟩ trivial⟩ -- loop 0 next.3
      · refine Al_pu (Pu_loadb rfl Tryz.isAgg9 rfl rfl rfl) rfl rfl (by decide) (by kernel_rfl) ?_
        refine Al_nil ?_
        refine Ad_one 2 rfl (by kernel_rfl) ?_
        refine Al_pu (Pu_loadb rfl Tryz.isAgg9 rfl rfl rfl) rfl rfl (by decide) (by kernel_rfl) ?_
        refine Al_nil ?_
        refine Ad_one 3 rfl (by kernel_rfl) ?_
        refine Al_gcall [(1001, 29, g29), (1002, 220, g29)] [] (schain_g rs' cs' b v.key hsm') rfl rfl rfl (by decide) (by kernel_rfl) ⟨rfl, rfl, trivial⟩ rfl ⟨Sub.rfl, Sub.rfl, trivial⟩ (fun g151 => ?_)
        refine Al_nil ?_
        refine Ad_one 7 rfl (by kernel_rfl) ?_
        refine Al_gcall [(1001, 35, g35), (1002, 350, g')] [] (rof13_g rs' cs' v.key hcl') rfl rfl rfl (by decide) (by kernel_rfl) ⟨rfl, rfl, trivial⟩ rfl ⟨Sub.rfl, Sub.rfl, trivial⟩ (fun g155 => ?_)
        refine Al_nil ?_
        refine Ad_one 8 rfl (by kernel_rfl) ?_
        refine Al_pu (Pu_call (rsame12_a (J.getC cs' v.key) (J.getC cs' v.key)) rfl ⟨Sub.rfl, Sub.rfl, trivial⟩) rfl rfl (by decide) (by kernel_rfl) ?_
        refine Al_nil ?_
        refine Ad_take 9 rfl (PuI_move (.inr rfl) (by conv => lhs; whnf)) rfl rfl (by decide) (by kernel_rfl) (by kernel_rfl) (by kernel_rfl) (by kernel_rfl) (fun _ _ h => h) ?_
        refine Ad_done (by kernel_rfl) ?_
        refine Aw_seq ?_
        refine Aw_region ?_
        refine Al_pu (Pu_move (.inl rfl) (by conv => lhs; whnf)) rfl rfl (by decide) (by kernel_rfl) ?_
        refine Al_gcall [(1001, 29, g29), (1002, 220, g29)] [] (shave_g rs' cs' b hown'.rise hsm') rfl rfl rfl (by decide) (by kernel_rfl) ⟨rfl, rfl, trivial⟩ rfl ⟨Sub.rfl, trivial⟩ (fun g158 => ?_)
        refine Al_pu (Pu_move (.inl rfl) (by conv => lhs; whnf)) rfl rfl (by decide) (by kernel_rfl) ?_
        refine Al_gcall [(1001, 35, g35), (1002, 350, g')] [] (rhave13_g rs' cs' hcl' hown'.rise) rfl rfl rfl (by decide) (by kernel_rfl) ⟨rfl, rfl, trivial⟩ rfl ⟨Sub.rfl, trivial⟩ (fun g160 => ?_)
        refine Al_pu (Pu_call (dsame_a (J.have' cs') (J.have' cs')) rfl ⟨Sub.rfl, Sub.rfl, trivial⟩) rfl rfl (by decide) (by kernel_rfl) ?_
        refine Al_pu (Pu_move (.inr rfl) (by conv => lhs; whnf)) rfl rfl (by decide) (by kernel_rfl) ?_
        refine Al_nil ?_
        refine Aw_seq ?_
        refine Aw_region ?_
        refine Al_pu (Pu_move (.inl rfl) (by conv => lhs; whnf)) rfl rfl (by decide) (by kernel_rfl) ?_
        refine Al_gcall [(1001, 29, g29), (1002, 220, g29)] [] (skeys_g rs' cs' b hown'.rise hsm') rfl rfl rfl (by decide) (by kernel_rfl) ⟨rfl, rfl, trivial⟩ rfl ⟨Sub.rfl, trivial⟩ (fun g163 => ?_)
        refine Al_pu (Pu_move (.inl rfl) (by conv => lhs; whnf)) rfl rfl (by decide) (by kernel_rfl) ?_
        refine Al_gcall [(1001, 35, g35), (1002, 350, g')] [] (rkeys13_g rs' cs' hcl') rfl rfl rfl (by decide) (by kernel_rfl) ⟨rfl, rfl, trivial⟩ rfl ⟨Sub.rfl, trivial⟩ (fun g165 => ?_)
        refine Al_pu (Pu_call (ssame_a (J.keysC cs') (J.keysC cs')) rfl ⟨Sub.rfl, Sub.rfl, trivial⟩) rfl rfl (by decide) (by kernel_rfl) ?_
        refine Al_pu (Pu_move (.inr rfl) (by conv => lhs; whnf)) rfl rfl (by decide) (by kernel_rfl) ?_
        refine Al_nil ?_
        -- join 4: live [1, 5, 6, 7, 8, 10, 18, 20, 21, 22, 23, 24, 25], turned [25]
        refine Aw_seq ?_
        refine Aw_drawn (by kernel_rfl) ?_
        refine Ad_take 0 rfl (PuI_move (.inl rfl) (by conv => lhs; whnf)) rfl rfl (by decide) (by kernel_rfl) (by kernel_rfl) (by kernel_rfl) (by kernel_rfl) (fun _ _ h => h) ?_
        refine Ad_take 2 rfl (PuI_move (.inl rfl) (by conv => lhs; whnf)) rfl rfl (by decide) (by kernel_rfl) (by kernel_rfl) (by kernel_rfl) (by kernel_rfl) (fun _ _ h => h) ?_
        refine Ad_take 3 rfl (PuI_nilb rfl rfl) rfl rfl (by decide) (by kernel_rfl) (by kernel_rfl) (by kernel_rfl) (by kernel_rfl) (fun _ _ h => h) ?_
        refine Ad_take 4 rfl (PuI_fieldb 0 rfl Tryz.underlying31 rfl rfl Tryz.sizeOf26 rfl) rfl rfl (by decide) (by kernel_rfl) (by kernel_rfl) (by kernel_rfl) (by kernel_rfl) (fun _ _ h => h) ?_
        refine Ad_two 1 5 rfl rfl (by kernel_rfl) ?_ ?_
        · refine Al_gcall [(1001, 29, g29), (1002, 220, g29)] [] (sranges_g rs' cs' b hrl') rfl rfl rfl (by decide) (by kernel_rfl) ⟨rfl, rfl, trivial⟩ rfl ⟨Sub.rfl, trivial⟩ (fun g168 => ?_)
          refine Al_nil ?_
          refine Ad_one 5 rfl (by kernel_rfl) ?_
          refine Al_pu (Pu_loadb rfl Tryz.isAgg26 rfl rfl rfl) rfl rfl (by decide) (by kernel_rfl) ?_
          refine Al_nil ?_
          refine Ad_one 6 rfl (by kernel_rfl) ?_
          refine Al_pu (Pu_call (sameranges_a rs' hrl') rfl ⟨Sub.rfl, Sub.rfl, trivial⟩) rfl rfl (by decide) (by kernel_rfl) ?_
          refine Al_nil ?_
          refine Ad_take 7 rfl (PuI_move (.inr rfl) (by conv => lhs; whnf)) rfl rfl (by decide) (by kernel_rfl) (by kernel_rfl) (by kernel_rfl) (by kernel_rfl) (fun _ _ h => h) ?_
          refine Ad_done (by kernel_rfl) ?_
          refine Aw_seq ?_
          refine Aw_region ?_
          refine Al_pu (Pu_move (.inl rfl) (by conv => lhs; whnf)) rfl rfl (by decide) (by kernel_rfl) ?_
          refine Al_pu (Pu_not rfl rfl) rfl rfl (by decide) (by kernel_rfl) ?_
          refine Al_pu (Pu_move (.inl rfl) (by conv => lhs; whnf)) rfl rfl (by decide) (by kernel_rfl) ?_
          refine Al_st (St_gd [] rfl rfl rfl rfl trivial (fun hg177 => by exact Pu_move (.inl rfl) (by conv => lhs; whnf))) rfl (by decide) (by kernel_rfl) (by intro j b oj dj h1 h2 h3; cases h1; cases h2; cases h3; decide) ?_
          refine Al_st (St_gd [177] rfl rfl rfl rfl ⟨⟨_, rfl⟩, trivial⟩ (fun hg178 => Pu_not rfl rfl)) rfl (by decide) (by kernel_rfl) (by intro j b oj dj h1 h2 h3; cases h1; cases h2; cases h3; decide) ?_
          refine Al_pu (Pu_or rfl rfl rfl rfl) rfl rfl (by decide) (by kernel_rfl) ?_
          refine Al_pu (Pu_move (.inl rfl) (by conv => lhs; whnf)) rfl rfl (by decide) (by kernel_rfl) ?_
          refine Al_st (St_gd [] rfl rfl rfl rfl trivial (fun hg181 => by exact Pu_move (.inl rfl) (by conv => lhs; whnf))) rfl (by decide) (by kernel_rfl) (by intro j b oj dj h1 h2 h3; cases h1; cases h2; cases h3; decide) ?_
          refine Al_st (St_gd [] rfl rfl rfl rfl trivial (fun hg182 => by exact Pu_move (.inl rfl) (by conv => lhs; whnf))) rfl (by decide) (by kernel_rfl) (by intro j b oj dj h1 h2 h3; cases h1; cases h2; cases h3; decide) ?_
          refine Al_st (St_gd [181, 182] rfl rfl rfl rfl ⟨⟨_, rfl⟩, ⟨_, rfl⟩, trivial⟩ (fun hg183 => Pu_bool rfl Tryz.underlying4 rfl rfl rfl)) rfl (by decide) (by kernel_rfl) (by intro j b oj dj h1 h2 h3; cases h1; cases h2; cases h3; decide) ?_
          refine Al_pu (Pu_or rfl rfl rfl rfl) rfl rfl (by decide) (by kernel_rfl) ?_
          refine Al_pu (Pu_move (.inl rfl) (by conv => lhs; whnf)) rfl rfl (by decide) (by kernel_rfl) ?_
          refine Al_st (St_gd [] rfl rfl rfl rfl trivial (fun hg186 => by exact Pu_move (.inl rfl) (by conv => lhs; whnf))) rfl (by decide) (by kernel_rfl) (by intro j b oj dj h1 h2 h3; cases h1; cases h2; cases h3; decide) ?_
          refine Al_st (St_gd [186] rfl rfl rfl rfl ⟨⟨_, rfl⟩, trivial⟩ (fun hg187 => Pu_not rfl rfl)) rfl (by decide) (by kernel_rfl) (by intro j b oj dj h1 h2 h3; cases h1; cases h2; cases h3; decide) ?_
          refine Al_pu (Pu_or rfl rfl rfl rfl) rfl rfl (by decide) (by kernel_rfl) ?_
          refine Al_pu (Pu_move (.inl rfl) (by conv => lhs; whnf)) rfl rfl (by decide) (by kernel_rfl) ?_
          refine Al_st (St_gd [] rfl rfl rfl rfl trivial (fun hg190 => by exact Pu_move (.inl rfl) (by conv => lhs; whnf))) rfl (by decide) (by kernel_rfl) (by intro j b oj dj h1 h2 h3; cases h1; cases h2; cases h3; decide) ?_
          refine Al_st (St_gd [190] rfl rfl rfl rfl ⟨⟨_, rfl⟩, trivial⟩ (fun hg191 => Pu_not rfl rfl)) rfl (by decide) (by kernel_rfl) (by intro j b oj dj h1 h2 h3; cases h1; cases h2; cases h3; decide) ?_
          refine Al_pu (Pu_or rfl rfl rfl rfl) rfl rfl (by decide) (by kernel_rfl) ?_
          refine Al_pu (Pu_move (.inl rfl) (by conv => lhs; whnf)) rfl rfl (by decide) (by kernel_rfl) ?_
          refine Al_st (St_gd [] rfl rfl rfl rfl trivial (fun hg194 => by exact Pu_move (.inl rfl) (by conv => lhs; whnf))) rfl (by decide) (by kernel_rfl) (by intro j b oj dj h1 h2 h3; cases h1; cases h2; cases h3; decide) ?_
          refine Al_st (St_gd [194] rfl rfl rfl rfl ⟨⟨_, rfl⟩, trivial⟩ (fun hg195 => Pu_not rfl rfl)) rfl (by decide) (by kernel_rfl) (by intro j b oj dj h1 h2 h3; cases h1; cases h2; cases h3; decide) ?_
          refine Al_pu (Pu_or rfl rfl rfl rfl) rfl rfl (by decide) (by kernel_rfl) ?_
          refine Al_pu (Pu_move (.inl rfl) (by conv => lhs; whnf)) rfl rfl (by decide) (by kernel_rfl) ?_
          refine Al_st (St_gd [] rfl rfl rfl rfl trivial (fun hg198 => by exact Pu_move (.inl rfl) (by conv => lhs; whnf))) rfl (by decide) (by kernel_rfl) (by intro j b oj dj h1 h2 h3; cases h1; cases h2; cases h3; decide) ?_
          refine Al_st (St_gd [198] rfl rfl rfl rfl ⟨⟨_, rfl⟩, trivial⟩ (fun hg199 => Pu_not rfl rfl)) rfl (by decide) (by kernel_rfl) (by intro j b oj dj h1 h2 h3; cases h1; cases h2; cases h3; decide) ?_
          refine Al_pu (Pu_or rfl rfl rfl rfl) rfl rfl (by decide) (by kernel_rfl) ?_
          refine Al_nil ?_
          refine Aw_cond rfl (fun h200 => ?_) (fun h200 => ?_)
          · skip
            exfalso
            simp at h200
          · skip
            refine Aw_skip ?_
            refine Aw_region ?_
            refine Al_pu (Pu_move (.inl rfl) (by conv => lhs; whnf)) rfl rfl (by decide) (by kernel_rfl) ?_
            refine Al_pu (Pu_add rfl rfl rfl (fun h1 h2 => by simp only [A.inI, A.maxI] at *; omega)) rfl rfl (by decide) (by kernel_rfl) ?_
            refine Al_pu (Pu_move (.inr rfl) (by conv => lhs; whnf)) rfl rfl (by decide) (by kernel_rfl) ?_
            refine Al_nil ?_
            exact ⟨(k + 1, rs', cs', g'), ⟨by omega, hown', hch', hrl'⟩, by simp only []; omega, Le.ov ⟨Sub.num (by omega), trivial⟩ ⟨Sub.rfl, Sub.rfl, Sub.rfl, Sub.rfl, trivial⟩ ⟨rfl, rfl, rfl, rfl, trivial⟩ trivial⟩ -- loop 0 next.4
        · refine Al_pu (Pu_loadb rfl Tryz.isAgg26 rfl rfl rfl) rfl rfl (by decide) (by kernel_rfl) ?_
          refine Al_nil ?_
          refine Ad_one 1 rfl (by kernel_rfl) ?_
          refine Al_gcall [(1001, 29, g29), (1002, 220, g29)] [] (sranges_g rs' cs' b hrl') rfl rfl rfl (by decide) (by kernel_rfl) ⟨rfl, rfl, trivial⟩ rfl ⟨Sub.rfl, trivial⟩ (fun g168 => ?_)
          refine Al_nil ?_
          refine Ad_one 6 rfl (by kernel_rfl) ?_
          refine Al_pu (Pu_call (sameranges_a rs' hrl') rfl ⟨Sub.rfl, Sub.rfl, trivial⟩) rfl rfl (by decide) (by kernel_rfl) ?_
          refine Al_nil ?_
          refine Ad_take 7 rfl (PuI_move (.inr rfl) (by conv => lhs; whnf)) rfl rfl (by decide) (by kernel_rfl) (by kernel_rfl) (by kernel_rfl) (by kernel_rfl) (fun _ _ h => h) ?_
          refine Ad_done (by kernel_rfl) ?_
          refine Aw_seq ?_
          refine Aw_region ?_
          refine Al_pu (Pu_move (.inl rfl) (by conv => lhs; whnf)) rfl rfl (by decide) (by kernel_rfl) ?_
          refine Al_pu (Pu_not rfl rfl) rfl rfl (by decide) (by kernel_rfl) ?_
          refine Al_pu (Pu_move (.inl rfl) (by conv => lhs; whnf)) rfl rfl (by decide) (by kernel_rfl) ?_
          refine Al_st (St_gd [] rfl rfl rfl rfl trivial (fun hg177 => by exact Pu_move (.inl rfl) (by conv => lhs; whnf))) rfl (by decide) (by kernel_rfl) (by intro j b oj dj h1 h2 h3; cases h1; cases h2; cases h3; decide) ?_
          refine Al_st (St_gd [177] rfl rfl rfl rfl ⟨⟨_, rfl⟩, trivial⟩ (fun hg178 => Pu_not rfl rfl)) rfl (by decide) (by kernel_rfl) (by intro j b oj dj h1 h2 h3; cases h1; cases h2; cases h3; decide) ?_
          refine Al_pu (Pu_or rfl rfl rfl rfl) rfl rfl (by decide) (by kernel_rfl) ?_
          refine Al_pu (Pu_move (.inl rfl) (by conv => lhs; whnf)) rfl rfl (by decide) (by kernel_rfl) ?_
          refine Al_st (St_gd [] rfl rfl rfl rfl trivial (fun hg181 => by exact Pu_move (.inl rfl) (by conv => lhs; whnf))) rfl (by decide) (by kernel_rfl) (by intro j b oj dj h1 h2 h3; cases h1; cases h2; cases h3; decide) ?_
          refine Al_st (St_gd [] rfl rfl rfl rfl trivial (fun hg182 => by exact Pu_move (.inl rfl) (by conv => lhs; whnf))) rfl (by decide) (by kernel_rfl) (by intro j b oj dj h1 h2 h3; cases h1; cases h2; cases h3; decide) ?_
          refine Al_st (St_gd [181, 182] rfl rfl rfl rfl ⟨⟨_, rfl⟩, ⟨_, rfl⟩, trivial⟩ (fun hg183 => Pu_bool rfl Tryz.underlying4 rfl rfl rfl)) rfl (by decide) (by kernel_rfl) (by intro j b oj dj h1 h2 h3; cases h1; cases h2; cases h3; decide) ?_
          refine Al_pu (Pu_or rfl rfl rfl rfl) rfl rfl (by decide) (by kernel_rfl) ?_
          refine Al_pu (Pu_move (.inl rfl) (by conv => lhs; whnf)) rfl rfl (by decide) (by kernel_rfl) ?_
          refine Al_st (St_gd [] rfl rfl rfl rfl trivial (fun hg186 => by exact Pu_move (.inl rfl) (by conv => lhs; whnf))) rfl (by decide) (by kernel_rfl) (by intro j b oj dj h1 h2 h3; cases h1; cases h2; cases h3; decide) ?_
          refine Al_st (St_gd [186] rfl rfl rfl rfl ⟨⟨_, rfl⟩, trivial⟩ (fun hg187 => Pu_not rfl rfl)) rfl (by decide) (by kernel_rfl) (by intro j b oj dj h1 h2 h3; cases h1; cases h2; cases h3; decide) ?_
          refine Al_pu (Pu_or rfl rfl rfl rfl) rfl rfl (by decide) (by kernel_rfl) ?_
          refine Al_pu (Pu_move (.inl rfl) (by conv => lhs; whnf)) rfl rfl (by decide) (by kernel_rfl) ?_
          refine Al_st (St_gd [] rfl rfl rfl rfl trivial (fun hg190 => by exact Pu_move (.inl rfl) (by conv => lhs; whnf))) rfl (by decide) (by kernel_rfl) (by intro j b oj dj h1 h2 h3; cases h1; cases h2; cases h3; decide) ?_
          refine Al_st (St_gd [190] rfl rfl rfl rfl ⟨⟨_, rfl⟩, trivial⟩ (fun hg191 => Pu_not rfl rfl)) rfl (by decide) (by kernel_rfl) (by intro j b oj dj h1 h2 h3; cases h1; cases h2; cases h3; decide) ?_
          refine Al_pu (Pu_or rfl rfl rfl rfl) rfl rfl (by decide) (by kernel_rfl) ?_
          refine Al_pu (Pu_move (.inl rfl) (by conv => lhs; whnf)) rfl rfl (by decide) (by kernel_rfl) ?_
          refine Al_st (St_gd [] rfl rfl rfl rfl trivial (fun hg194 => by exact Pu_move (.inl rfl) (by conv => lhs; whnf))) rfl (by decide) (by kernel_rfl) (by intro j b oj dj h1 h2 h3; cases h1; cases h2; cases h3; decide) ?_
          refine Al_st (St_gd [194] rfl rfl rfl rfl ⟨⟨_, rfl⟩, trivial⟩ (fun hg195 => Pu_not rfl rfl)) rfl (by decide) (by kernel_rfl) (by intro j b oj dj h1 h2 h3; cases h1; cases h2; cases h3; decide) ?_
          refine Al_pu (Pu_or rfl rfl rfl rfl) rfl rfl (by decide) (by kernel_rfl) ?_
          refine Al_pu (Pu_move (.inl rfl) (by conv => lhs; whnf)) rfl rfl (by decide) (by kernel_rfl) ?_
          refine Al_st (St_gd [] rfl rfl rfl rfl trivial (fun hg198 => by exact Pu_move (.inl rfl) (by conv => lhs; whnf))) rfl (by decide) (by kernel_rfl) (by intro j b oj dj h1 h2 h3; cases h1; cases h2; cases h3; decide) ?_
          refine Al_st (St_gd [198] rfl rfl rfl rfl ⟨⟨_, rfl⟩, trivial⟩ (fun hg199 => Pu_not rfl rfl)) rfl (by decide) (by kernel_rfl) (by intro j b oj dj h1 h2 h3; cases h1; cases h2; cases h3; decide) ?_
          refine Al_pu (Pu_or rfl rfl rfl rfl) rfl rfl (by decide) (by kernel_rfl) ?_
          refine Al_nil ?_
          refine Aw_cond rfl (fun h200 => ?_) (fun h200 => ?_)
          · skip
            exfalso
            simp at h200
          · skip
            refine Aw_skip ?_
            refine Aw_region ?_
            refine Al_pu (Pu_move (.inl rfl) (by conv => lhs; whnf)) rfl rfl (by decide) (by kernel_rfl) ?_
            refine Al_pu (Pu_add rfl rfl rfl (fun h1 h2 => by simp only [A.inI, A.maxI] at *; omega)) rfl rfl (by decide) (by kernel_rfl) ?_
            refine Al_pu (Pu_move (.inr rfl) (by conv => lhs; whnf)) rfl rfl (by decide) (by kernel_rfl) ?_
            refine Al_nil ?_
            exact ⟨(k + 1, rs', cs', g'), ⟨by omega, hown', hch', hrl'⟩, by simp only []; omega, Le.ov ⟨Sub.num (by omega), trivial⟩ ⟨Sub.rfl, Sub.rfl, Sub.rfl, Sub.rfl, trivial⟩ ⟨rfl, rfl, rfl, rfl, trivial⟩ trivial⟩ -- loop 0 next.5
  · (try simp only [decide_eq_true_eq, decide_eq_false_iff_not, Bool.and_eq_true, Bool.or_eq_true, Bool.and_eq_false_iff, Bool.or_eq_false_iff, Bool.not_eq_true', Bool.not_eq_false', beq_iff_eq, Bool.not_eq_eq_eq_not, Bool.not_true, Bool.not_false, List.length_map, Bool.and_true, Bool.and_false, Bool.false_and, Bool.true_and, Bool.or_false, Bool.false_or] at h43)
    refine Aw_exit ?_
    refine Aw_seq ?_
    refine Aw_region ?_
    refine Al_pu (Pu_move (.inl rfl) (by conv => lhs; whnf)) rfl rfl (by decide) (by kernel_rfl) ?_
    refine Al_pu (Pu_move (.inr rfl) (by conv => lhs; whnf)) rfl rfl (by decide) (by kernel_rfl) ?_
    refine Al_nil ?_
    refine Aw_ret ?_
    exact Sub.rfl -- ret 0
end Go.Proofs.YtkmjiaegbooplaaGreat
