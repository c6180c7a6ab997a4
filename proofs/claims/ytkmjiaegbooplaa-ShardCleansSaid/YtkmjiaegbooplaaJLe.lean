/- Law 13: ShardOwns. -/
import Derived.Test.YtkmjiaegbooplaaJLc
set_option linter.unusedSimpArgs false
set_option linter.unusedVariables false
namespace Go.Proofs.Ytkmjiaegbooplaa
open Go.RowKit A R
open A.RowT
namespace J
/-- What is kept is owned, and something. -/
structure Own (m : Nat) (rs : List Rng) (cs : SC) : Prop where
  rise : RiseC cs
  sm : Sm m cs
  own : ∀ p ∈ cs, ¬ findR rs p.1 < 0 ∧ p.2 ≠ []
theorem own_nil (rs : List Rng) : Own 0 rs [] := ⟨rise_nil, sm_nil 0, fun p hp => by cases hp⟩
theorem Own.mono {m m' : Nat} {rs : List Rng} {cs : SC} (h : Own m rs cs) (hm : m ≤ m') : Own m' rs cs := ⟨h.rise, h.sm.mono hm, h.own⟩
theorem own_put {m : Nat} {rs : List Rng} {cs : SC} (h : Own m rs cs) (v : Ver) : Own (m + 1) rs (sput rs cs v).1 := by
  refine ⟨sput_rise h.rise v, sput_sm h.sm v, fun p hp => ?_⟩
  cases hb : (sput rs cs v).2 with
  | false => rw [sput_no hb] at hp; exact h.own p hp
  | true =>
    obtain ⟨l, hf, hl, he⟩ := sput_some hb
    rw [he] at hp
    rcases mem_setC _ _ _ _ hp with rfl | hp
    · refine ⟨hf, fun e => ?_⟩
      have := put_len hl
      have e : l = [] := e
      rw [e] at this; simp at this
    · exact h.own p hp
theorem own_move {m : Nat} {rs : List Rng} {cs : SC} (h : Own m rs cs) (rs' : List Rng) : Own m rs' (smove cs rs') := by
  refine ⟨smove_rise h.rise rs', smove_sm h.sm rs', fun p hp => ?_⟩
  unfold smove at hp
  obtain ⟨h1, h2⟩ := List.mem_filter.1 hp
  simp only [decide_eq_true_eq] at h2
  exact ⟨by omega, (h.own p h1).2⟩
theorem head_last {l : List Ver} (h : l ≠ []) : head l = some (l.getLast h) := by
  have hp : 0 < l.length := List.length_pos_iff.2 h
  unfold head
  have h1 : ((l.length : Int) - 1) = ((l.length - 1 : Nat) : Int) := by omega
  rw [h1, told_at (by omega), List.getLast_eq_getElem]
theorem head_keeps {l : List Ver} (h : l ≠ []) (n s : Int) (pins : List (Int × Int)) : keeps l n s pins (l.getLast h) = true := by
  unfold keeps isO
  rw [head_last h]
  simp
theorem clean_ne {l : List Ver} (h : l ≠ []) (n s : Int) (pins : List (Int × Int)) : clean l n s pins ≠ [] := by
  intro e
  have : l.getLast h ∈ clean l n s pins := List.mem_filter.2 ⟨List.getLast_mem h, head_keeps h n s pins⟩
  rw [e] at this; cases this
theorem sclean_keys (cs : SC) (n s : Int) (pins : List Dep) : (sclean cs n s pins).map (·.1) = cs.map (·.1) := by
  unfold sclean; rw [List.map_map]; rfl
theorem sclean_rise {cs : SC} (h : RiseC cs) (n s : Int) (pins : List Dep) : RiseC (sclean cs n s pins) := by unfold RiseC; rw [sclean_keys]; exact h
theorem sclean_sm {m : Nat} {cs : SC} (h : Sm m cs) (n s : Int) (pins : List Dep) : Sm m (sclean cs n s pins) := by
  refine ⟨by unfold sclean; rw [List.length_map]; exact h.1, fun p hp => ?_⟩
  obtain ⟨q, hq, rfl⟩ := List.mem_map.1 hp
  exact ⟨Nat.le_trans (List.length_filter_le ..) (h.2 q hq).1, (h.2 q hq).2⟩
theorem own_clean {m : Nat} {rs : List Rng} {cs : SC} (h : Own m rs cs) (n s : Int) (pins : List Dep) : Own m rs (sclean cs n s pins) := by
  refine ⟨sclean_rise h.rise n s pins, sclean_sm h.sm n s pins, fun p hp => ?_⟩
  obtain ⟨q, hq, rfl⟩ := List.mem_map.1 hp
  exact ⟨(h.own q hq).1, clean_ne (h.own q hq).2 _ _ _⟩
theorem Own.at {m : Nat} {rs : List Rng} {cs : SC} (h : Own m rs cs) {k : Nat} (hk : k < (keysC cs).length) : ¬ findR rs ((keysC cs).getD k default) < 0 ∧ (shead cs ((keysC cs).getD k default)).isSome = true ∧ (have' cs).getD k default = ⟨(keysC cs).getD k default, ((shead cs ((keysC cs).getD k default)).getD default).n, ((shead cs ((keysC cs).getD k default)).getD default).s⟩ := by
  have hk' : k < cs.length := by unfold keysC at hk; simpa using hk
  have hg := keys_at cs hk'
  have ho := h.own _ (List.getElem_mem hk')
  have hl : getC cs cs[k].1 = cs[k].2 := by unfold getC; rw [look_mem h.rise (List.getElem_mem hk')]; rfl
  refine ⟨by rw [hg]; exact ho.1, ?_, ?_⟩
  · unfold shead
    rw [hg, hl, head_last ho.2]; rfl
  · unfold have'
    rw [List.getD_eq_getElem?_getD, List.getElem?_map, List.getElem?_eq_getElem hk, show (keysC cs).getD k default = (keysC cs)[k] from by simp [hk]]
    rfl
theorem keys_lt {cs : SC} (h : RiseC cs) {k : Nat} (hk : k < (keysC cs).length) (h0 : 0 < k) : Op.bytesLess ((keysC cs).getD (k - 1) default).toList ((keysC cs).getD k default).toList = true := by
  have := List.pairwise_iff_getElem.1 h (k - 1) k (by unfold keysC at hk; omega) hk (by omega)
  rw [show (keysC cs).getD (k - 1) default = (keysC cs)[k - 1]'(by omega) from by simp [show k - 1 < (keysC cs).length by omega], show (keysC cs).getD k default = (keysC cs)[k] from by simp [hk]]
  exact this
theorem have_len (cs : SC) : (have' cs).length = (keysC cs).length := by unfold have'; simp
end J
set_option maxRecDepth 100000 in
set_option maxHeartbeats 4000000 in
theorem shardowns_law (z : Int) (l : List HOp) : ACall Try.prog 7 [iv z, .sl 14 (l.map HOp.row)] (bv true) := by
  refine ACall_enter (fun _ _ => by kernel_rfl) Try.func7 rfl Try.ntmps7 Try.results7 (Nat.le_of_ble_eq_true rfl) (fun hok M0 w0 hnl => ?_)
  have hlen := (hok (.sl 14 (l.map HOp.row)) (by simp)).len
  rw [List.length_map] at hlen
  have hrz : ∀ z, (J.ranges z).length ≤ 1000000 := fun z => Nat.le_trans (J.ranges_len z) (by decide)
  refine Aw_seq ?_
  refine Aw_region ?_
  refine Al_pu (Pu_move (.inr rfl) (by conv => lhs; whnf)) rfl rfl (by decide) (by kernel_rfl) ?_
  refine Al_nil ?_
  refine Aw_seq ?_
  refine Aw_region ?_
  refine Al_pu (Pu_call (hawake_a) rfl trivial) rfl rfl (by decide) (by kernel_rfl) ?_
  refine Al_pu (Pu_move (.inr rfl) (by conv => lhs; whnf)) rfl rfl (by decide) (by kernel_rfl) ?_
  refine Al_nil ?_
  refine Aw_seq ?_
  refine Aw_region ?_
  refine Al_pu (Pu_move (.inl rfl) (by conv => lhs; whnf)) rfl rfl (by decide) (by kernel_rfl) ?_
  refine Al_pu (Pu_call (hranges_a z) rfl ⟨Sub.rfl, trivial⟩) rfl rfl (by decide) (by kernel_rfl) ?_
  refine Al_gcallE [] [(1001, 22), (1002, 220)] (snew_g (J.ranges z) (hrz z)) rfl rfl rfl (by decide) (by kernel_rfl) trivial (fun _ => rfl) rfl rfl ⟨Sub.rfl, trivial⟩ ?_
  rintro b g22
  refine Al_pu (Pu_move (.inr rfl) (by conv => lhs; whnf)) rfl rfl (by decide) (by kernel_rfl) ?_
  refine Al_nil ?_
  refine Aw_seq ?_
  refine Aw_seq ?_
  refine Aw_region ?_
  refine Al_pu (Pu_move (.inl rfl) (by conv => lhs; whnf)) rfl rfl (by decide) (by kernel_rfl) ?_
  refine Al_pu (Pu_eqnilb Try.underlying25 rfl rfl) rfl rfl (by decide) (by kernel_rfl) ?_
  refine Al_nil ?_
  refine Aw_condF rfl (rfl) ?_
  refine Aw_skip ?_
  refine Aw_seq ?_
  refine Aw_seq ?_
  refine Aw_region ?_
  refine Al_pu (Pu_move (.inr rfl) (by conv => lhs; whnf)) rfl rfl (by decide) (by kernel_rfl) ?_
  refine Al_nil ?_
  refine Aw_block ?_
  refine Aw_loopk (ι := Nat × (List Rng) × SC) [1, 5, 6] [] (fun (k, rs, cs) => [(7, .d (iv k))]) (fun (k, rs, cs) => [(22, g22, .box 66 [.d (rngA rs), .ow 220 g22]), (220, g22, mapV b cs)]) (fun (k, rs, cs) => k ≤ 50 ∧ J.Own k rs cs ∧ rs.length ≤ 1000000) (fun (k, rs, cs) => 50 - k) (0, J.ranges z, []) (⟨Nat.zero_le _, J.own_nil _, hrz z⟩) ⟨Sub.rfl, trivial⟩ ⟨rfl, rfl, trivial⟩ ?_
  rintro ⟨k, rs, cs⟩ ⟨hk2, hown, hrl⟩
  refine Aw_seq ?_
  refine Aw_seq ?_
  refine Aw_region ?_
  refine Al_pu (Pu_move (.inl rfl) (by conv => lhs; whnf)) rfl rfl (by decide) (by kernel_rfl) ?_
  refine Al_pu (Pu_move (.inl rfl) (by conv => lhs; whnf)) rfl rfl (by decide) (by kernel_rfl) ?_
  refine Al_pu (Pu_len rfl Try.underlying22 rfl (by first | exact List.length_map .. | exact rfl)) rfl rfl (by decide) (by kernel_rfl) ?_
  refine Al_pu (Pu_cmp rfl rfl rfl rfl) rfl rfl (by decide) (by kernel_rfl) ?_
  refine Al_pu (Pu_move (.inl rfl) (by conv => lhs; whnf)) rfl rfl (by decide) (by kernel_rfl) ?_
  refine Al_st (St_gd [] rfl rfl rfl rfl trivial (fun hg30 => by exact Pu_move (.inl rfl) (by conv => lhs; whnf))) rfl (by decide) (by kernel_rfl) (by intro j b oj dj h1 h2 h3; cases h1; cases h2; cases h3; decide) ?_
  refine Al_st (St_gd [30] rfl rfl rfl rfl ⟨⟨_, rfl⟩, trivial⟩ (fun hg31 => Pu_cmp rfl rfl rfl rfl)) rfl (by decide) (by kernel_rfl) (by intro j b oj dj h1 h2 h3; cases h1; cases h2; cases h3; decide) ?_
  refine Al_pu (Pu_and rfl rfl rfl rfl) rfl rfl (by decide) (by kernel_rfl) ?_
  refine Al_nil ?_
  refine Aw_cond rfl (fun h32 => ?_) (fun h32 => ?_)
  · (try simp only [decide_eq_true_eq, decide_eq_false_iff_not, Bool.and_eq_true, Bool.or_eq_true, Bool.and_eq_false_iff, Bool.or_eq_false_iff, Bool.not_eq_true', Bool.not_eq_false', beq_iff_eq, Bool.not_eq_eq_eq_not, Bool.not_true, Bool.not_false, List.length_map, Bool.and_true, Bool.and_false, Bool.false_and, Bool.true_and, Bool.or_false, Bool.false_or] at h32)
    obtain ⟨ha, hb⟩ : k < l.length ∧ k < 50 := by omega
    refine Aw_skip ?_
    -- join 0: live [1, 5, 6, 7], turned []
    refine Aw_seq ?_
    refine Aw_block ?_
    refine Aw_seq ?_
    refine Aw_region ?_
    refine Al_pu (Pu_move (.inl rfl) (by conv => lhs; whnf)) rfl rfl (by decide) (by kernel_rfl) ?_
    refine Al_pu (Pu_move (.inl rfl) (by conv => lhs; whnf)) rfl rfl (by decide) (by kernel_rfl) ?_
    refine Al_pu (Pu_index rfl Try.underlying22 Try.sizeOf38 rfl rfl (rfl) (mapgetD (d := default) ha)) rfl rfl (by decide) (by kernel_rfl) ?_
    refine Al_pu (Pu_loadN rfl Try.isAgg38 Try.sizeOf38 rfl (Nat.le_of_ble_eq_true rfl)) rfl rfl (by decide) (by kernel_rfl) ?_
    refine Al_alloc rfl rfl rfl (by decide) Try.zeroValue38 rfl (by kernel_rfl) (fun g8 => ?_)
    refine Al_storeN rfl rfl rfl (by kernel_rfl) Try.isAgg38 Try.sizeOf38 rfl rfl rfl rfl (Nat.le_of_ble_eq_true rfl) ?_
    refine Al_nil ?_
    refine Aw_seq ?_
    refine Aw_region ?_
    refine Al_pu (Pu_loadbN (r := [_, _, _, _, _, _, _, _, _, _, _, _, _, _]) rfl Try.isAgg38 Try.sizeOf38 rfl rfl rfl rfl) rfl rfl (by decide) (by kernel_rfl) ?_
    refine Al_pu (Pu_call (hversion_a (l.getD k default)) rfl ⟨Sub.rfl, trivial⟩) rfl rfl (by decide) (by kernel_rfl) ?_
    refine Al_alloc rfl rfl rfl (by decide) Try.zeroValue34 rfl (by kernel_rfl) (fun g9 => ?_)
    refine Al_storeN rfl rfl rfl (by kernel_rfl) Try.isAgg34 Try.sizeOf34 rfl rfl rfl rfl (Nat.le_of_ble_eq_true rfl) ?_
    refine Al_nil ?_
    refine Aw_join (ι := (List Rng) × SC) [1, 5, 6, 7] [] (fun (rs', cs') => []) (fun (rs', cs') => [(22, g22, .box 66 [.d (rngA rs'), .ow 220 g22]), (220, g22, mapV b cs')]) (fun (rs', cs') => J.Own (k + 1) rs' cs' ∧ rs'.length ≤ 1000000) ?_ ?_ -- join 1
    · refine Aw_seq ?_
      refine Aw_region ?_
      refine Al_pu (Pu_fieldb 0 rfl Try.underlying38 rfl rfl Try.sizeOf3 rfl) rfl rfl (by decide) (by kernel_rfl) ?_
      refine Al_pu (Pu_loadb rfl Try.isAgg3 rfl rfl rfl) rfl rfl (by decide) (by kernel_rfl) ?_
      refine Al_pu (Pu_int_and (r := J.andI (l.getD k default).kind 7) rfl rfl rfl rfl (fun _ => V.i64_ok _)) rfl rfl (by decide) (by kernel_rfl) ?_
      refine Al_nil ?_
      refine Aw_block ?_
      refine Aw_seq ?_
      refine Aw_region ?_
      refine Al_pu (Pu_cmp rfl rfl rfl rfl) rfl rfl (by decide) (by kernel_rfl) ?_
      refine Al_pu (Pu_move (.inr rfl) (by conv => lhs; whnf)) rfl rfl (by decide) (by kernel_rfl) ?_
      refine Al_nil ?_
      refine Aw_cond rfl (fun h68 => ?_) (fun h68 => ?_)
      · (try simp only [decide_eq_true_eq, decide_eq_false_iff_not, Bool.and_eq_true, Bool.or_eq_true, Bool.and_eq_false_iff, Bool.or_eq_false_iff, Bool.not_eq_true', Bool.not_eq_false', beq_iff_eq, Bool.not_eq_eq_eq_not, Bool.not_true, Bool.not_false, List.length_map, Bool.and_true, Bool.and_false, Bool.false_and, Bool.true_and, Bool.or_false, Bool.false_or] at h68)
        refine Aw_region ?_
        refine Al_pu (Pu_move (.inl rfl) (by conv => lhs; whnf)) rfl rfl (by decide) (by kernel_rfl) ?_
        refine Al_pu (Pu_fieldb 3 rfl Try.underlying34 rfl rfl Try.sizeOf31 rfl) rfl rfl (by decide) (by kernel_rfl) ?_
        refine Al_pu (Pu_loadbN (r := [_, _]) rfl Try.isAgg31 Try.sizeOf31 rfl rfl rfl rfl) rfl rfl (by decide) (by kernel_rfl) ?_
        refine Al_pu (Pu_fieldb 11 rfl Try.underlying38 rfl rfl Try.sizeOf36 rfl) rfl rfl (by decide) (by kernel_rfl) ?_
        refine Al_pu (Pu_loadbN (r := [_, _, _]) rfl Try.isAgg36 Try.sizeOf36 rfl rfl rfl rfl) rfl rfl (by decide) (by kernel_rfl) ?_
        refine Al_pu (Pu_slice1 rfl Try.underlying32 Try.sizeOf36 Try.zeroValue36 rfl (by decide) (by decide) (by kernel_rfl) rfl rfl rfl) rfl rfl (by decide) (by kernel_rfl) ?_
        refine Al_gcall [(1001, 22, g22), (1002, 220, g22)] [] (sclean_g rs cs b (J.ver (l.getD k default)).n (J.ver (l.getD k default)).s [(l.getD k default).pin] (by simp) hown.rise (hown.sm.mono (by omega))) rfl rfl rfl (by decide) (by kernel_rfl) ⟨rfl, rfl, trivial⟩ rfl ⟨Sub.rfl, Sub.rfl, Sub.rfl, trivial⟩ (fun g76 => ?_)
        refine Al_nil ?_
        exact ⟨(rs, J.sclean cs (J.ver (l.getD k default)).n (J.ver (l.getD k default)).s [(l.getD k default).pin]), ⟨(J.own_clean hown _ _ _).mono (by omega), hrl⟩, Le.ov trivial ⟨Sub.rfl, Sub.rfl, Sub.rfl, Sub.rfl, trivial⟩ ⟨rfl, rfl, trivial⟩ trivial⟩ -- join 1 next.0
      · (try simp only [decide_eq_true_eq, decide_eq_false_iff_not, Bool.and_eq_true, Bool.or_eq_true, Bool.and_eq_false_iff, Bool.or_eq_false_iff, Bool.not_eq_true', Bool.not_eq_false', beq_iff_eq, Bool.not_eq_eq_eq_not, Bool.not_true, Bool.not_false, List.length_map, Bool.and_true, Bool.and_false, Bool.false_and, Bool.true_and, Bool.or_false, Bool.false_or] at h68)
        refine Aw_seq ?_
        refine Aw_region ?_
        refine Al_pu (Pu_cmp rfl rfl rfl rfl) rfl rfl (by decide) (by kernel_rfl) ?_
        refine Al_pu (Pu_move (.inr rfl) (by conv => lhs; whnf)) rfl rfl (by decide) (by kernel_rfl) ?_
        refine Al_nil ?_
        refine Aw_cond rfl (fun h77 => ?_) (fun h77 => ?_)
        · (try simp only [decide_eq_true_eq, decide_eq_false_iff_not, Bool.and_eq_true, Bool.or_eq_true, Bool.and_eq_false_iff, Bool.or_eq_false_iff, Bool.not_eq_true', Bool.not_eq_false', beq_iff_eq, Bool.not_eq_eq_eq_not, Bool.not_true, Bool.not_false, List.length_map, Bool.and_true, Bool.and_false, Bool.false_and, Bool.true_and, Bool.or_false, Bool.false_or] at h77)
          refine Aw_region ?_
          refine Al_pu (Pu_move (.inl rfl) (by conv => lhs; whnf)) rfl rfl (by decide) (by kernel_rfl) ?_
          refine Al_pu (Pu_fieldb 2 rfl Try.underlying38 rfl rfl Try.sizeOf3 rfl) rfl rfl (by decide) (by kernel_rfl) ?_
          refine Al_pu (Pu_loadb rfl Try.isAgg3 rfl rfl rfl) rfl rfl (by decide) (by kernel_rfl) ?_
          refine Al_pu (Pu_call (hranges_a _) rfl ⟨Sub.rfl, trivial⟩) rfl rfl (by decide) (by kernel_rfl) ?_
          refine Al_gcall [(1001, 22, g22), (1002, 220, g22)] [] (smove_g rs (J.ranges (l.getD k default).n) cs b (hrz _) hown.rise (hown.sm.mono (by omega))) rfl rfl rfl (by decide) (by kernel_rfl) ⟨rfl, rfl, trivial⟩ rfl ⟨Sub.rfl, Sub.rfl, trivial⟩ (fun g83 => ?_)
          refine Al_nil ?_
          exact ⟨(J.ranges (l.getD k default).n, J.smove cs (J.ranges (l.getD k default).n)), ⟨(J.own_move hown _).mono (by omega), hrz _⟩, Le.ov trivial ⟨Sub.rfl, Sub.rfl, Sub.rfl, Sub.rfl, trivial⟩ ⟨rfl, rfl, trivial⟩ trivial⟩ -- join 1 next.1
        · (try simp only [decide_eq_true_eq, decide_eq_false_iff_not, Bool.and_eq_true, Bool.or_eq_true, Bool.and_eq_false_iff, Bool.or_eq_false_iff, Bool.not_eq_true', Bool.not_eq_false', beq_iff_eq, Bool.not_eq_eq_eq_not, Bool.not_true, Bool.not_false, List.length_map, Bool.and_true, Bool.and_false, Bool.false_and, Bool.true_and, Bool.or_false, Bool.false_or] at h77)
          have hsat2 := sat_g rs (J.sput rs cs (J.ver (l.getD k default))).1 b (J.ver (l.getD k default)).key (J.ver (l.getD k default)).n (J.ver (l.getD k default)).s ((J.sput_sm hown.sm (J.ver (l.getD k default))).mono (by omega))
          have hyes := J.sput_yes (rs := rs) (v := J.ver (l.getD k default)) hown.rise
          refine Aw_seq ?_
          refine Aw_region ?_
          refine Al_pu (Pu_move (.inl rfl) (by conv => lhs; whnf)) rfl rfl (by decide) (by kernel_rfl) ?_
          refine Al_pu (Pu_loadbN (r := [_, _, _, _, _, _]) rfl Try.isAgg34 Try.sizeOf34 rfl rfl rfl rfl) rfl rfl (by decide) (by kernel_rfl) ?_
          refine Al_gcall [(1001, 22, g22), (1002, 220, g22)] [] (sput_g rs cs b (J.ver (l.getD k default)) hrl hown.rise (hown.sm.mono (by omega))) rfl rfl rfl (by decide) (by kernel_rfl) ⟨rfl, rfl, trivial⟩ rfl ⟨Sub.rfl, Sub.rfl, trivial⟩ (fun g46 => ?_)
          refine Al_pu (Pu_move (.inr rfl) (by conv => lhs; whnf)) rfl rfl (by decide) (by kernel_rfl) ?_
          refine Al_nil ?_
          refine Aw_seq ?_
          refine Aw_region ?_
          refine Al_pu (Pu_move (.inl rfl) (by conv => lhs; whnf)) rfl rfl (by decide) (by kernel_rfl) ?_
          refine Al_pu (Pu_fieldb 0 rfl Try.underlying34 rfl rfl Try.sizeOf9 rfl) rfl rfl (by decide) (by kernel_rfl) ?_
          refine Al_pu (Pu_loadb rfl Try.isAgg9 rfl rfl rfl) rfl rfl (by decide) (by kernel_rfl) ?_
          refine Al_pu (Pu_fieldb 3 rfl Try.underlying34 rfl rfl Try.sizeOf31 rfl) rfl rfl (by decide) (by kernel_rfl) ?_
          refine Al_pu (Pu_loadbN (r := [_, _]) rfl Try.isAgg31 Try.sizeOf31 rfl rfl rfl rfl) rfl rfl (by decide) (by kernel_rfl) ?_
          refine Al_gcall [(1001, 22, g22), (1002, 220, g22)] [] (hsat2) rfl rfl rfl (by decide) (by kernel_rfl) ⟨rfl, rfl, trivial⟩ rfl ⟨Sub.rfl, Sub.rfl, Sub.rfl, trivial⟩ (fun g53 => ?_)
          refine Al_pu (Pu_move (.inl rfl) (by conv => lhs; whnf)) rfl rfl (by decide) (by kernel_rfl) ?_
          refine Al_pu (Pu_extract rfl rfl rfl) rfl rfl (by decide) (by kernel_rfl) ?_
          refine Al_pu (Pu_extract rfl rfl rfl) rfl rfl (by decide) (by kernel_rfl) ?_
          refine Al_alloc rfl rfl rfl (by decide) Try.zeroValue34 rfl (by kernel_rfl) (fun g11 => ?_)
          refine Al_storeN rfl rfl rfl (by kernel_rfl) Try.isAgg34 Try.sizeOf34 rfl rfl rfl rfl (Nat.le_of_ble_eq_true rfl) ?_
          refine Al_pu (Pu_move (.inr rfl) (by conv => lhs; whnf)) rfl rfl (by decide) (by kernel_rfl) ?_
          refine Al_nil ?_
          refine Aw_seq ?_
          refine Aw_region ?_
          refine Al_pu (Pu_loadbN (r := [_, _, _, _, _, _]) rfl Try.isAgg34 Try.sizeOf34 rfl rfl rfl rfl) rfl rfl (by decide) (by kernel_rfl) ?_
          refine Al_pu (Pu_loadbN (r := [_, _, _, _, _, _]) rfl Try.isAgg34 Try.sizeOf34 rfl rfl rfl rfl) rfl rfl (by decide) (by kernel_rfl) ?_
          refine Al_pu (Pu_call (rvsame_a (J.ver (l.getD k default)) ((J.sat (J.sput rs cs (J.ver (l.getD k default))).1 (J.ver (l.getD k default)).key (J.ver (l.getD k default)).n (J.ver (l.getD k default)).s).getD default)) rfl ⟨Sub.rfl, Sub.rfl, trivial⟩) rfl rfl (by decide) (by kernel_rfl) ?_
          refine Al_pu (Pu_move (.inr rfl) (by conv => lhs; whnf)) rfl rfl (by decide) (by kernel_rfl) ?_
          refine Al_nil ?_
          refine Aw_seq ?_
          refine Aw_region ?_
          refine Al_pu (Pu_move (.inl rfl) (by conv => lhs; whnf)) rfl rfl (by decide) (by kernel_rfl) ?_
          refine Al_pu (Pu_move (.inl rfl) (by conv => lhs; whnf)) rfl rfl (by decide) (by kernel_rfl) ?_
          refine Al_st (St_gd [] rfl rfl rfl rfl trivial (fun hg61 => by exact Pu_move (.inl rfl) (by conv => lhs; whnf))) rfl (by decide) (by kernel_rfl) (by intro j b oj dj h1 h2 h3; cases h1; cases h2; cases h3; decide) ?_
          refine Al_st (St_gd [61] rfl rfl rfl rfl ⟨⟨_, rfl⟩, trivial⟩ (fun hg62 => Pu_not rfl rfl)) rfl (by decide) (by kernel_rfl) (by intro j b oj dj h1 h2 h3; cases h1; cases h2; cases h3; decide) ?_
          refine Al_st (St_gd [62] rfl rfl rfl rfl ⟨⟨_, rfl⟩, trivial⟩ (fun hg63 => by exact Pu_move (.inl rfl) (by conv => lhs; whnf))) rfl (by decide) (by kernel_rfl) (by intro j b oj dj h1 h2 h3; cases h1; cases h2; cases h3; decide) ?_
          refine Al_st (St_gd2 [] rfl rfl rfl rfl trivial (fun hp64 hg64 => by exact Pu_move (.inl rfl) (by conv => lhs; whnf))) rfl (by decide) (by kernel_rfl) (by intro j b oj dj h1 h2 h3; cases h1; cases h2; cases h3; decide) ?_
          refine Al_st (St_gd2 [64] rfl rfl rfl rfl ⟨⟨_, rfl⟩, trivial⟩ (fun hp65 hg65 => Pu_not rfl rfl)) rfl (by decide) (by kernel_rfl) (by intro j b oj dj h1 h2 h3; cases h1; cases h2; cases h3; decide) ?_
          refine Al_st (St_gd [63] rfl rfl rfl rfl ⟨⟨_, rfl⟩, trivial⟩ (fun hg66 => Pu_orG rfl rfl rfl (fun h => ⟨hg66, h⟩) rfl)) rfl (by decide) (by kernel_rfl) (by intro j b oj dj h1 h2 h3; cases h1; cases h2; cases h3; decide) ?_
          refine Al_pu (Pu_and rfl rfl rfl rfl) rfl rfl (by decide) (by kernel_rfl) ?_
          refine Al_nil ?_
          refine Aw_cond rfl (fun h67 => ?_) (fun h67 => ?_)
          · skip
            exfalso
            cases hb : (J.sput rs cs (J.ver (l.getD k default))).2 with
            | false => rw [hb] at h67; simp at h67
            | true =>
              obtain ⟨_, h2, _⟩ := hyes hb
              rw [hb, h2] at h67
              simp at h67
          · skip
            refine Aw_skip ?_
            exact ⟨(rs, (J.sput rs cs (J.ver (l.getD k default))).1), ⟨J.own_put hown _, hrl⟩, Le.ov trivial ⟨Sub.rfl, Sub.rfl, Sub.rfl, Sub.rfl, trivial⟩ ⟨rfl, rfl, trivial⟩ trivial⟩ -- join 1 next.2
    · rintro ⟨rs', cs'⟩ ⟨hown', hrl'⟩
      have hkl : (J.keysC cs').length ≤ 51 := by
        have := hown'.sm.1
        unfold J.keysC
        rw [List.length_map]; omega
      refine Aw_seq ?_
      refine Aw_region ?_
      refine Al_pu (Pu_move (.inl rfl) (by conv => lhs; whnf)) rfl rfl (by decide) (by kernel_rfl) ?_
      refine Al_gcall [(1001, 22, g22), (1002, 220, g22)] [] (skeys_g rs' cs' b hown'.rise (hown'.sm.mono (by omega))) rfl rfl rfl (by decide) (by kernel_rfl) ⟨rfl, rfl, trivial⟩ rfl ⟨Sub.rfl, trivial⟩ (fun g85 => ?_)
      refine Al_pu (Pu_move (.inr rfl) (by conv => lhs; whnf)) rfl rfl (by decide) (by kernel_rfl) ?_
      refine Al_nil ?_
      refine Aw_seq ?_
      refine Aw_region ?_
      refine Al_pu (Pu_move (.inl rfl) (by conv => lhs; whnf)) rfl rfl (by decide) (by kernel_rfl) ?_
      refine Al_gcall [(1001, 22, g22), (1002, 220, g22)] [] (shave_g rs' cs' b hown'.rise (hown'.sm.mono (by omega))) rfl rfl rfl (by decide) (by kernel_rfl) ⟨rfl, rfl, trivial⟩ rfl ⟨Sub.rfl, trivial⟩ (fun g87 => ?_)
      refine Al_pu (Pu_move (.inr rfl) (by conv => lhs; whnf)) rfl rfl (by decide) (by kernel_rfl) ?_
      refine Al_nil ?_
      refine Aw_seq ?_
      refine Aw_seq ?_
      refine Aw_region ?_
      refine Al_pu (Pu_move (.inl rfl) (by conv => lhs; whnf)) rfl rfl (by decide) (by kernel_rfl) ?_
      refine Al_pu (Pu_len rfl Try.underlying32 rfl (by first | exact List.length_map .. | exact rfl)) rfl rfl (by decide) (by kernel_rfl) ?_
      refine Al_pu (Pu_move (.inl rfl) (by conv => lhs; whnf)) rfl rfl (by decide) (by kernel_rfl) ?_
      refine Al_pu (Pu_len rfl Try.underlying59 rfl (by first | exact List.length_map .. | exact rfl)) rfl rfl (by decide) (by kernel_rfl) ?_
      refine Al_pu (Pu_cmp rfl rfl rfl rfl) rfl rfl (by decide) (by kernel_rfl) ?_
      refine Al_nil ?_
      refine Aw_cond rfl (fun h92 => ?_) (fun h92 => ?_)
      · (try simp only [decide_eq_true_eq, decide_eq_false_iff_not, Bool.and_eq_true, Bool.or_eq_true, Bool.and_eq_false_iff, Bool.or_eq_false_iff, Bool.not_eq_true', Bool.not_eq_false', beq_iff_eq, Bool.not_eq_eq_eq_not, Bool.not_true, Bool.not_false, List.length_map, Bool.and_true, Bool.and_false, Bool.false_and, Bool.true_and, Bool.or_false, Bool.false_or] at h92)
        exfalso
        have := J.have_len cs'
        omega
      · (try simp only [decide_eq_true_eq, decide_eq_false_iff_not, Bool.and_eq_true, Bool.or_eq_true, Bool.and_eq_false_iff, Bool.or_eq_false_iff, Bool.not_eq_true', Bool.not_eq_false', beq_iff_eq, Bool.not_eq_eq_eq_not, Bool.not_true, Bool.not_false, List.length_map, Bool.and_true, Bool.and_false, Bool.false_and, Bool.true_and, Bool.or_false, Bool.false_or] at h92)
        refine Aw_skip ?_
        refine Aw_seq ?_
        refine Aw_region ?_
        refine Al_pu (Pu_move (.inr rfl) (by conv => lhs; whnf)) rfl rfl (by decide) (by kernel_rfl) ?_
        refine Al_nil ?_
        refine Aw_block ?_
        refine Aw_loopk (ι := Nat) [1, 5, 6, 7, 14, 15] [22, 220] (fun j => [(16, .d (iv j))]) (fun j => []) (fun j => j ≤ (J.keysC cs').length) (fun j => (J.keysC cs').length - j) (0) (Nat.zero_le _) ⟨Sub.rfl, trivial⟩ trivial ?_
        rintro j hk1
        refine Aw_seq ?_
        refine Aw_seq ?_
        refine Aw_region ?_
        refine Al_pu (Pu_move (.inl rfl) (by conv => lhs; whnf)) rfl rfl (by decide) (by kernel_rfl) ?_
        refine Al_pu (Pu_move (.inl rfl) (by conv => lhs; whnf)) rfl rfl (by decide) (by kernel_rfl) ?_
        refine Al_pu (Pu_len rfl Try.underlying59 rfl (by first | exact List.length_map .. | exact rfl)) rfl rfl (by decide) (by kernel_rfl) ?_
        refine Al_pu (Pu_cmp rfl rfl rfl rfl) rfl rfl (by decide) (by kernel_rfl) ?_
        refine Al_nil ?_
        refine Aw_cond rfl (fun h96 => ?_) (fun h96 => ?_)
        · (try simp only [decide_eq_true_eq, decide_eq_false_iff_not, Bool.and_eq_true, Bool.or_eq_true, Bool.and_eq_false_iff, Bool.or_eq_false_iff, Bool.not_eq_true', Bool.not_eq_false', beq_iff_eq, Bool.not_eq_eq_eq_not, Bool.not_true, Bool.not_false, List.length_map, Bool.and_true, Bool.and_false, Bool.false_and, Bool.true_and, Bool.or_false, Bool.false_or] at h96)
          have hj : j < (J.keysC cs').length := by omega
          have hjh : j < (J.have' cs').length := by rw [J.have_len]; exact hj
          obtain ⟨ho1, ho2, ho3⟩ := hown'.at hj
          have hlt := J.keys_lt hown'.rise hj
          have hrf := rfind_a rs' ((J.keysC cs').getD j default) hrl'
          refine Aw_skip ?_
          -- join 2: live [1, 5, 6, 7, 14, 15, 16], turned []
          refine Aw_seq ?_
          refine Aw_block ?_
          refine Aw_seq ?_
          refine Aw_region ?_
          refine Al_pu (Pu_move (.inl rfl) (by conv => lhs; whnf)) rfl rfl (by decide) (by kernel_rfl) ?_
          refine Al_pu (Pu_move (.inl rfl) (by conv => lhs; whnf)) rfl rfl (by decide) (by kernel_rfl) ?_
          refine Al_pu (Pu_move (.inl rfl) (by conv => lhs; whnf)) rfl rfl (by decide) (by kernel_rfl) ?_
          refine Al_pu (Pu_index rfl Try.underlying59 Try.sizeOf9 rfl rfl (rfl) (mapgetD (d := default) hj)) rfl rfl (by decide) (by kernel_rfl) ?_
          refine Al_pu (Pu_load1 rfl Try.isAgg9 rfl rfl) rfl rfl (by decide) (by kernel_rfl) ?_
          refine Al_gcall [(1001, 22, g22), (1002, 220, g22)] [] (shead_g rs' cs' b ((J.keysC cs').getD j default) (hown'.sm.mono (by omega))) rfl rfl rfl (by decide) (by kernel_rfl) ⟨rfl, rfl, trivial⟩ rfl ⟨Sub.rfl, Sub.rfl, trivial⟩ (fun g105 => ?_)
          refine Al_pu (Pu_move (.inl rfl) (by conv => lhs; whnf)) rfl rfl (by decide) (by kernel_rfl) ?_
          refine Al_pu (Pu_extract rfl rfl rfl) rfl rfl (by decide) (by kernel_rfl) ?_
          refine Al_pu (Pu_extract rfl rfl rfl) rfl rfl (by decide) (by kernel_rfl) ?_
          refine Al_alloc rfl rfl rfl (by decide) Try.zeroValue34 rfl (by kernel_rfl) (fun g17 => ?_)
          refine Al_storeN rfl rfl rfl (by kernel_rfl) Try.isAgg34 Try.sizeOf34 rfl rfl rfl rfl (Nat.le_of_ble_eq_true rfl) ?_
          refine Al_pu (Pu_move (.inr rfl) (by conv => lhs; whnf)) rfl rfl (by decide) (by kernel_rfl) ?_
          refine Al_nil ?_
          -- join 3: live [1, 5, 6, 7, 14, 15, 16, 157], turned [157]
          refine Aw_seq ?_
          refine Aw_drawn (by kernel_rfl) ?_
          refine Ad_take 0 rfl (PuI_move (.inl rfl) (by conv => lhs; whnf)) rfl rfl (by decide) (by kernel_rfl) (by kernel_rfl) (by kernel_rfl) (by kernel_rfl) (fun _ _ h => h) ?_
          refine Ad_take 2 rfl (PuI_move (.inl rfl) (by conv => lhs; whnf)) rfl rfl (by decide) (by kernel_rfl) (by kernel_rfl) (by kernel_rfl) (by kernel_rfl) (fun _ _ h => h) ?_
          refine Ad_take 3 rfl (PuI_move (.inl rfl) (by conv => lhs; whnf)) rfl rfl (by decide) (by kernel_rfl) (by kernel_rfl) (by kernel_rfl) (by kernel_rfl) (fun _ _ h => h) ?_
          refine Ad_two 1 4 rfl rfl (by kernel_rfl) ?_ ?_
          · refine Al_gcall [(1001, 22, g22), (1002, 220, g22)] [] (sranges_g rs' cs' b hrl') rfl rfl rfl (by decide) (by kernel_rfl) ⟨rfl, rfl, trivial⟩ rfl ⟨Sub.rfl, trivial⟩ (fun g109 => ?_)
            refine Al_nil ?_
            refine Ad_drawP 4 50 0 (by kernel_rfl) (by decide) rfl (by rfl) (by rfl) ?_
            refine Dr_pu (Pu_index rfl Try.underlying59 Try.sizeOf9 rfl rfl (rfl) (mapgetD (d := default) hj)) rfl rfl ?_
            refine Dr_pu (Pu_load1 rfl Try.isAgg9 rfl rfl) rfl rfl ?_
            refine Dr_pu (Pu_call (hrf) rfl ⟨Sub.rfl, Sub.rfl, trivial⟩) rfl rfl ?_
            refine Dr_pu (Pu_cmp rfl rfl rfl rfl) rfl rfl ?_
            refine Dr_pu (Pu_move (.inl rfl) (by conv => lhs; whnf)) rfl rfl ?_
            refine Dr_st (St_gd [] rfl rfl rfl rfl trivial (fun hg117 => by exact Pu_move (.inl rfl) (by conv => lhs; whnf))) rfl ?_
            refine Dr_st (St_gd [117] rfl rfl rfl rfl ⟨⟨_, rfl⟩, trivial⟩ (fun hg118 => Pu_not rfl rfl)) rfl ?_
            refine Dr_pu (Pu_or rfl rfl rfl rfl) rfl rfl ?_
            refine Dr_pu (Pu_move (.inl rfl) (by conv => lhs; whnf)) rfl rfl ?_
            refine Dr_st (St_gd [] rfl rfl rfl rfl trivial (fun hg121 => by exact Pu_move (.inl rfl) (by conv => lhs; whnf))) rfl ?_
            refine Dr_st (St_gd [] rfl rfl rfl rfl trivial (fun hg122 => by exact Pu_move (.inl rfl) (by conv => lhs; whnf))) rfl ?_
            refine Dr_st (St_gd [121, 122] rfl rfl rfl rfl ⟨⟨_, rfl⟩, ⟨_, rfl⟩, trivial⟩ (fun hg123 => Pu_index rfl Try.underlying32 Try.sizeOf36 rfl rfl (rfl) (mapgetD (d := default) hjh))) rfl ?_
            refine Dr_st (St_gd [123] rfl rfl rfl rfl ⟨⟨_, rfl⟩, trivial⟩ (fun hg124 => Pu_field 0 rfl Try.underlying36 rfl rfl Try.sizeOf9 rfl)) rfl ?_
            refine Dr_st (St_gd [124] rfl rfl rfl rfl ⟨⟨_, rfl⟩, trivial⟩ (fun hg125 => Pu_load1 rfl Try.isAgg9 rfl rfl)) rfl ?_
            refine Dr_st (St_gd [] rfl rfl rfl rfl trivial (fun hg126 => by exact Pu_move (.inl rfl) (by conv => lhs; whnf))) rfl ?_
            refine Dr_st (St_gd [] rfl rfl rfl rfl trivial (fun hg127 => by exact Pu_move (.inl rfl) (by conv => lhs; whnf))) rfl ?_
            refine Dr_st (St_gd [126, 127] rfl rfl rfl rfl ⟨⟨_, rfl⟩, ⟨_, rfl⟩, trivial⟩ (fun hg128 => Pu_index rfl Try.underlying59 Try.sizeOf9 rfl rfl (rfl) (mapgetD (d := default) hj))) rfl ?_
            refine Dr_st (St_gd [128] rfl rfl rfl rfl ⟨⟨_, rfl⟩, trivial⟩ (fun hg129 => Pu_load1 rfl Try.isAgg9 rfl rfl)) rfl ?_
            refine Dr_st (St_gd [125, 129] rfl rfl rfl rfl ⟨⟨_, rfl⟩, ⟨_, rfl⟩, trivial⟩ (fun hg130 => Pu_str rfl rfl rfl rfl)) rfl ?_
            refine Dr_pu (Pu_or rfl rfl rfl rfl) rfl rfl ?_
            refine Dr_pu (Pu_move (.inl rfl) (by conv => lhs; whnf)) rfl rfl ?_
            refine Dr_st (St_gd [] rfl rfl rfl rfl trivial (fun hg133 => by exact Pu_move (.inl rfl) (by conv => lhs; whnf))) rfl ?_
            refine Dr_st (St_gd [] rfl rfl rfl rfl trivial (fun hg134 => by exact Pu_move (.inl rfl) (by conv => lhs; whnf))) rfl ?_
            refine Dr_st (St_gd [133, 134] rfl rfl rfl rfl ⟨⟨_, rfl⟩, ⟨_, rfl⟩, trivial⟩ (fun hg135 => Pu_index rfl Try.underlying32 Try.sizeOf36 rfl rfl (rfl) (mapgetD (d := default) hjh))) rfl ?_
            refine Dr_st (St_gd [135] rfl rfl rfl rfl ⟨⟨_, rfl⟩, trivial⟩ (fun hg136 => Pu_field 1 rfl Try.underlying36 rfl rfl Try.sizeOf31 rfl)) rfl ?_
            refine Dr_st (St_gd [136] rfl rfl rfl rfl ⟨⟨_, rfl⟩, trivial⟩ (fun hg137 => Pu_loadN rfl Try.isAgg31 Try.sizeOf31 rfl (Nat.le_of_ble_eq_true rfl))) rfl ?_
            refine Dr_st (St_gd [] rfl rfl rfl rfl trivial (fun hg138 => Pu_fieldb 3 rfl Try.underlying34 rfl rfl Try.sizeOf31 rfl)) rfl ?_
            refine Dr_st (St_gd [138] rfl rfl rfl rfl ⟨⟨_, rfl⟩, trivial⟩ (fun hg139 => Pu_loadbN (r := [_, _]) rfl Try.isAgg31 Try.sizeOf31 rfl rfl rfl rfl)) rfl ?_
            refine Dr_st (St_gd [137, 139] rfl rfl rfl rfl ⟨⟨_, rfl⟩, ⟨_, rfl⟩, trivial⟩ (fun hg140 => Pu_eqrow [.int .i64 _, .int .i64 _] [.int .i64 _, .int .i64 _] (fun w => nev31 _ _ _ _ _ _ w) rfl rfl rfl)) rfl ?_
            refine Dr_pu (Pu_or rfl rfl rfl rfl) rfl rfl ?_
            refine Dr_pu (Pu_move (.inl rfl) (by conv => lhs; whnf)) rfl rfl ?_
            refine Dr_st (St_gd [] rfl rfl rfl rfl trivial (fun hg143 => by exact Pu_move (.inl rfl) (by conv => lhs; whnf))) rfl ?_
            refine Dr_st (St_gd [143] rfl rfl rfl rfl ⟨⟨_, rfl⟩, trivial⟩ (fun hg144 => Pu_cmp rfl rfl rfl rfl)) rfl ?_
            refine Dr_st (St_gd [144] rfl rfl rfl rfl ⟨⟨_, rfl⟩, trivial⟩ (fun hg145 => by exact Pu_move (.inl rfl) (by conv => lhs; whnf))) rfl ?_
            refine Dr_st (St_gd2 [] rfl rfl rfl rfl trivial (fun hp146 hg146 => by exact Pu_move (.inl rfl) (by conv => lhs; whnf))) rfl ?_
            refine Dr_st (St_gd2 [] rfl rfl rfl rfl trivial (fun hp147 hg147 => by exact Pu_move (.inl rfl) (by conv => lhs; whnf))) rfl ?_
            refine Dr_st (St_gd2 [147] rfl rfl rfl rfl ⟨⟨_, rfl⟩, trivial⟩ (fun hp148 hg148 => by exact Pu_sub rfl rfl rfl (fun h1 h2 => by simp only [A.inI, A.maxI] at *; omega))) rfl ?_
            refine Dr_st (St_gd2 [146, 148] rfl rfl rfl rfl ⟨⟨_, rfl⟩, ⟨_, rfl⟩, trivial⟩ (fun hp149 hg149 => by exact Pu_index rfl Try.underlying59 Try.sizeOf9 rfl rfl ((show ((j : Int) - 1) = ((j - 1 : Nat) : Int) from by have := of_decide_eq_true hg149; omega)) (mapgetD (d := default) (show j - 1 < (J.keysC cs').length by omega)))) rfl ?_
            refine Dr_st (St_gd2 [149] rfl rfl rfl rfl ⟨⟨_, rfl⟩, trivial⟩ (fun hp150 hg150 => Pu_load1 rfl Try.isAgg9 rfl rfl)) rfl ?_
            refine Dr_st (St_gd2 [] rfl rfl rfl rfl trivial (fun hp151 hg151 => by exact Pu_move (.inl rfl) (by conv => lhs; whnf))) rfl ?_
            refine Dr_st (St_gd2 [] rfl rfl rfl rfl trivial (fun hp152 hg152 => by exact Pu_move (.inl rfl) (by conv => lhs; whnf))) rfl ?_
            refine Dr_st (St_gd2 [151, 152] rfl rfl rfl rfl ⟨⟨_, rfl⟩, ⟨_, rfl⟩, trivial⟩ (fun hp153 hg153 => Pu_index rfl Try.underlying59 Try.sizeOf9 rfl rfl (rfl) (mapgetD (d := default) hj))) rfl ?_
            refine Dr_st (St_gd2 [153] rfl rfl rfl rfl ⟨⟨_, rfl⟩, trivial⟩ (fun hp154 hg154 => Pu_load1 rfl Try.isAgg9 rfl rfl)) rfl ?_
            refine Dr_st (St_gd2 [150, 154] rfl rfl rfl rfl ⟨⟨_, rfl⟩, ⟨_, rfl⟩, trivial⟩ (fun hp155 hg155 => Pu_str rfl rfl rfl rfl)) rfl ?_
            refine Dr_st (St_gd [145] rfl rfl rfl rfl ⟨⟨_, rfl⟩, trivial⟩ (fun hg156 => Pu_andG rfl rfl (fun h => ⟨hg156, h⟩) rfl rfl)) rfl ?_
            refine Dr_pu (Pu_or rfl rfl rfl rfl) rfl rfl ?_
            refine Dr_nil ?_
            refine Ad_done (by kernel_rfl) ?_
            refine Aw_cond rfl (fun h157 => ?_) (fun h157 => ?_)
            · skip
              exfalso
              rw [ho3, ho2] at h157
              simp only [decide_eq_false ho1, Bool.not_true, Bool.false_or, BEq.rfl, Bool.and_self, Bool.and_eq_true, decide_eq_true_eq, Bool.not_eq_true'] at h157
              obtain ⟨h3, h4⟩ := h157
              rw [hlt (by omega)] at h4
              cases h4
            · skip
              refine Aw_skip ?_
              refine Aw_region ?_
              refine Al_pu (Pu_move (.inl rfl) (by conv => lhs; whnf)) rfl rfl (by decide) (by kernel_rfl) ?_
              refine Al_pu (Pu_add rfl rfl rfl (fun h1 h2 => by simp only [A.inI, A.maxI] at *; omega)) rfl rfl (by decide) (by kernel_rfl) ?_
              refine Al_pu (Pu_move (.inr rfl) (by conv => lhs; whnf)) rfl rfl (by decide) (by kernel_rfl) ?_
              refine Al_nil ?_
              exact ⟨j + 1, by omega, by omega, Le.ov ⟨Sub.num (by omega), trivial⟩ ⟨Sub.rfl, Sub.rfl, Sub.rfl, Sub.rfl, Sub.rfl, Sub.rfl, trivial⟩ trivial ⟨rfl, rfl, trivial⟩⟩ -- loop 1 next.0
          · refine Al_pu (Pu_index rfl Try.underlying59 Try.sizeOf9 rfl rfl (rfl) (mapgetD (d := default) hj)) rfl rfl (by decide) (by kernel_rfl) ?_
            refine Al_nil ?_
            refine Ad_two 1 5 rfl rfl (by kernel_rfl) ?_ ?_
            · refine Al_gcall [(1001, 22, g22), (1002, 220, g22)] [] (sranges_g rs' cs' b hrl') rfl rfl rfl (by decide) (by kernel_rfl) ⟨rfl, rfl, trivial⟩ rfl ⟨Sub.rfl, trivial⟩ (fun g109 => ?_)
              refine Al_nil ?_
              refine Ad_drawP 5 50 0 (by kernel_rfl) (by decide) rfl (by rfl) (by rfl) ?_
              refine Dr_pu (Pu_load1 rfl Try.isAgg9 rfl rfl) rfl rfl ?_
              refine Dr_pu (Pu_call (hrf) rfl ⟨Sub.rfl, Sub.rfl, trivial⟩) rfl rfl ?_
              refine Dr_pu (Pu_cmp rfl rfl rfl rfl) rfl rfl ?_
              refine Dr_pu (Pu_move (.inl rfl) (by conv => lhs; whnf)) rfl rfl ?_
              refine Dr_st (St_gd [] rfl rfl rfl rfl trivial (fun hg117 => by exact Pu_move (.inl rfl) (by conv => lhs; whnf))) rfl ?_
              refine Dr_st (St_gd [117] rfl rfl rfl rfl ⟨⟨_, rfl⟩, trivial⟩ (fun hg118 => Pu_not rfl rfl)) rfl ?_
              refine Dr_pu (Pu_or rfl rfl rfl rfl) rfl rfl ?_
              refine Dr_pu (Pu_move (.inl rfl) (by conv => lhs; whnf)) rfl rfl ?_
              refine Dr_st (St_gd [] rfl rfl rfl rfl trivial (fun hg121 => by exact Pu_move (.inl rfl) (by conv => lhs; whnf))) rfl ?_
              refine Dr_st (St_gd [] rfl rfl rfl rfl trivial (fun hg122 => by exact Pu_move (.inl rfl) (by conv => lhs; whnf))) rfl ?_
              refine Dr_st (St_gd [121, 122] rfl rfl rfl rfl ⟨⟨_, rfl⟩, ⟨_, rfl⟩, trivial⟩ (fun hg123 => Pu_index rfl Try.underlying32 Try.sizeOf36 rfl rfl (rfl) (mapgetD (d := default) hjh))) rfl ?_
              refine Dr_st (St_gd [123] rfl rfl rfl rfl ⟨⟨_, rfl⟩, trivial⟩ (fun hg124 => Pu_field 0 rfl Try.underlying36 rfl rfl Try.sizeOf9 rfl)) rfl ?_
              refine Dr_st (St_gd [124] rfl rfl rfl rfl ⟨⟨_, rfl⟩, trivial⟩ (fun hg125 => Pu_load1 rfl Try.isAgg9 rfl rfl)) rfl ?_
              refine Dr_st (St_gd [] rfl rfl rfl rfl trivial (fun hg126 => by exact Pu_move (.inl rfl) (by conv => lhs; whnf))) rfl ?_
              refine Dr_st (St_gd [] rfl rfl rfl rfl trivial (fun hg127 => by exact Pu_move (.inl rfl) (by conv => lhs; whnf))) rfl ?_
              refine Dr_st (St_gd [126, 127] rfl rfl rfl rfl ⟨⟨_, rfl⟩, ⟨_, rfl⟩, trivial⟩ (fun hg128 => Pu_index rfl Try.underlying59 Try.sizeOf9 rfl rfl (rfl) (mapgetD (d := default) hj))) rfl ?_
              refine Dr_st (St_gd [128] rfl rfl rfl rfl ⟨⟨_, rfl⟩, trivial⟩ (fun hg129 => Pu_load1 rfl Try.isAgg9 rfl rfl)) rfl ?_
              refine Dr_st (St_gd [125, 129] rfl rfl rfl rfl ⟨⟨_, rfl⟩, ⟨_, rfl⟩, trivial⟩ (fun hg130 => Pu_str rfl rfl rfl rfl)) rfl ?_
              refine Dr_pu (Pu_or rfl rfl rfl rfl) rfl rfl ?_
              refine Dr_pu (Pu_move (.inl rfl) (by conv => lhs; whnf)) rfl rfl ?_
              refine Dr_st (St_gd [] rfl rfl rfl rfl trivial (fun hg133 => by exact Pu_move (.inl rfl) (by conv => lhs; whnf))) rfl ?_
              refine Dr_st (St_gd [] rfl rfl rfl rfl trivial (fun hg134 => by exact Pu_move (.inl rfl) (by conv => lhs; whnf))) rfl ?_
              refine Dr_st (St_gd [133, 134] rfl rfl rfl rfl ⟨⟨_, rfl⟩, ⟨_, rfl⟩, trivial⟩ (fun hg135 => Pu_index rfl Try.underlying32 Try.sizeOf36 rfl rfl (rfl) (mapgetD (d := default) hjh))) rfl ?_
              refine Dr_st (St_gd [135] rfl rfl rfl rfl ⟨⟨_, rfl⟩, trivial⟩ (fun hg136 => Pu_field 1 rfl Try.underlying36 rfl rfl Try.sizeOf31 rfl)) rfl ?_
              refine Dr_st (St_gd [136] rfl rfl rfl rfl ⟨⟨_, rfl⟩, trivial⟩ (fun hg137 => Pu_loadN rfl Try.isAgg31 Try.sizeOf31 rfl (Nat.le_of_ble_eq_true rfl))) rfl ?_
              refine Dr_st (St_gd [] rfl rfl rfl rfl trivial (fun hg138 => Pu_fieldb 3 rfl Try.underlying34 rfl rfl Try.sizeOf31 rfl)) rfl ?_
              refine Dr_st (St_gd [138] rfl rfl rfl rfl ⟨⟨_, rfl⟩, trivial⟩ (fun hg139 => Pu_loadbN (r := [_, _]) rfl Try.isAgg31 Try.sizeOf31 rfl rfl rfl rfl)) rfl ?_
              refine Dr_st (St_gd [137, 139] rfl rfl rfl rfl ⟨⟨_, rfl⟩, ⟨_, rfl⟩, trivial⟩ (fun hg140 => Pu_eqrow [.int .i64 _, .int .i64 _] [.int .i64 _, .int .i64 _] (fun w => nev31 _ _ _ _ _ _ w) rfl rfl rfl)) rfl ?_
              refine Dr_pu (Pu_or rfl rfl rfl rfl) rfl rfl ?_
              refine Dr_pu (Pu_move (.inl rfl) (by conv => lhs; whnf)) rfl rfl ?_
              refine Dr_st (St_gd [] rfl rfl rfl rfl trivial (fun hg143 => by exact Pu_move (.inl rfl) (by conv => lhs; whnf))) rfl ?_
              refine Dr_st (St_gd [143] rfl rfl rfl rfl ⟨⟨_, rfl⟩, trivial⟩ (fun hg144 => Pu_cmp rfl rfl rfl rfl)) rfl ?_
              refine Dr_st (St_gd [144] rfl rfl rfl rfl ⟨⟨_, rfl⟩, trivial⟩ (fun hg145 => by exact Pu_move (.inl rfl) (by conv => lhs; whnf))) rfl ?_
              refine Dr_st (St_gd2 [] rfl rfl rfl rfl trivial (fun hp146 hg146 => by exact Pu_move (.inl rfl) (by conv => lhs; whnf))) rfl ?_
              refine Dr_st (St_gd2 [] rfl rfl rfl rfl trivial (fun hp147 hg147 => by exact Pu_move (.inl rfl) (by conv => lhs; whnf))) rfl ?_
              refine Dr_st (St_gd2 [147] rfl rfl rfl rfl ⟨⟨_, rfl⟩, trivial⟩ (fun hp148 hg148 => by exact Pu_sub rfl rfl rfl (fun h1 h2 => by simp only [A.inI, A.maxI] at *; omega))) rfl ?_
              refine Dr_st (St_gd2 [146, 148] rfl rfl rfl rfl ⟨⟨_, rfl⟩, ⟨_, rfl⟩, trivial⟩ (fun hp149 hg149 => by exact Pu_index rfl Try.underlying59 Try.sizeOf9 rfl rfl ((show ((j : Int) - 1) = ((j - 1 : Nat) : Int) from by have := of_decide_eq_true hg149; omega)) (mapgetD (d := default) (show j - 1 < (J.keysC cs').length by omega)))) rfl ?_
              refine Dr_st (St_gd2 [149] rfl rfl rfl rfl ⟨⟨_, rfl⟩, trivial⟩ (fun hp150 hg150 => Pu_load1 rfl Try.isAgg9 rfl rfl)) rfl ?_
              refine Dr_st (St_gd2 [] rfl rfl rfl rfl trivial (fun hp151 hg151 => by exact Pu_move (.inl rfl) (by conv => lhs; whnf))) rfl ?_
              refine Dr_st (St_gd2 [] rfl rfl rfl rfl trivial (fun hp152 hg152 => by exact Pu_move (.inl rfl) (by conv => lhs; whnf))) rfl ?_
              refine Dr_st (St_gd2 [151, 152] rfl rfl rfl rfl ⟨⟨_, rfl⟩, ⟨_, rfl⟩, trivial⟩ (fun hp153 hg153 => Pu_index rfl Try.underlying59 Try.sizeOf9 rfl rfl (rfl) (mapgetD (d := default) hj))) rfl ?_
              refine Dr_st (St_gd2 [153] rfl rfl rfl rfl ⟨⟨_, rfl⟩, trivial⟩ (fun hp154 hg154 => Pu_load1 rfl Try.isAgg9 rfl rfl)) rfl ?_
              refine Dr_st (St_gd2 [150, 154] rfl rfl rfl rfl ⟨⟨_, rfl⟩, ⟨_, rfl⟩, trivial⟩ (fun hp155 hg155 => Pu_str rfl rfl rfl rfl)) rfl ?_
              refine Dr_st (St_gd [145] rfl rfl rfl rfl ⟨⟨_, rfl⟩, trivial⟩ (fun hg156 => Pu_andG rfl rfl (fun h => ⟨hg156, h⟩) rfl rfl)) rfl ?_
              refine Dr_pu (Pu_or rfl rfl rfl rfl) rfl rfl ?_
              refine Dr_nil ?_
              refine Ad_done (by kernel_rfl) ?_
              refine Aw_cond rfl (fun h157 => ?_) (fun h157 => ?_)
              · skip
                exfalso
                rw [ho3, ho2] at h157
                simp only [decide_eq_false ho1, Bool.not_true, Bool.false_or, BEq.rfl, Bool.and_self, Bool.and_eq_true, decide_eq_true_eq, Bool.not_eq_true'] at h157
                obtain ⟨h3, h4⟩ := h157
                rw [hlt (by omega)] at h4
                cases h4
              · skip
                refine Aw_skip ?_
                refine Aw_region ?_
                refine Al_pu (Pu_move (.inl rfl) (by conv => lhs; whnf)) rfl rfl (by decide) (by kernel_rfl) ?_
                refine Al_pu (Pu_add rfl rfl rfl (fun h1 h2 => by simp only [A.inI, A.maxI] at *; omega)) rfl rfl (by decide) (by kernel_rfl) ?_
                refine Al_pu (Pu_move (.inr rfl) (by conv => lhs; whnf)) rfl rfl (by decide) (by kernel_rfl) ?_
                refine Al_nil ?_
                exact ⟨j + 1, by omega, by omega, Le.ov ⟨Sub.num (by omega), trivial⟩ ⟨Sub.rfl, Sub.rfl, Sub.rfl, Sub.rfl, Sub.rfl, Sub.rfl, trivial⟩ trivial ⟨rfl, rfl, trivial⟩⟩ -- loop 1 next.1
            · refine Al_pu (Pu_load1 rfl Try.isAgg9 rfl rfl) rfl rfl (by decide) (by kernel_rfl) ?_
              refine Al_nil ?_
              refine Ad_one 1 rfl (by kernel_rfl) ?_
              refine Al_gcall [(1001, 22, g22), (1002, 220, g22)] [] (sranges_g rs' cs' b hrl') rfl rfl rfl (by decide) (by kernel_rfl) ⟨rfl, rfl, trivial⟩ rfl ⟨Sub.rfl, trivial⟩ (fun g109 => ?_)
              refine Al_nil ?_
              refine Ad_drawP 6 50 0 (by kernel_rfl) (by decide) rfl (by rfl) (by rfl) ?_
              refine Dr_pu (Pu_call (hrf) rfl ⟨Sub.rfl, Sub.rfl, trivial⟩) rfl rfl ?_
              refine Dr_pu (Pu_cmp rfl rfl rfl rfl) rfl rfl ?_
              refine Dr_pu (Pu_move (.inl rfl) (by conv => lhs; whnf)) rfl rfl ?_
              refine Dr_st (St_gd [] rfl rfl rfl rfl trivial (fun hg117 => by exact Pu_move (.inl rfl) (by conv => lhs; whnf))) rfl ?_
              refine Dr_st (St_gd [117] rfl rfl rfl rfl ⟨⟨_, rfl⟩, trivial⟩ (fun hg118 => Pu_not rfl rfl)) rfl ?_
              refine Dr_pu (Pu_or rfl rfl rfl rfl) rfl rfl ?_
              refine Dr_pu (Pu_move (.inl rfl) (by conv => lhs; whnf)) rfl rfl ?_
              refine Dr_st (St_gd [] rfl rfl rfl rfl trivial (fun hg121 => by exact Pu_move (.inl rfl) (by conv => lhs; whnf))) rfl ?_
              refine Dr_st (St_gd [] rfl rfl rfl rfl trivial (fun hg122 => by exact Pu_move (.inl rfl) (by conv => lhs; whnf))) rfl ?_
              refine Dr_st (St_gd [121, 122] rfl rfl rfl rfl ⟨⟨_, rfl⟩, ⟨_, rfl⟩, trivial⟩ (fun hg123 => Pu_index rfl Try.underlying32 Try.sizeOf36 rfl rfl (rfl) (mapgetD (d := default) hjh))) rfl ?_
              refine Dr_st (St_gd [123] rfl rfl rfl rfl ⟨⟨_, rfl⟩, trivial⟩ (fun hg124 => Pu_field 0 rfl Try.underlying36 rfl rfl Try.sizeOf9 rfl)) rfl ?_
              refine Dr_st (St_gd [124] rfl rfl rfl rfl ⟨⟨_, rfl⟩, trivial⟩ (fun hg125 => Pu_load1 rfl Try.isAgg9 rfl rfl)) rfl ?_
              refine Dr_st (St_gd [] rfl rfl rfl rfl trivial (fun hg126 => by exact Pu_move (.inl rfl) (by conv => lhs; whnf))) rfl ?_
              refine Dr_st (St_gd [] rfl rfl rfl rfl trivial (fun hg127 => by exact Pu_move (.inl rfl) (by conv => lhs; whnf))) rfl ?_
              refine Dr_st (St_gd [126, 127] rfl rfl rfl rfl ⟨⟨_, rfl⟩, ⟨_, rfl⟩, trivial⟩ (fun hg128 => Pu_index rfl Try.underlying59 Try.sizeOf9 rfl rfl (rfl) (mapgetD (d := default) hj))) rfl ?_
              refine Dr_st (St_gd [128] rfl rfl rfl rfl ⟨⟨_, rfl⟩, trivial⟩ (fun hg129 => Pu_load1 rfl Try.isAgg9 rfl rfl)) rfl ?_
              refine Dr_st (St_gd [125, 129] rfl rfl rfl rfl ⟨⟨_, rfl⟩, ⟨_, rfl⟩, trivial⟩ (fun hg130 => Pu_str rfl rfl rfl rfl)) rfl ?_
              refine Dr_pu (Pu_or rfl rfl rfl rfl) rfl rfl ?_
              refine Dr_pu (Pu_move (.inl rfl) (by conv => lhs; whnf)) rfl rfl ?_
              refine Dr_st (St_gd [] rfl rfl rfl rfl trivial (fun hg133 => by exact Pu_move (.inl rfl) (by conv => lhs; whnf))) rfl ?_
              refine Dr_st (St_gd [] rfl rfl rfl rfl trivial (fun hg134 => by exact Pu_move (.inl rfl) (by conv => lhs; whnf))) rfl ?_
              refine Dr_st (St_gd [133, 134] rfl rfl rfl rfl ⟨⟨_, rfl⟩, ⟨_, rfl⟩, trivial⟩ (fun hg135 => Pu_index rfl Try.underlying32 Try.sizeOf36 rfl rfl (rfl) (mapgetD (d := default) hjh))) rfl ?_
              refine Dr_st (St_gd [135] rfl rfl rfl rfl ⟨⟨_, rfl⟩, trivial⟩ (fun hg136 => Pu_field 1 rfl Try.underlying36 rfl rfl Try.sizeOf31 rfl)) rfl ?_
              refine Dr_st (St_gd [136] rfl rfl rfl rfl ⟨⟨_, rfl⟩, trivial⟩ (fun hg137 => Pu_loadN rfl Try.isAgg31 Try.sizeOf31 rfl (Nat.le_of_ble_eq_true rfl))) rfl ?_
              refine Dr_st (St_gd [] rfl rfl rfl rfl trivial (fun hg138 => Pu_fieldb 3 rfl Try.underlying34 rfl rfl Try.sizeOf31 rfl)) rfl ?_
              refine Dr_st (St_gd [138] rfl rfl rfl rfl ⟨⟨_, rfl⟩, trivial⟩ (fun hg139 => Pu_loadbN (r := [_, _]) rfl Try.isAgg31 Try.sizeOf31 rfl rfl rfl rfl)) rfl ?_
              refine Dr_st (St_gd [137, 139] rfl rfl rfl rfl ⟨⟨_, rfl⟩, ⟨_, rfl⟩, trivial⟩ (fun hg140 => Pu_eqrow [.int .i64 _, .int .i64 _] [.int .i64 _, .int .i64 _] (fun w => nev31 _ _ _ _ _ _ w) rfl rfl rfl)) rfl ?_
              refine Dr_pu (Pu_or rfl rfl rfl rfl) rfl rfl ?_
              refine Dr_pu (Pu_move (.inl rfl) (by conv => lhs; whnf)) rfl rfl ?_
              refine Dr_st (St_gd [] rfl rfl rfl rfl trivial (fun hg143 => by exact Pu_move (.inl rfl) (by conv => lhs; whnf))) rfl ?_
              refine Dr_st (St_gd [143] rfl rfl rfl rfl ⟨⟨_, rfl⟩, trivial⟩ (fun hg144 => Pu_cmp rfl rfl rfl rfl)) rfl ?_
              refine Dr_st (St_gd [144] rfl rfl rfl rfl ⟨⟨_, rfl⟩, trivial⟩ (fun hg145 => by exact Pu_move (.inl rfl) (by conv => lhs; whnf))) rfl ?_
              refine Dr_st (St_gd2 [] rfl rfl rfl rfl trivial (fun hp146 hg146 => by exact Pu_move (.inl rfl) (by conv => lhs; whnf))) rfl ?_
              refine Dr_st (St_gd2 [] rfl rfl rfl rfl trivial (fun hp147 hg147 => by exact Pu_move (.inl rfl) (by conv => lhs; whnf))) rfl ?_
              refine Dr_st (St_gd2 [147] rfl rfl rfl rfl ⟨⟨_, rfl⟩, trivial⟩ (fun hp148 hg148 => by exact Pu_sub rfl rfl rfl (fun h1 h2 => by simp only [A.inI, A.maxI] at *; omega))) rfl ?_
              refine Dr_st (St_gd2 [146, 148] rfl rfl rfl rfl ⟨⟨_, rfl⟩, ⟨_, rfl⟩, trivial⟩ (fun hp149 hg149 => by exact Pu_index rfl Try.underlying59 Try.sizeOf9 rfl rfl ((show ((j : Int) - 1) = ((j - 1 : Nat) : Int) from by have := of_decide_eq_true hg149; omega)) (mapgetD (d := default) (show j - 1 < (J.keysC cs').length by omega)))) rfl ?_
              refine Dr_st (St_gd2 [149] rfl rfl rfl rfl ⟨⟨_, rfl⟩, trivial⟩ (fun hp150 hg150 => Pu_load1 rfl Try.isAgg9 rfl rfl)) rfl ?_
              refine Dr_st (St_gd2 [] rfl rfl rfl rfl trivial (fun hp151 hg151 => by exact Pu_move (.inl rfl) (by conv => lhs; whnf))) rfl ?_
              refine Dr_st (St_gd2 [] rfl rfl rfl rfl trivial (fun hp152 hg152 => by exact Pu_move (.inl rfl) (by conv => lhs; whnf))) rfl ?_
              refine Dr_st (St_gd2 [151, 152] rfl rfl rfl rfl ⟨⟨_, rfl⟩, ⟨_, rfl⟩, trivial⟩ (fun hp153 hg153 => Pu_index rfl Try.underlying59 Try.sizeOf9 rfl rfl (rfl) (mapgetD (d := default) hj))) rfl ?_
              refine Dr_st (St_gd2 [153] rfl rfl rfl rfl ⟨⟨_, rfl⟩, trivial⟩ (fun hp154 hg154 => Pu_load1 rfl Try.isAgg9 rfl rfl)) rfl ?_
              refine Dr_st (St_gd2 [150, 154] rfl rfl rfl rfl ⟨⟨_, rfl⟩, ⟨_, rfl⟩, trivial⟩ (fun hp155 hg155 => Pu_str rfl rfl rfl rfl)) rfl ?_
              refine Dr_st (St_gd [145] rfl rfl rfl rfl ⟨⟨_, rfl⟩, trivial⟩ (fun hg156 => Pu_andG rfl rfl (fun h => ⟨hg156, h⟩) rfl rfl)) rfl ?_
              refine Dr_pu (Pu_or rfl rfl rfl rfl) rfl rfl ?_
              refine Dr_nil ?_
              refine Ad_done (by kernel_rfl) ?_
              refine Aw_cond rfl (fun h157 => ?_) (fun h157 => ?_)
              · skip
                exfalso
                rw [ho3, ho2] at h157
                simp only [decide_eq_false ho1, Bool.not_true, Bool.false_or, BEq.rfl, Bool.and_self, Bool.and_eq_true, decide_eq_true_eq, Bool.not_eq_true'] at h157
                obtain ⟨h3, h4⟩ := h157
                rw [hlt (by omega)] at h4
                cases h4
              · skip
                refine Aw_skip ?_
                refine Aw_region ?_
                refine Al_pu (Pu_move (.inl rfl) (by conv => lhs; whnf)) rfl rfl (by decide) (by kernel_rfl) ?_
                refine Al_pu (Pu_add rfl rfl rfl (fun h1 h2 => by simp only [A.inI, A.maxI] at *; omega)) rfl rfl (by decide) (by kernel_rfl) ?_
                refine Al_pu (Pu_move (.inr rfl) (by conv => lhs; whnf)) rfl rfl (by decide) (by kernel_rfl) ?_
                refine Al_nil ?_
                exact ⟨j + 1, by omega, by omega, Le.ov ⟨Sub.num (by omega), trivial⟩ ⟨Sub.rfl, Sub.rfl, Sub.rfl, Sub.rfl, Sub.rfl, Sub.rfl, trivial⟩ trivial ⟨rfl, rfl, trivial⟩⟩ -- loop 1 next.2
        · (try simp only [decide_eq_true_eq, decide_eq_false_iff_not, Bool.and_eq_true, Bool.or_eq_true, Bool.and_eq_false_iff, Bool.or_eq_false_iff, Bool.not_eq_true', Bool.not_eq_false', beq_iff_eq, Bool.not_eq_eq_eq_not, Bool.not_true, Bool.not_false, List.length_map, Bool.and_true, Bool.and_false, Bool.false_and, Bool.true_and, Bool.or_false, Bool.false_or] at h96)
          refine Aw_exit ?_
          refine Aw_region ?_
          refine Al_pu (Pu_move (.inl rfl) (by conv => lhs; whnf)) rfl rfl (by decide) (by kernel_rfl) ?_
          refine Al_pu (Pu_add rfl rfl rfl (fun h1 h2 => by simp only [A.inI, A.maxI] at *; omega)) rfl rfl (by decide) (by kernel_rfl) ?_
          refine Al_pu (Pu_move (.inr rfl) (by conv => lhs; whnf)) rfl rfl (by decide) (by kernel_rfl) ?_
          refine Al_nil ?_
          exact ⟨(k + 1, rs', cs'), ⟨by omega, hown', hrl'⟩, by simp only []; omega, Le.ov ⟨Sub.num (by omega), trivial⟩ ⟨Sub.rfl, Sub.rfl, Sub.rfl, trivial⟩ ⟨rfl, rfl, trivial⟩ trivial⟩ -- loop 0 next.0
  · (try simp only [decide_eq_true_eq, decide_eq_false_iff_not, Bool.and_eq_true, Bool.or_eq_true, Bool.and_eq_false_iff, Bool.or_eq_false_iff, Bool.not_eq_true', Bool.not_eq_false', beq_iff_eq, Bool.not_eq_eq_eq_not, Bool.not_true, Bool.not_false, List.length_map, Bool.and_true, Bool.and_false, Bool.false_and, Bool.true_and, Bool.or_false, Bool.false_or] at h32)
    refine Aw_exit ?_
    refine Aw_seq ?_
    refine Aw_region ?_
    refine Al_pu (Pu_move (.inl rfl) (by conv => lhs; whnf)) rfl rfl (by decide) (by kernel_rfl) ?_
    refine Al_pu (Pu_move (.inr rfl) (by conv => lhs; whnf)) rfl rfl (by decide) (by kernel_rfl) ?_
    refine Al_nil ?_
    refine Aw_ret ?_
    exact Sub.rfl -- ret 0
end Go.Proofs.Ytkmjiaegbooplaa
