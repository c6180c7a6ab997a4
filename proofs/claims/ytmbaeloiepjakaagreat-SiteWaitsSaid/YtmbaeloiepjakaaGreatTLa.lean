/- Law 17: what its helpers yield; its example. -/
import Derived.Test.YtmbaeloiepjakaaGreatTSt
import Derived.Test.YtmbaeloiepjakaaGreatLDp
set_option linter.unusedSimpArgs false
set_option linter.unusedVariables false
set_option maxRecDepth 100000
namespace Go.Proofs.YtmbaeloiepjakaaGreat
open Go.RowKit A R
open A.RowT
set_option maxRecDepth 100000 in
theorem tword_a (n : Int) : ACall Tryz.prog 22 [iv n] (tv (J.word n)) := by
  refine ACall_enter (fun _ _ => by kernel_rfl) Tryz.func22 rfl Tryz.ntmps22 Tryz.results22 (Nat.le_of_ble_eq_true rfl) (fun hok M0 w0 hnl => ?_)
  have h7 : 0 ≤ J.andI n 7 ∧ J.andI n 7 ≤ 7 := J.andI_le n 7 (by decide)
  refine Aw_seq (Aw_region ?_)
  refine Al_p Pu_mvr ?_
  refine Al_nil (Aw_seq (Aw_region ?_))
  refine Al_p Pu_mvl ?_
  refine Al_p (Pu_int_and (r := J.andI n 7) rfl rfl rfl rfl (fun _ => V.i64_ok _)) ?_
  refine Al_p (Pu_int_mul (r := 3 * J.andI n 7) rfl rfl rfl (J.wrapI64 (by simp only [A.inI]; omega)) (fun _ => by show A.inI _; simp only [A.inI]; omega)) ?_
  refine Al_p (Pu_add rfl rfl rfl (fun h1 h2 => by simp only [A.inI, A.maxI] at *; omega)) ?_
  refine Al_p (Pu_convW (k' := .u8) (r := ((UInt8.ofNat (97 + 3 * J.andI n 7).toNat).toNat : Int)) rfl Tryz.underlying3 Tryz.underlying5 rfl (J.u8_wrap (by omega)) ⟨by omega, by have := (UInt8.ofNat (97 + 3 * J.andI n 7).toNat).toNat_lt; omega⟩) ?_
  refine Al_p (Pu_slice1 rfl Tryz.underlying97 Tryz.sizeOf5 Tryz.zeroValue5 rfl (by decide) (by decide) (by kernel_rfl) rfl rfl rfl) ?_
  refine Al_p (Pu_convBS (bs := [UInt8.ofNat (97 + 3 * J.andI n 7).toNat]) rfl Tryz.underlying97 Tryz.underlying5 Tryz.underlying9 rfl) ?_
  refine Al_p Pu_mvr ?_
  refine Al_nil ?_
  refine Aw_ret ?_
  exact Sub.rfl -- ret 0
set_option maxRecDepth 100000 in
theorem tranges_a (n : Int) : ACall Tryz.prog 12 [iv n] (rngA (J.ranges n)) := by
  refine ACall_enter (fun _ _ => by kernel_rfl) Tryz.func12 rfl Tryz.ntmps12 Tryz.results12 (Nat.le_of_ble_eq_true rfl) (fun hok M0 w0 hnl => ?_)
  have h3 : 0 ≤ J.andI n 3 ∧ J.andI n 3 ≤ 3 := J.andI_le n 3 (by decide)
  refine Aw_seq (Aw_region ?_)
  refine Al_p Pu_mvr ?_
  refine Al_nil (Aw_seq (Aw_seq (Aw_region ?_)))
  refine Al_p Pu_mvl ?_
  refine Al_p (Pu_int_and (r := J.andI n 3) rfl rfl rfl rfl (fun _ => V.i64_ok _)) ?_
  refine Al_nil (Aw_block (Aw_seq (Aw_region ?_)))
  refine Al_p (Pu_cmp rfl rfl rfl rfl) ?_
  refine Al_p Pu_mvr ?_
  refine Al_nil ?_
  refine Aw_cond rfl (fun h5 => ?_) (fun h5 => ?_)
  · (try simp only [decide_eq_true_eq, decide_eq_false_iff_not, Bool.and_eq_true, Bool.or_eq_true, Bool.and_eq_false_iff, Bool.or_eq_false_iff, Bool.not_eq_true', Bool.not_eq_false', beq_iff_eq, Bool.not_eq_eq_eq_not, Bool.not_true, Bool.not_false, List.length_map, Bool.and_true, Bool.and_false, Bool.false_and, Bool.true_and, Bool.or_false, Bool.false_or] at h5)
    refine Aw_seq (Aw_region ?_)
    refine Al_p (Pu_build (aa := []) rfl Tryz.underlying49 Tryz.zeroValue49 (places49 Tryz.underlying49) (by kernel_rfl) trivial rfl) ?_
    refine Al_p (Pu_slice1 rfl Tryz.underlying26 Tryz.sizeOf49 Tryz.zeroValue49 rfl (by decide) (by decide) (by kernel_rfl) rfl rfl rfl) ?_
    refine Al_p Pu_mvr ?_
    refine Al_nil ?_
    refine Aw_ret ?_
    exact Sub.d (by unfold J.ranges; rw [if_pos h5]; rfl) -- ret 0
  · (try simp only [decide_eq_true_eq, decide_eq_false_iff_not, Bool.and_eq_true, Bool.or_eq_true, Bool.and_eq_false_iff, Bool.or_eq_false_iff, Bool.not_eq_true', Bool.not_eq_false', beq_iff_eq, Bool.not_eq_eq_eq_not, Bool.not_true, Bool.not_false, List.length_map, Bool.and_true, Bool.and_false, Bool.false_and, Bool.true_and, Bool.or_false, Bool.false_or] at h5)
    refine Aw_seq (Aw_region ?_)
    refine Al_p (Pu_cmp rfl rfl rfl rfl) ?_
    refine Al_p Pu_mvr ?_
    refine Al_nil ?_
    refine Aw_cond rfl (fun h9 => ?_) (fun h9 => ?_)
    · (try simp only [decide_eq_true_eq, decide_eq_false_iff_not, Bool.and_eq_true, Bool.or_eq_true, Bool.and_eq_false_iff, Bool.or_eq_false_iff, Bool.not_eq_true', Bool.not_eq_false', beq_iff_eq, Bool.not_eq_eq_eq_not, Bool.not_true, Bool.not_false, List.length_map, Bool.and_true, Bool.and_false, Bool.false_and, Bool.true_and, Bool.or_false, Bool.false_or] at h9)
      refine Aw_seq (Aw_region ?_)
      refine Al_p (Pu_build (aa := [(1, _)]) rfl Tryz.underlying49 Tryz.zeroValue49 (places49 Tryz.underlying49) (by kernel_rfl) ⟨rfl, rfl, rfl, trivial⟩ rfl) ?_
      refine Al_p (Pu_slice1 rfl Tryz.underlying26 Tryz.sizeOf49 Tryz.zeroValue49 rfl (by decide) (by decide) (by kernel_rfl) rfl rfl rfl) ?_
      refine Al_p Pu_mvr ?_
      refine Al_nil ?_
      refine Aw_ret ?_
      exact Sub.d (by unfold J.ranges; rw [if_neg h5, if_pos h9]; rfl) -- ret 1
    · (try simp only [decide_eq_true_eq, decide_eq_false_iff_not, Bool.and_eq_true, Bool.or_eq_true, Bool.and_eq_false_iff, Bool.or_eq_false_iff, Bool.not_eq_true', Bool.not_eq_false', beq_iff_eq, Bool.not_eq_eq_eq_not, Bool.not_true, Bool.not_false, List.length_map, Bool.and_true, Bool.and_false, Bool.false_and, Bool.true_and, Bool.or_false, Bool.false_or] at h9)
      refine Aw_seq (Aw_region ?_)
      refine Al_p (Pu_cmp rfl rfl rfl rfl) ?_
      refine Al_p Pu_mvr ?_
      refine Al_nil ?_
      refine Aw_cond rfl (fun h13 => ?_) (fun h13 => ?_)
      · (try simp only [decide_eq_true_eq, decide_eq_false_iff_not, Bool.and_eq_true, Bool.or_eq_true, Bool.and_eq_false_iff, Bool.or_eq_false_iff, Bool.not_eq_true', Bool.not_eq_false', beq_iff_eq, Bool.not_eq_eq_eq_not, Bool.not_true, Bool.not_false, List.length_map, Bool.and_true, Bool.and_false, Bool.false_and, Bool.true_and, Bool.or_false, Bool.false_or] at h13)
        refine Aw_seq (Aw_region ?_)
        refine Al_p (Pu_build (aa := [(0, _), (1, _)]) rfl Tryz.underlying49 Tryz.zeroValue49 (places49 Tryz.underlying49) (by kernel_rfl) ⟨rfl, rfl, rfl, rfl, rfl, rfl, trivial⟩ rfl) ?_
        refine Al_p (Pu_build (aa := [(0, _)]) rfl Tryz.underlying49 Tryz.zeroValue49 (places49 Tryz.underlying49) (by kernel_rfl) ⟨rfl, rfl, rfl, trivial⟩ rfl) ?_
        refine Al_p (Pu_buildSlice (aa := [(0, _), (1, _)]) rfl Tryz.underlying26 Tryz.sizeOf49 Tryz.zeroValue49 rfl (by decide) (by decide) (by decide) (by kernel_rfl) ⟨rfl, rfl, rfl, rfl, rfl, rfl, trivial⟩ ((rfl : _ = some [[tv ⟨#[100]⟩, tv ⟨#[109]⟩], [tv ⟨#[115]⟩, tv ⟨#[]⟩]].flatten)) rfl rfl) ?_
        refine Al_p Pu_mvr ?_
        refine Al_nil ?_
        refine Aw_ret ?_
        exact Sub.d (by unfold J.ranges; rw [if_neg h5, if_neg h9, if_pos h13]; rfl) -- ret 2
      · (try simp only [decide_eq_true_eq, decide_eq_false_iff_not, Bool.and_eq_true, Bool.or_eq_true, Bool.and_eq_false_iff, Bool.or_eq_false_iff, Bool.not_eq_true', Bool.not_eq_false', beq_iff_eq, Bool.not_eq_eq_eq_not, Bool.not_true, Bool.not_false, List.length_map, Bool.and_true, Bool.and_false, Bool.false_and, Bool.true_and, Bool.or_false, Bool.false_or] at h13)
        refine Aw_skip (Aw_seq (Aw_region ?_))
        refine Al_p Pu_mvr ?_
        refine Al_nil ?_
        refine Aw_ret ?_
        exact (show A.Sub _ (.d (rngA (J.ranges n))) from by rw [show J.ranges n = [] from by unfold J.ranges; rw [if_neg h5, if_neg h9, if_neg h13]]; exact Sub.nil) -- ret 3
structure TOp where
  kind : Int
  key : Int
  n : Int
  site : Int
  gone : Bool
  value : ByteArray
  past : List Dep
def TOp.row (o : TOp) : List AV := [iv o.kind, iv o.key, iv o.n, iv o.site, bv o.gone, tv o.value, .sl 3 (o.past.map Dep.row)]
instance : Inhabited TOp := ⟨⟨0, 0, 0, 0, false, ⟨#[]⟩, []⟩⟩
namespace TOp
def pastP (o : TOp) : List Dep := J.adds (o.past.take 5)
def val (o : TOp) : ByteArray := S.short o.value
def ver (o : TOp) : Ver := ⟨J.word o.key, o.val, false, o.n, o.site, o.pastP⟩
theorem past_len (o : TOp) : o.pastP.length ≤ 5 := Nat.le_trans (J.adds_good _).2 (by simp; omega)
theorem past_good (o : TOp) : D.Good o.pastP := (J.adds_good _).1
end TOp
theorem tvalue_a (o : TOp) : ACall Tryz.prog 23 [.row o.row] (tv o.val) := by
  refine ACall_enter (fun _ _ => by kernel_rfl) Tryz.func23 rfl Tryz.ntmps23 Tryz.results23 (Nat.le_of_ble_eq_true rfl) (fun hok M0 w0 hnl => ?_)
  refine Aw_seq (Aw_region ?_)
  refine Al_p (Pu_boxN rfl rfl) ?_
  refine Al_p Pu_mvr ?_
  refine Al_nil (Aw_seq (Aw_seq (Aw_region ?_)))
  refine Al_p (Pu_field 5 rfl Tryz.underlying36 rfl rfl Tryz.sizeOf9 rfl) ?_
  refine Al_p (Pu_load1 rfl Tryz.isAgg9 rfl rfl) ?_
  refine Al_p (Pu_lenS rfl Tryz.underlying9 rfl) ?_
  refine Al_p (Pu_cmp rfl rfl rfl rfl) ?_
  refine Al_nil ?_
  refine Aw_cond rfl (fun h6 => ?_) (fun h6 => ?_)
  · (try simp only [decide_eq_true_eq, decide_eq_false_iff_not, Bool.and_eq_true, Bool.or_eq_true, Bool.and_eq_false_iff, Bool.or_eq_false_iff, Bool.not_eq_true', Bool.not_eq_false', beq_iff_eq, Bool.not_eq_eq_eq_not, Bool.not_true, Bool.not_false, List.length_map, Bool.and_true, Bool.and_false, Bool.false_and, Bool.true_and, Bool.or_false, Bool.false_or] at h6)
    refine Aw_seq (Aw_region ?_)
    refine Al_p (Pu_field 5 rfl Tryz.underlying36 rfl rfl Tryz.sizeOf9 rfl) ?_
    refine Al_p (Pu_load1 rfl Tryz.isAgg9 rfl rfl) ?_
    refine Al_p (Pu_subS (0) (40) rfl Tryz.underlying9 rfl rfl ⟨_, rfl, by omega⟩ ⟨by first | omega | (simp; omega), by first | omega | (simp; omega)⟩) ?_
    refine Al_p Pu_mvr ?_
    refine Al_nil ?_
    refine Aw_ret ?_
    exact Sub.rfl -- ret 0
  · (try simp only [decide_eq_true_eq, decide_eq_false_iff_not, Bool.and_eq_true, Bool.or_eq_true, Bool.and_eq_false_iff, Bool.or_eq_false_iff, Bool.not_eq_true', Bool.not_eq_false', beq_iff_eq, Bool.not_eq_eq_eq_not, Bool.not_true, Bool.not_false, List.length_map, Bool.and_true, Bool.and_false, Bool.false_and, Bool.true_and, Bool.or_false, Bool.false_or] at h6)
    refine Aw_skip (Aw_seq (Aw_region ?_))
    refine Al_p (Pu_field 5 rfl Tryz.underlying36 rfl rfl Tryz.sizeOf9 rfl) ?_
    refine Al_p (Pu_load1 rfl Tryz.isAgg9 rfl rfl) ?_
    refine Al_p Pu_mvr ?_
    refine Al_nil ?_
    refine Aw_ret ?_
    exact Sub.str (ext_self _ _ (by omega)).symm -- ret 1
theorem tpast_a (o : TOp) : ACall Tryz.prog 24 [.row o.row] (.sl 3 (o.pastP.map Dep.row)) := by
  refine ACall_enter (fun _ _ => by kernel_rfl) Tryz.func24 rfl Tryz.ntmps24 Tryz.results24 (Nat.le_of_ble_eq_true rfl) (fun hok M0 w0 hnl => ?_)
  have hpl := ((hok _ (List.mem_cons_self ..)).row (.sl 3 (o.past.map Dep.row)) (by simp [TOp.row])).len
  rw [List.length_map] at hpl
  refine Aw_seq (Aw_region ?_)
  refine Al_p (Pu_boxN rfl rfl) ?_
  refine Al_p Pu_mvr ?_
  refine Al_nil (Aw_seq (Aw_region ?_))
  refine Al_p Pu_mvr ?_
  refine Al_nil (Aw_seq (Aw_seq (Aw_region ?_)))
  refine Al_p Pu_mvr ?_
  refine Al_nil (Aw_block ?_)
  refine Aw_loopk (ι := Nat) [1] [] (fun k => [(4, .d (iv k)), (3, .d (.sl 3 ((J.adds (o.past.take k)).map Dep.row)))]) (fun k => []) (fun k => k ≤ o.past.length ∧ k ≤ 5) (fun k => 5 - k) (0) (⟨Nat.zero_le _, Nat.zero_le _⟩) ⟨Sub.rfl, Sub.nil, trivial⟩ trivial ?_
  rintro k ⟨hk1, hk2⟩
  refine Aw_seq (Aw_seq (Aw_region ?_))
  refine Al_p Pu_mvl ?_
  refine Al_p (Pu_field 6 rfl Tryz.underlying36 rfl rfl Tryz.sizeOf32 rfl) ?_
  refine Al_p (Pu_load1 rfl Tryz.isAgg32 rfl rfl) ?_
  refine Al_p (Pu_len rfl Tryz.underlying32 rfl (by first | exact List.length_map .. | exact rfl)) ?_
  refine Al_p (Pu_cmp rfl rfl rfl rfl) ?_
  refine Al_p Pu_mvl ?_
  refine Al_st (St_gd [] rfl rfl rfl rfl trivial (fun hg12 => by exact Pu_move (.inl rfl) (by conv => lhs; whnf))) rfl (by decide) (by kernel_rfl) (by intro j b oj dj h1 h2 h3; cases h1; cases h2; cases h3; decide) ?_
  refine Al_st (St_gd [12] rfl rfl rfl rfl ⟨⟨_, rfl⟩, trivial⟩ (fun hg13 => Pu_cmp rfl rfl rfl rfl)) rfl (by decide) (by kernel_rfl) (by intro j b oj dj h1 h2 h3; cases h1; cases h2; cases h3; decide) ?_
  refine Al_p (Pu_and rfl rfl rfl rfl) ?_
  refine Al_nil ?_
  refine Aw_cond rfl (fun h14 => ?_) (fun h14 => ?_)
  · (try simp only [decide_eq_true_eq, decide_eq_false_iff_not, Bool.and_eq_true, Bool.or_eq_true, Bool.and_eq_false_iff, Bool.or_eq_false_iff, Bool.not_eq_true', Bool.not_eq_false', beq_iff_eq, Bool.not_eq_eq_eq_not, Bool.not_true, Bool.not_false, List.length_map, Bool.and_true, Bool.and_false, Bool.false_and, Bool.true_and, Bool.or_false, Bool.false_or] at h14)
    obtain ⟨ha, hb⟩ : k < o.past.length ∧ k < 5 := by omega
    have hln := (J.adds_good (o.past.take k)).2
    have hl2 : (o.past.take k).length ≤ 5 := by simp; omega
    have hsn : J.adds (o.past.take (k + 1)) = D.add (J.adds (o.past.take k)) (J.cut12 (o.past.getD k default)) := by
      rw [List.take_succ_eq_append_getElem ha, J.adds_snoc, show o.past.getD k default = o.past[k] from by simp [ha]]
    refine Aw_skip ?_
    -- join 0: live [1, 3, 4], turned [3]
    refine Aw_seq (Aw_block (Aw_seq (Aw_region ?_)))
    refine Al_p (Pu_field 6 rfl Tryz.underlying36 rfl rfl Tryz.sizeOf32 rfl) ?_
    refine Al_p (Pu_load1 rfl Tryz.isAgg32 rfl rfl) ?_
    refine Al_p Pu_mvl ?_
    refine Al_p (Pu_index rfl Tryz.underlying32 Tryz.sizeOf59 rfl rfl (rfl) (mapgetD (d := default) ha)) ?_
    refine Al_p (Pu_loadN rfl Tryz.isAgg59 Tryz.sizeOf59 rfl (Nat.le_of_ble_eq_true rfl)) ?_
    refine Al_alloc rfl rfl rfl (by decide) Tryz.zeroValue59 rfl (by kernel_rfl) (fun g5 => ?_)
    refine Al_storeN rfl rfl rfl (by kernel_rfl) Tryz.isAgg59 Tryz.sizeOf59 rfl rfl rfl rfl (Nat.le_of_ble_eq_true rfl) ?_
    refine Al_nil ?_
    -- join 1: live [1, 3, 4, 5], turned []
    refine Aw_seq (Aw_seq (Aw_region ?_))
    refine Al_p (Pu_fieldb 0 rfl Tryz.underlying59 rfl rfl Tryz.sizeOf9 rfl) ?_
    refine Al_p (Pu_loadb rfl Tryz.isAgg9 rfl rfl rfl) ?_
    refine Al_p (Pu_lenS rfl Tryz.underlying9 rfl) ?_
    refine Al_p (Pu_cmp rfl rfl rfl rfl) ?_
    refine Al_nil ?_
    refine Aw_cond rfl (fun h25 => ?_) (fun h25 => ?_)
    · (try simp only [decide_eq_true_eq, decide_eq_false_iff_not, Bool.and_eq_true, Bool.or_eq_true, Bool.and_eq_false_iff, Bool.or_eq_false_iff, Bool.not_eq_true', Bool.not_eq_false', beq_iff_eq, Bool.not_eq_eq_eq_not, Bool.not_true, Bool.not_false, List.length_map, Bool.and_true, Bool.and_false, Bool.false_and, Bool.true_and, Bool.or_false, Bool.false_or] at h25)
      refine Aw_region ?_
      refine Al_p (Pu_fieldb 0 rfl Tryz.underlying59 rfl rfl Tryz.sizeOf9 rfl) ?_
      refine Al_p (Pu_loadb rfl Tryz.isAgg9 rfl rfl rfl) ?_
      refine Al_p (Pu_subS (0) (12) rfl Tryz.underlying9 rfl rfl ⟨_, rfl, by omega⟩ ⟨by first | omega | (simp; omega), by first | omega | (simp; omega)⟩) ?_
      refine Al_p (Pu_fieldb 0 rfl Tryz.underlying59 rfl rfl Tryz.sizeOf9 rfl) ?_
      refine Al_store1 rfl rfl rfl (by kernel_rfl) Tryz.isAgg9 Tryz.sizeOf9 rfl rfl (Nat.le_of_ble_eq_true rfl) (by conv => lhs; whnf) rfl ?_
      refine Al_nil (Aw_region ?_)
      refine Al_p Pu_mvl ?_
      refine Al_p (Pu_loadbN (r := [_, _, _]) rfl Tryz.isAgg59 Tryz.sizeOf59 rfl rfl rfl rfl) ?_
      refine Al_p (Pu_call (dadd_a (J.adds (o.past.take k)) (J.cut12 (o.past.getD k default)) (by omega)) rfl ⟨Sub.rfl, (by first | exact Sub.rfl | exact Sub.d (by rw [hcut2]; rfl)), trivial⟩) ?_
      refine Al_p Pu_mvr ?_
      refine Al_nil (Aw_region ?_)
      refine Al_p Pu_mvl ?_
      refine Al_p (Pu_add rfl rfl rfl (fun h1 h2 => by simp only [A.inI, A.maxI] at *; omega)) ?_
      refine Al_p Pu_mvr ?_
      refine Al_nil ?_
      exact ⟨k + 1, ⟨by omega, by omega⟩, by omega, Le.ov ⟨Sub.num (by omega), Sub.d (by rw [hsn]), trivial⟩ ⟨Sub.rfl, trivial⟩ trivial trivial⟩ -- loop 0 next.0
    · (try simp only [decide_eq_true_eq, decide_eq_false_iff_not, Bool.and_eq_true, Bool.or_eq_true, Bool.and_eq_false_iff, Bool.or_eq_false_iff, Bool.not_eq_true', Bool.not_eq_false', beq_iff_eq, Bool.not_eq_eq_eq_not, Bool.not_true, Bool.not_false, List.length_map, Bool.and_true, Bool.and_false, Bool.false_and, Bool.true_and, Bool.or_false, Bool.false_or] at h25)
      have hcut : (o.past.getD k default).key.extract 0 12 = (o.past.getD k default).key := ext_self _ _ (by omega)
      have hcut2 : J.cut12 (o.past.getD k default) = o.past.getD k default := by unfold J.cut12; rw [hcut]
      refine Aw_skip (Aw_region ?_)
      refine Al_p Pu_mvl ?_
      refine Al_p (Pu_loadbN (r := [_, _, _]) rfl Tryz.isAgg59 Tryz.sizeOf59 rfl rfl rfl rfl) ?_
      refine Al_p (Pu_call (dadd_a (J.adds (o.past.take k)) (J.cut12 (o.past.getD k default)) (by omega)) rfl ⟨Sub.rfl, (by first | exact Sub.rfl | exact Sub.d (by rw [hcut2]; rfl)), trivial⟩) ?_
      refine Al_p Pu_mvr ?_
      refine Al_nil (Aw_region ?_)
      refine Al_p Pu_mvl ?_
      refine Al_p (Pu_add rfl rfl rfl (fun h1 h2 => by simp only [A.inI, A.maxI] at *; omega)) ?_
      refine Al_p Pu_mvr ?_
      refine Al_nil ?_
      exact ⟨k + 1, ⟨by omega, by omega⟩, by omega, Le.ov ⟨Sub.num (by omega), Sub.d (by rw [hsn]), trivial⟩ ⟨Sub.rfl, trivial⟩ trivial trivial⟩ -- loop 0 next.1
  · (try simp only [decide_eq_true_eq, decide_eq_false_iff_not, Bool.and_eq_true, Bool.or_eq_true, Bool.and_eq_false_iff, Bool.or_eq_false_iff, Bool.not_eq_true', Bool.not_eq_false', beq_iff_eq, Bool.not_eq_eq_eq_not, Bool.not_true, Bool.not_false, List.length_map, Bool.and_true, Bool.and_false, Bool.false_and, Bool.true_and, Bool.or_false, Bool.false_or] at h14)
    have hfin : J.adds (o.past.take k) = o.pastP := by
      unfold TOp.pastP
      rcases Nat.lt_or_ge k 5 with h | h
      · rw [List.take_of_length_le (by omega), List.take_of_length_le (by omega)]
      · rw [show k = 5 by omega]
    refine Aw_exit (Aw_seq (Aw_region ?_))
    refine Al_p Pu_mvl ?_
    refine Al_p Pu_mvr ?_
    refine Al_nil ?_
    refine Aw_ret ?_
    exact Sub.d (by rw [hfin]) -- ret 0
theorem tversion_a (o : TOp) : ACall Tryz.prog 14 [.row o.row] (.row o.ver.row) := by
  refine ACall_enterG (fun _ _ => by kernel_rfl) Tryz.func14 rfl Tryz.ntmps14 (Reads.cN Tryz.results14 Tryz.isAgg34 Tryz.sizeOf34) (Nat.le_of_ble_eq_true rfl) (fun hok M0 w0 hnl => ?_)
  refine Aw_seq (Aw_region ?_)
  refine Al_p (Pu_boxN rfl rfl) ?_
  refine Al_alloc rfl rfl rfl (by decide) Tryz.zeroValue34 rfl (by kernel_rfl) (fun g2 => ?_)
  refine Al_nil (Aw_seq ?_)
  refine Aw_draw 13 (by kernel_rfl) (by kernel_rfl) ?_
  refine Dr_p (Pu_field 1 rfl Tryz.underlying36 rfl rfl Tryz.sizeOf3 rfl) ?_
  refine Dr_p (Pu_load1 rfl Tryz.isAgg3 rfl rfl) ?_
  refine Dr_p (Pu_call (tword_a o.key) rfl ⟨Sub.rfl, trivial⟩) ?_
  refine Dr_p (Pu_loadN rfl Tryz.isAgg36 Tryz.sizeOf36 rfl (Nat.le_of_ble_eq_true rfl)) ?_
  refine Dr_p (Pu_call (tvalue_a o) rfl ⟨Sub.rfl, trivial⟩) ?_
  refine Dr_p (Pu_field 2 rfl Tryz.underlying36 rfl rfl Tryz.sizeOf3 rfl) ?_
  refine Dr_p (Pu_load1 rfl Tryz.isAgg3 rfl rfl) ?_
  refine Dr_p (Pu_field 3 rfl Tryz.underlying36 rfl rfl Tryz.sizeOf3 rfl) ?_
  refine Dr_p (Pu_load1 rfl Tryz.isAgg3 rfl rfl) ?_
  refine Dr_p (Pu_build (aa := [(0, _), (1, _)]) rfl Tryz.underlying31 Tryz.zeroValue31 (places31 Tryz.underlying31) (by kernel_rfl) ⟨rfl, rfl, rfl, rfl, rfl, rfl, trivial⟩ rfl) ?_
  refine Dr_p (Pu_loadN rfl Tryz.isAgg36 Tryz.sizeOf36 rfl (Nat.le_of_ble_eq_true rfl)) ?_
  refine Dr_p (Pu_call (tpast_a o) rfl ⟨Sub.rfl, trivial⟩) ?_
  refine Dr_p (Pu_build (aa := [(0, _), (1, _), (3, _), (4, _)]) rfl Tryz.underlying34 Tryz.zeroValue34 (places34 Tryz.underlying34) (by kernel_rfl) ⟨rfl, rfl, rfl, rfl, rfl, rfl, rfl, rfl, rfl, rfl, rfl, rfl, trivial⟩ rfl) ?_
  refine Dr_nil ?_
  refine Al_storeN rfl rfl rfl (by kernel_rfl) Tryz.isAgg34 Tryz.sizeOf34 rfl rfl rfl rfl (Nat.le_of_ble_eq_true rfl) ?_
  refine Al_nil ?_
  refine Aw_ret ?_
  exact ⟨_, _, _, _, _, [_, _, _, _, _, _], rfl, rfl, rfl, rfl, rfl⟩ -- ret 0
namespace TOp
def exV : Ver := ⟨⟨#[98]⟩, ⟨#[]⟩, false, 2, 1, [⟨⟨#[97]⟩, 9, 0⟩]⟩
def ex0 : PS := PS.zero 0 [⟨⟨#[]⟩, ⟨#[]⟩⟩]
def ex1 : PS := ex0.write ⟨#[97]⟩ ⟨#[120]⟩ false []
def ex2 : PS := ex1.arrive exV
theorem e1 : ex0.writeE ⟨#[97]⟩ ⟨#[120]⟩ false [] = 0 ∧ (ex0.writeV ⟨#[97]⟩ ⟨#[120]⟩ false []).n = 1 ∧ (ex0.writeV ⟨#[97]⟩ ⟨#[120]⟩ false []).s = 0 := by decide +kernel
theorem e2 : ex1.arriveE exV = 0 := by decide +kernel
theorem e3 : ex2.stepV.isSome = false ∧ ex2.step.wait.length = 1 := by decide +kernel
end TOp
set_option maxHeartbeats 1000000 in
theorem tawake_a : ACall Tryz.prog 10 [] (bv true) := by
  refine ACall_enter (fun _ _ => by kernel_rfl) Tryz.func10 rfl Tryz.ntmps10 Tryz.results10 (Nat.le_of_ble_eq_true rfl) (fun hok M0 w0 hnl => ?_)
  have h0 : TOp.ex0.Ok 0 := PS.Ok.zero (by decide) (by decide)
  have h1 : TOp.ex1.Ok 1 := h0.write _ _ _ _
  have h2 : TOp.ex2.Ok 1 := h1.arrive _
  obtain ⟨f1, f2, f3⟩ := TOp.e1
  have f4 := TOp.e2
  obtain ⟨f5, f6⟩ := TOp.e3
  refine Aw_seq (Aw_region ?_)
  refine Al_p Pu_mvr ?_
  refine Al_nil (Aw_seq (Aw_region ?_))
  refine Al_p (Pu_build (aa := []) rfl Tryz.underlying49 Tryz.zeroValue49 (places49 Tryz.underlying49) (by kernel_rfl) trivial rfl) ?_
  refine Al_p (Pu_slice1 rfl Tryz.underlying26 Tryz.sizeOf49 Tryz.zeroValue49 rfl (by decide) (by decide) (by kernel_rfl) rfl rfl rfl) ?_
  refine Al_gcallE [] [(1001, 10), (1002, 100), (1003, 101)] (stNew_g 0 (by decide) [⟨⟨#[]⟩, ⟨#[]⟩⟩] (by decide)) rfl rfl rfl (by decide) (by kernel_rfl) trivial (fun _ => rfl) rfl rfl ⟨Sub.rfl, Sub.rfl, trivial⟩ ?_
  rintro b g10
  refine Al_p Pu_mvr ?_
  refine Al_nil (Aw_seq (Aw_seq (Aw_region ?_)))
  refine Al_p Pu_mvl ?_
  refine Al_p (Pu_eqnilb Tryz.underlying24 rfl rfl) ?_
  refine Al_nil ?_
  refine Aw_condF rfl (rfl) ?_
  refine Aw_skip (Aw_seq (Aw_region ?_))
  refine Al_p Pu_mvl ?_
  refine Al_gcall [(1001, 10, g10), (1002, 100, g10), (1003, 101, g10)] [] (stWrite_g TOp.ex0 b ⟨#[97]⟩ ⟨#[120]⟩ false [] (by decide) h0 (by decide)) rfl rfl rfl (by decide) (by kernel_rfl) ⟨rfl, rfl, rfl, trivial⟩ rfl ⟨Sub.rfl, Sub.rfl, Sub.rfl, Sub.rfl, Sub.nil, trivial⟩ (fun g15 => ?_)
  refine Al_p Pu_mvl ?_
  refine Al_p (Pu_extract rfl rfl rfl) ?_
  refine Al_p (Pu_extract rfl rfl rfl) ?_
  refine Al_alloc rfl rfl rfl (by decide) Tryz.zeroValue34 rfl (by kernel_rfl) (fun g2 => ?_)
  refine Al_storeN rfl rfl rfl (by kernel_rfl) Tryz.isAgg34 Tryz.sizeOf34 rfl rfl rfl rfl (Nat.le_of_ble_eq_true rfl) ?_
  refine Al_p Pu_mvr ?_
  refine Al_nil (Aw_seq (Aw_region ?_))
  refine Al_p Pu_mvl ?_
  refine Al_p (Pu_build (aa := [(0, _), (1, _)]) rfl Tryz.underlying31 Tryz.zeroValue31 (places31 Tryz.underlying31) (by kernel_rfl) ⟨rfl, rfl, rfl, rfl, rfl, rfl, trivial⟩ rfl) ?_
  refine Al_p (Pu_build (aa := [(0, _)]) rfl Tryz.underlying31 Tryz.zeroValue31 (places31 Tryz.underlying31) (by kernel_rfl) ⟨rfl, rfl, rfl, trivial⟩ rfl) ?_
  refine Al_p (Pu_build (aa := [(0, _), (1, _)]) rfl Tryz.underlying59 Tryz.zeroValue59 (places59 Tryz.underlying59) (by kernel_rfl) ⟨rfl, rfl, rfl, rfl, rfl, rfl, trivial⟩ rfl) ?_
  refine Al_p (Pu_slice1 rfl Tryz.underlying32 Tryz.sizeOf59 Tryz.zeroValue59 rfl (by decide) (by decide) (by kernel_rfl) rfl rfl rfl) ?_
  refine Al_p (Pu_build (aa := [(0, _), (3, _), (4, _)]) rfl Tryz.underlying34 Tryz.zeroValue34 (places34 Tryz.underlying34) (by kernel_rfl) ⟨rfl, rfl, rfl, rfl, rfl, rfl, rfl, rfl, rfl, trivial⟩ rfl) ?_
  refine Al_gcall [(1001, 10, g10), (1002, 100, g10), (1003, 101, g10)] [] (stArrive_g TOp.ex1 b TOp.exV h1 (by decide)) rfl rfl rfl (by decide) (by kernel_rfl) ⟨rfl, rfl, rfl, trivial⟩ rfl ⟨Sub.rfl, Sub.rfl, trivial⟩ (fun g24 => ?_)
  refine Al_p Pu_mvr ?_
  refine Al_nil (Aw_seq (Aw_region ?_))
  refine Al_p Pu_mvl ?_
  refine Al_gcall [(1001, 10, g10), (1002, 100, g10), (1003, 101, g10)] [] (stStep_g TOp.ex2 b h2 (by decide)) rfl rfl rfl (by decide) (by kernel_rfl) ⟨rfl, rfl, rfl, trivial⟩ rfl ⟨Sub.rfl, trivial⟩ (fun g27 => ?_)
  refine Al_p Pu_mvl ?_
  refine Al_p (Pu_extract rfl rfl rfl) ?_
  refine Al_p (Pu_extract rfl rfl rfl) ?_
  refine Al_alloc rfl rfl rfl (by decide) Tryz.zeroValue34 rfl (by kernel_rfl) (fun g5 => ?_)
  refine Al_storeN rfl rfl rfl (by kernel_rfl) Tryz.isAgg34 Tryz.sizeOf34 rfl rfl rfl rfl (Nat.le_of_ble_eq_true rfl) ?_
  refine Al_p Pu_mvr ?_
  refine Al_nil (Aw_seq (Aw_region ?_))
  refine Al_p (Pu_build (aa := [(0, _)]) rfl Tryz.underlying31 Tryz.zeroValue31 (places31 Tryz.underlying31) (by kernel_rfl) ⟨rfl, rfl, rfl, trivial⟩ rfl) ?_
  refine Al_alloc rfl rfl rfl (by decide) Tryz.zeroValue31 rfl (by kernel_rfl) (fun g7 => ?_)
  refine Al_storeN rfl rfl rfl (by kernel_rfl) Tryz.isAgg31 Tryz.sizeOf31 rfl rfl rfl rfl (Nat.le_of_ble_eq_true rfl) ?_
  refine Al_nil (Aw_seq (Aw_region ?_))
  refine Al_p Pu_mvl ?_
  refine Al_p (Pu_cmp rfl rfl rfl rfl) ?_
  refine Al_p Pu_mvl ?_
  refine Al_st (St_gd [] rfl rfl rfl rfl trivial (fun hg34 => Pu_fieldb 3 rfl Tryz.underlying34 rfl rfl Tryz.sizeOf31 rfl)) rfl (by decide) (by kernel_rfl) (by intro j b oj dj h1 h2 h3; cases h1; cases h2; cases h3; decide) ?_
  refine Al_st (St_gd [34] rfl rfl rfl rfl ⟨⟨_, rfl⟩, trivial⟩ (fun hg35 => Pu_loadbN (r := [_, _]) rfl Tryz.isAgg31 Tryz.sizeOf31 rfl rfl rfl rfl)) rfl (by decide) (by kernel_rfl) (by intro j b oj dj h1 h2 h3; cases h1; cases h2; cases h3; decide) ?_
  refine Al_st (St_gd [] rfl rfl rfl rfl trivial (fun hg36 => Pu_loadbN (r := [_, _]) rfl Tryz.isAgg31 Tryz.sizeOf31 rfl rfl rfl rfl)) rfl (by decide) (by kernel_rfl) (by intro j b oj dj h1 h2 h3; cases h1; cases h2; cases h3; decide) ?_
  refine Al_st (St_gd [35, 36] rfl rfl rfl rfl ⟨⟨_, rfl⟩, ⟨_, rfl⟩, trivial⟩ (fun hg37 => Pu_eqrow [.int .i64 _, .int .i64 _] [.int .i64 _, .int .i64 _] (fun w => eqv31 _ _ _ _ _ _ w) rfl rfl rfl)) rfl (by decide) (by kernel_rfl) (by intro j b oj dj h1 h2 h3; cases h1; cases h2; cases h3; decide) ?_
  refine Al_p (Pu_and rfl rfl rfl rfl) ?_
  refine Al_p Pu_mvl ?_
  refine Al_st (St_gd [] rfl rfl rfl rfl trivial (fun hg40 => by exact Pu_move (.inl rfl) (by conv => lhs; whnf))) rfl (by decide) (by kernel_rfl) (by intro j b oj dj h1 h2 h3; cases h1; cases h2; cases h3; decide) ?_
  refine Al_st (St_gd [40] rfl rfl rfl rfl ⟨⟨_, rfl⟩, trivial⟩ (fun hg41 => Pu_cmp rfl rfl rfl rfl)) rfl (by decide) (by kernel_rfl) (by intro j b oj dj h1 h2 h3; cases h1; cases h2; cases h3; decide) ?_
  refine Al_p (Pu_and rfl rfl rfl rfl) ?_
  refine Al_p Pu_mvl ?_
  refine Al_st (St_gd [] rfl rfl rfl rfl trivial (fun hg44 => by exact Pu_move (.inl rfl) (by conv => lhs; whnf))) rfl (by decide) (by kernel_rfl) (by intro j b oj dj h1 h2 h3; cases h1; cases h2; cases h3; decide) ?_
  refine Al_st (St_gd [44] rfl rfl rfl rfl ⟨⟨_, rfl⟩, trivial⟩ (fun hg45 => Pu_not rfl rfl)) rfl (by decide) (by kernel_rfl) (by intro j b oj dj h1 h2 h3; cases h1; cases h2; cases h3; decide) ?_
  refine Al_p (Pu_and rfl rfl rfl rfl) ?_
  refine Al_p Pu_mvl ?_
  refine Al_st (St_gd [] rfl rfl rfl rfl trivial (fun hg48 => by exact Pu_move (.inl rfl) (by conv => lhs; whnf))) rfl (by decide) (by kernel_rfl) (by intro j b oj dj h1 h2 h3; cases h1; cases h2; cases h3; decide) ?_
  refine Al_st (St_gd [48] rfl rfl rfl rfl ⟨⟨_, rfl⟩, trivial⟩ (fun hg49 => Pu_gcall [(1001, 10, g10), (1002, 100, g10), (1003, 101, g10)] (stWaiting_g TOp.ex2.step b) (ST_in ..) rfl ⟨rfl, rfl, rfl, trivial⟩ rfl ⟨Sub.rfl, trivial⟩)) rfl (by decide) (by kernel_rfl) (by intro j b oj dj h1 h2 h3; cases h1; cases h2; cases h3; decide) ?_
  refine Al_st (St_gd [49] rfl rfl rfl rfl ⟨⟨_, rfl⟩, trivial⟩ (fun hg50 => Pu_cmp rfl rfl rfl rfl)) rfl (by decide) (by kernel_rfl) (by intro j b oj dj h1 h2 h3; cases h1; cases h2; cases h3; decide) ?_
  refine Al_p (Pu_and rfl rfl rfl rfl) ?_
  refine Al_p Pu_mvr ?_
  refine Al_nil ?_
  refine Aw_ret ?_
  exact Sub.bool (by rw [f1, f2, f3, f4, f5, f6]; rfl) -- ret 0
end Go.Proofs.YtmbaeloiepjakaaGreat
