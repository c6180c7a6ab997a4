/- SiteOther: of keys that it does not own a site keeps nothing; no condition. -/
import Derived.Test.YtmbaeloiepjakaaGreatB4
set_option linter.unusedSimpArgs false
set_option linter.unusedVariables false
set_option linter.constructorNameAsVariable false

section
set_option maxRecDepth 100000
namespace Go.Proofs.YtmbaeloiepjakaaGreat
open Go.RowKit A R
open A.RowT
namespace J
/-- Has one of the first so many ranges a key? -/
def mineK (own : List Rng) (key : ByteArray) (k : Nat) : Bool := (own.take k).any fun r => !Op.bytesLess key.toList r.f.toList && ((r.t.toList == (⟨#[]⟩ : ByteArray).toList) || Op.bytesLess key.toList r.t.toList)
theorem mineK_succ (own : List Rng) (key : ByteArray) {k : Nat} (hk : k < own.length) : mineK own key (k + 1) = (mineK own key k || (!Op.bytesLess key.toList own[k].f.toList && ((own[k].t.toList == (⟨#[]⟩ : ByteArray).toList) || Op.bytesLess key.toList own[k].t.toList))) := by
  unfold mineK
  rw [List.take_succ_eq_append_getElem hk, List.any_append]
  simp
theorem e0 : (⟨#[]⟩ : ByteArray).toList = [] := by rw [ByteArray.toList_eq]
theorem mine_has (r : Rng) (key : ByteArray) : (!Op.bytesLess key.toList r.f.toList && ((r.t.toList == (⟨#[]⟩ : ByteArray).toList) || Op.bytesLess key.toList r.t.toList)) = K.hasB r.f r.t key := by
  unfold K.hasB
  rw [e0]
  congr 2
  cases r.t.toList <;> rfl
theorem findR_neg (own : List Rng) (key : ByteArray) : (findR own key < 0) ↔ mineK own key own.length = false := by
  unfold mineK
  rw [List.take_length, List.any_eq_false]
  unfold findR idxF
  constructor
  · intro h r hr
    split at h
    · omega
    · rename_i hn
      rw [List.findIdx?_eq_none_iff] at hn
      rw [mine_has, hn r hr]; decide
  · intro h
    split
    · rename_i i hi
      exfalso
      obtain ⟨hlt, hp, _⟩ := List.findIdx?_eq_some_iff_getElem.1 hi
      have := h _ (List.getElem_mem hlt)
      rw [mine_has] at this
      exact this hp
    · omega
end J
namespace TOp
def whichI (z : Int) : Int := Int.tmod (Int.tmod z 3 + 3) 3
theorem which_le (z : Int) : 0 ≤ whichI z ∧ whichI z ≤ 2 := by
  unfold whichI
  have h0 : -3 < Int.tmod z 3 := Int.lt_tmod_of_pos _ (by decide)
  have h1 : 0 ≤ Int.tmod z 3 + 3 := by omega
  have h2 : Int.tmod (Int.tmod z 3 + 3) 3 < 3 := Int.tmod_lt_of_pos _ (by decide)
  exact ⟨Int.tmod_nonneg _ h1, by omega⟩
theorem zero_oth {v : Ver} {k : Int} {rs : List Rng} (h : findR rs v.key < 0) (hc : J.checkB v = true) : (PS.zero k rs).arrive v = ⟨k, [], v.n, v.s, rs, []⟩ := by
  have h1 : (PS.zero k rs).arriveE v = 0 := by rw [zero_arr, if_neg (by rw [hc]; decide)]
  unfold PS.arrive
  rw [if_pos h1, if_pos (show findR (PS.zero k rs).rs v.key < 0 from h)]
  unfold PS.clockP
  rw [show mx ((PS.zero k rs).n, (PS.zero k rs).s) (v.n, v.s) = (v.n, v.s) from J.mx_zero (J.check_stamp hc).1]
  rfl
theorem arrive_rs (p : PS) (v : Ver) : (p.arrive v).rs = p.rs := by
  unfold PS.arrive
  split
  · split <;> rfl
  · rfl
end TOp
set_option maxHeartbeats 1000000 in
theorem siteother_law (o : TOp) (z : Int) : ACall Tryz.prog 5 [.row o.row, iv z] (bv true) := by
  refine ACall_enter (fun _ _ => by kernel_rfl) Tryz.func5 rfl Tryz.ntmps5 Tryz.results5 (Nat.le_of_ble_eq_true rfl) (fun hok M0 w0 hnl => ?_)
  have hw := TOp.which_le z
  have hw0 : -3 < Int.tmod z 3 := Int.lt_tmod_of_pos _ (by decide)
  have hw1 : Int.tmod z 3 < 3 := Int.tmod_lt_of_pos _ (by decide)
  have hw2 : Int.tmod (Int.tmod z 3 + 3) 3 = TOp.whichI z := rfl
  obtain ⟨own, hown⟩ : ∃ own, own = J.ranges (1 + TOp.whichI z) := ⟨_, rfl⟩
  have hrg := tranges_a (1 + TOp.whichI z)
  rw [← hown] at hrg
  have hr2 : own.length ≤ 2 := by rw [hown]; exact J.ranges_len _
  have hr0 : own.length ≤ 1000000 := by omega
  have hz : (PS.zero 2 own).Ok 0 := PS.Ok.zero (by decide) hr0
  have hok1 := hz.arrive o.ver
  have hrs := TOp.arrive_rs (PS.zero 2 own) o.ver
  have hneg := J.findR_neg own o.ver.key
  refine Aw_seq (Aw_region ?_)
  refine Al_p (Pu_boxN rfl rfl) ?_
  refine Al_p Pu_mvr ?_
  refine Al_nil (Aw_seq (Aw_region ?_))
  refine Al_p (Pu_call (tawake_a) rfl trivial) ?_
  refine Al_p Pu_mvr ?_
  refine Al_nil (Aw_seq (Aw_region ?_))
  refine Al_p Pu_mvl ?_
  refine Al_p (Pu_rem rfl rfl rfl (by omega) rfl) ?_
  refine Al_p (Pu_add rfl rfl rfl (fun h1 h2 => by simp only [A.inI, A.maxI] at *; omega)) ?_
  refine Al_p (Pu_rem rfl rfl rfl (by omega) rfl) ?_
  refine Al_p (Pu_add rfl rfl rfl (fun h1 h2 => by simp only [A.inI, A.maxI] at *; omega)) ?_
  refine Al_p (Pu_call (hrg) rfl ⟨Sub.rfl, trivial⟩) ?_
  refine Al_p Pu_mvr ?_
  refine Al_nil (Aw_seq (Aw_region ?_))
  refine Al_p Pu_mvl ?_
  refine Al_gcallE [] [(1001, 25), (1002, 250), (1003, 251)] (stNew_g 2 (by decide) own hr0) rfl rfl rfl (by decide) (by kernel_rfl) trivial (fun _ => rfl) rfl rfl ⟨Sub.rfl, Sub.rfl, trivial⟩ ?_
  rintro b g25
  refine Al_p Pu_mvr ?_
  refine Al_nil (Aw_seq (Aw_seq (Aw_region ?_)))
  refine Al_p Pu_mvl ?_
  refine Al_p (Pu_eqnilb Tryz.underlying24 rfl rfl) ?_
  refine Al_nil ?_
  refine Aw_condF rfl (rfl) ?_
  refine Aw_skip (Aw_seq (Aw_region ?_))
  refine Al_p (Pu_loadN rfl Tryz.isAgg36 Tryz.sizeOf36 rfl (Nat.le_of_ble_eq_true rfl)) ?_
  refine Al_p (Pu_call (tversion_a o) rfl ⟨Sub.rfl, trivial⟩) ?_
  refine Al_alloc rfl rfl rfl (by decide) Tryz.zeroValue34 rfl (by kernel_rfl) (fun g8 => ?_)
  refine Al_storeN rfl rfl rfl (by kernel_rfl) Tryz.isAgg34 Tryz.sizeOf34 rfl rfl rfl rfl (Nat.le_of_ble_eq_true rfl) ?_
  refine Al_nil (Aw_seq (Aw_region ?_))
  refine Al_p Pu_mvr ?_
  refine Al_nil (Aw_seq (Aw_seq (Aw_region ?_)))
  refine Al_p Pu_mvr ?_
  refine Al_nil (Aw_block ?_)
  refine Aw_loopk (ι := Nat) [5, 6, 7, 8] [25, 250, 251, 8] (fun k => [(10, .d (iv k)), (9, .d (bv (J.mineK own o.ver.key k)))]) (fun k => []) (fun k => k ≤ own.length) (fun k => own.length - k) (0) (Nat.zero_le _) ⟨Sub.rfl, Sub.rfl, trivial⟩ trivial ?_
  rintro k hk0
  refine Aw_seq (Aw_seq (Aw_region ?_))
  refine Al_p Pu_mvl ?_
  refine Al_p Pu_mvl ?_
  refine Al_p (Pu_len rfl Tryz.underlying26 rfl (by first | exact List.length_map .. | exact rfl)) ?_
  refine Al_p (Pu_cmp rfl rfl rfl rfl) ?_
  refine Al_nil ?_
  refine Aw_cond rfl (fun h33 => ?_) (fun h33 => ?_)
  · (try simp only [decide_eq_true_eq, decide_eq_false_iff_not, Bool.and_eq_true, Bool.or_eq_true, Bool.and_eq_false_iff, Bool.or_eq_false_iff, Bool.not_eq_true', Bool.not_eq_false', beq_iff_eq, Bool.not_eq_eq_eq_not, Bool.not_true, Bool.not_false, List.length_map, Bool.and_true, Bool.and_false, Bool.false_and, Bool.true_and, Bool.or_false, Bool.false_or] at h33)
    have hk : k < own.length := by omega
    have hsc := J.mineK_succ own o.ver.key hk
    refine Aw_skip (Aw_seq (Aw_block ?_))
    refine Aw_draw 29 (by kernel_rfl) (by kernel_rfl) ?_
    refine Dr_p Pu_mvl ?_
    refine Dr_p Pu_mvl ?_
    refine Dr_st (St_gd [] rfl rfl rfl rfl trivial (fun hg38 => Pu_fieldb 0 rfl Tryz.underlying34 rfl rfl Tryz.sizeOf9 rfl)) rfl ?_
    refine Dr_st (St_gd [38] rfl rfl rfl rfl ⟨⟨_, rfl⟩, trivial⟩ (fun hg39 => Pu_loadb rfl Tryz.isAgg9 rfl rfl rfl)) rfl ?_
    refine Dr_st (St_gd [] rfl rfl rfl rfl trivial (fun hg40 => by exact Pu_move (.inl rfl) (by conv => lhs; whnf))) rfl ?_
    refine Dr_st (St_gd [] rfl rfl rfl rfl trivial (fun hg41 => by exact Pu_move (.inl rfl) (by conv => lhs; whnf))) rfl ?_
    refine Dr_st (St_gd [40, 41] rfl rfl rfl rfl ⟨⟨_, rfl⟩, ⟨_, rfl⟩, trivial⟩ (fun hg42 => Pu_index rfl Tryz.underlying26 Tryz.sizeOf49 rfl rfl (rfl) (mapget hk))) rfl ?_
    refine Dr_st (St_gd [42] rfl rfl rfl rfl ⟨⟨_, rfl⟩, trivial⟩ (fun hg43 => Pu_field 0 rfl Tryz.underlying49 rfl rfl Tryz.sizeOf9 rfl)) rfl ?_
    refine Dr_st (St_gd [43] rfl rfl rfl rfl ⟨⟨_, rfl⟩, trivial⟩ (fun hg44 => Pu_load1 rfl Tryz.isAgg9 rfl rfl)) rfl ?_
    refine Dr_st (St_gd [39, 44] rfl rfl rfl rfl ⟨⟨_, rfl⟩, ⟨_, rfl⟩, trivial⟩ (fun hg45 => Pu_str rfl rfl rfl rfl)) rfl ?_
    refine Dr_st (St_gd [45] rfl rfl rfl rfl ⟨⟨_, rfl⟩, trivial⟩ (fun hg46 => by exact Pu_move (.inl rfl) (by conv => lhs; whnf))) rfl ?_
    refine Dr_st (St_gd2 [] rfl rfl rfl rfl trivial (fun hp47 hg47 => by exact Pu_move (.inl rfl) (by conv => lhs; whnf))) rfl ?_
    refine Dr_st (St_gd2 [] rfl rfl rfl rfl trivial (fun hp48 hg48 => by exact Pu_move (.inl rfl) (by conv => lhs; whnf))) rfl ?_
    refine Dr_st (St_gd2 [47, 48] rfl rfl rfl rfl ⟨⟨_, rfl⟩, ⟨_, rfl⟩, trivial⟩ (fun hp49 hg49 => Pu_index rfl Tryz.underlying26 Tryz.sizeOf49 rfl rfl (rfl) (mapget hk))) rfl ?_
    refine Dr_st (St_gd2 [49] rfl rfl rfl rfl ⟨⟨_, rfl⟩, trivial⟩ (fun hp50 hg50 => Pu_field 1 rfl Tryz.underlying49 rfl rfl Tryz.sizeOf9 rfl)) rfl ?_
    refine Dr_st (St_gd2 [50] rfl rfl rfl rfl ⟨⟨_, rfl⟩, trivial⟩ (fun hp51 hg51 => Pu_load1 rfl Tryz.isAgg9 rfl rfl)) rfl ?_
    refine Dr_st (St_gd2 [51] rfl rfl rfl rfl ⟨⟨_, rfl⟩, trivial⟩ (fun hp52 hg52 => Pu_str rfl rfl rfl rfl)) rfl ?_
    refine Dr_st (St_gd2 [52] rfl rfl rfl rfl ⟨⟨_, rfl⟩, trivial⟩ (fun hp53 hg53 => by exact Pu_move (.inl rfl) (by conv => lhs; whnf))) rfl ?_
    refine Dr_st (St_gd2 [] rfl rfl rfl rfl trivial (fun hp54 hg54 => Pu_fieldb 0 rfl Tryz.underlying34 rfl rfl Tryz.sizeOf9 rfl)) rfl ?_
    refine Dr_st (St_gd2 [54] rfl rfl rfl rfl ⟨⟨_, rfl⟩, trivial⟩ (fun hp55 hg55 => Pu_loadb rfl Tryz.isAgg9 rfl rfl rfl)) rfl ?_
    refine Dr_st (St_gd2 [] rfl rfl rfl rfl trivial (fun hp56 hg56 => by exact Pu_move (.inl rfl) (by conv => lhs; whnf))) rfl ?_
    refine Dr_st (St_gd2 [] rfl rfl rfl rfl trivial (fun hp57 hg57 => by exact Pu_move (.inl rfl) (by conv => lhs; whnf))) rfl ?_
    refine Dr_st (St_gd2 [56, 57] rfl rfl rfl rfl ⟨⟨_, rfl⟩, ⟨_, rfl⟩, trivial⟩ (fun hp58 hg58 => Pu_index rfl Tryz.underlying26 Tryz.sizeOf49 rfl rfl (rfl) (mapget hk))) rfl ?_
    refine Dr_st (St_gd2 [58] rfl rfl rfl rfl ⟨⟨_, rfl⟩, trivial⟩ (fun hp59 hg59 => Pu_field 1 rfl Tryz.underlying49 rfl rfl Tryz.sizeOf9 rfl)) rfl ?_
    refine Dr_st (St_gd2 [59] rfl rfl rfl rfl ⟨⟨_, rfl⟩, trivial⟩ (fun hp60 hg60 => Pu_load1 rfl Tryz.isAgg9 rfl rfl)) rfl ?_
    refine Dr_st (St_gd2 [55, 60] rfl rfl rfl rfl ⟨⟨_, rfl⟩, ⟨_, rfl⟩, trivial⟩ (fun hp61 hg61 => Pu_str rfl rfl rfl rfl)) rfl ?_
    refine Dr_st (St_gd2 [53] rfl rfl rfl rfl ⟨⟨_, rfl⟩, trivial⟩ (fun hp62 hg62 => Pu_orG rfl rfl rfl (fun h => ⟨⟨hp62, hg62⟩, h⟩) rfl)) rfl ?_
    refine Dr_st (St_gd [46] rfl rfl rfl rfl ⟨⟨_, rfl⟩, trivial⟩ (fun hg63 => Pu_andG rfl rfl (fun h => ⟨hg63, h⟩) rfl rfl)) rfl ?_
    refine Dr_p (Pu_or rfl rfl rfl rfl) ?_
    refine Dr_nil ?_
    refine Al_p Pu_mvr ?_
    refine Al_nil (Aw_region ?_)
    refine Al_p Pu_mvl ?_
    refine Al_p (Pu_add rfl rfl rfl (fun h1 h2 => by simp only [A.inI, A.maxI] at *; omega)) ?_
    refine Al_p Pu_mvr ?_
    refine Al_nil ?_
    exact ⟨k + 1, by omega, by omega, Le.ov ⟨Sub.num (by omega), Sub.bool hsc.symm, trivial⟩ ⟨Sub.rfl, Sub.rfl, Sub.rfl, Sub.rfl, trivial⟩ trivial ⟨rfl, rfl, rfl, rfl, trivial⟩⟩ -- loop 0 next.0
  · (try simp only [decide_eq_true_eq, decide_eq_false_iff_not, Bool.and_eq_true, Bool.or_eq_true, Bool.and_eq_false_iff, Bool.or_eq_false_iff, Bool.not_eq_true', Bool.not_eq_false', beq_iff_eq, Bool.not_eq_eq_eq_not, Bool.not_true, Bool.not_false, List.length_map, Bool.and_true, Bool.and_false, Bool.false_and, Bool.true_and, Bool.or_false, Bool.false_or] at h33)
    have hkk : k = own.length := by omega
    rw [hkk]
    obtain ⟨mine, hm⟩ : ∃ mine, mine = J.mineK own o.ver.key own.length := ⟨_, rfl⟩
    rw [← hm] at hneg
    rw [← hm]
    obtain ⟨q, hq⟩ : ∃ q, q = (PS.zero 2 own).arrive o.ver := ⟨_, rfl⟩
    rw [← hq] at hok1 hrs
    have hzr : (PS.zero 2 own).rs = own := rfl
    rw [hzr] at hrs
    refine Aw_exit (Aw_seq (Aw_region ?_))
    refine Al_p Pu_mvl ?_
    refine Al_p (Pu_loadbN (r := [_, _, _, _, _, _]) rfl Tryz.isAgg34 Tryz.sizeOf34 rfl rfl rfl rfl) ?_
    refine Al_gcall [(1001, 25, g25), (1002, 250, g25), (1003, 251, g25)] [] (stArrive_g (PS.zero 2 own) b o.ver hz (by decide)) rfl rfl rfl (by decide) (by kernel_rfl) ⟨rfl, rfl, rfl, trivial⟩ rfl ⟨Sub.rfl, Sub.rfl, trivial⟩ (fun g67 => ?_)
    refine Al_p Pu_mvr ?_
    refine Al_nil (Aw_seq ?_)
    rw [← hq, TOp.zero_arr]
    refine Aw_region ?_
    refine Al_p Pu_mvl ?_
    refine Al_p (Pu_fieldb 0 rfl Tryz.underlying34 rfl rfl Tryz.sizeOf9 rfl) ?_
    refine Al_p (Pu_loadb rfl Tryz.isAgg9 rfl rfl rfl) ?_
    refine Al_gcall [(1001, 25, g25), (1002, 250, g25), (1003, 251, g25)] [] (stWrite_g q b o.ver.key ⟨#[120]⟩ false [] (by decide) hok1 (by decide)) rfl rfl rfl (by decide) (by kernel_rfl) ⟨rfl, rfl, rfl, trivial⟩ rfl ⟨Sub.rfl, Sub.rfl, Sub.rfl, Sub.rfl, Sub.nil, trivial⟩ (fun g72 => ?_)
    refine Al_p Pu_mvl ?_
    refine Al_p (Pu_extract rfl rfl rfl) ?_
    refine Al_p (Pu_extract rfl rfl rfl) ?_
    refine Al_alloc rfl rfl rfl (by decide) Tryz.zeroValue34 rfl (by kernel_rfl) (fun g12 => ?_)
    refine Al_storeN rfl rfl rfl (by kernel_rfl) Tryz.isAgg34 Tryz.sizeOf34 rfl rfl rfl rfl (Nat.le_of_ble_eq_true rfl) ?_
    refine Al_p Pu_mvr ?_
    refine Al_nil (Aw_seq ?_)
    obtain ⟨q2, hq2⟩ : ∃ q2, q2 = q.write o.ver.key ⟨#[120]⟩ false [] := ⟨_, rfl⟩
    have hok2 : q2.Ok 1 := by rw [hq2]; exact hok1.write _ _ _ _
    have hrs2 : q2.rs = own := by rw [hq2, ← hrs]; unfold PS.write; split <;> rfl
    rw [← hq2]
    have hf1 : findR own o.ver.key < 0 → q.writeE o.ver.key ⟨#[120]⟩ false [] = 14 := fun h => by unfold PS.writeE; rw [hrs, if_pos h]
    have hf2 : q2.readE o.ver.key = if mine = false then 14 else 0 := by
      unfold PS.readE
      rw [hrs2]
      by_cases h : findR own o.ver.key < 0
      · rw [if_pos h, if_pos (hneg.1 h)]
      · rw [if_neg h, if_neg (fun hh => h (hneg.2 hh))]
    refine Aw_region ?_
    refine Al_p Pu_mvl ?_
    refine Al_p (Pu_fieldb 0 rfl Tryz.underlying34 rfl rfl Tryz.sizeOf9 rfl) ?_
    refine Al_p (Pu_loadb rfl Tryz.isAgg9 rfl rfl rfl) ?_
    refine Al_p (Pu_gcall [(1001, 25, g25), (1002, 250, g25), (1003, 251, g25)] (stRead_g q2 b o.ver.key hok2 (by decide)) (ST_in ..) rfl ⟨rfl, rfl, rfl, trivial⟩ rfl ⟨Sub.rfl, Sub.rfl, trivial⟩) ?_
    refine Al_p Pu_mvl ?_
    refine Al_p (Pu_extract rfl rfl rfl) ?_
    refine Al_p (Pu_extract rfl rfl rfl) ?_
    refine Al_p (Pu_extract rfl rfl rfl) ?_
    refine Al_alloc rfl rfl rfl (by decide) Tryz.zeroValue34 rfl (by kernel_rfl) (fun g14 => ?_)
    refine Al_storeN rfl rfl rfl (by kernel_rfl) Tryz.isAgg34 Tryz.sizeOf34 rfl rfl rfl rfl (Nat.le_of_ble_eq_true rfl) ?_
    refine Al_p Pu_mvr ?_
    refine Al_p Pu_mvr ?_
    refine Al_nil (Aw_seq (Aw_seq ?_))
    rw [hf2]
    refine Aw_region ?_
    refine Al_p Pu_mvl ?_
    refine Al_p Pu_mvl ?_
    refine Al_st (St_gd [] rfl rfl rfl rfl trivial (fun hg85 => by exact Pu_move (.inl rfl) (by conv => lhs; whnf))) rfl (by decide) (by kernel_rfl) (by intro j b oj dj h1 h2 h3; cases h1; cases h2; cases h3; decide) ?_
    refine Al_st (St_gd [85] rfl rfl rfl rfl ⟨⟨_, rfl⟩, trivial⟩ (fun hg86 => Pu_cmp rfl rfl rfl rfl)) rfl (by decide) (by kernel_rfl) (by intro j b oj dj h1 h2 h3; cases h1; cases h2; cases h3; decide) ?_
    refine Al_p (Pu_or rfl rfl rfl rfl) ?_
    refine Al_nil ?_
    refine Aw_cond rfl (fun h87 => ?_) (fun h87 => ?_)
    · skip
      refine Aw_seq (Aw_region ?_)
      refine Al_p Pu_mvl ?_
      refine Al_p Pu_mvl ?_
      refine Al_st (St_gd [] rfl rfl rfl rfl trivial (fun hg90 => by exact Pu_move (.inl rfl) (by conv => lhs; whnf))) rfl (by decide) (by kernel_rfl) (by intro j b oj dj h1 h2 h3; cases h1; cases h2; cases h3; decide) ?_
      refine Al_st (St_gd [] rfl rfl rfl rfl trivial (fun hg91 => by exact Pu_move (.inl rfl) (by conv => lhs; whnf))) rfl (by decide) (by kernel_rfl) (by intro j b oj dj h1 h2 h3; cases h1; cases h2; cases h3; decide) ?_
      refine Al_st (St_gd [91] rfl rfl rfl rfl ⟨⟨_, rfl⟩, trivial⟩ (fun hg92 => Pu_cmp rfl rfl rfl rfl)) rfl (by decide) (by kernel_rfl) (by intro j b oj dj h1 h2 h3; cases h1; cases h2; cases h3; decide) ?_
      refine Al_st (St_gd [90, 92] rfl rfl rfl rfl ⟨⟨_, rfl⟩, ⟨_, rfl⟩, trivial⟩ (fun hg93 => Pu_bool rfl Tryz.underlying4 rfl rfl rfl)) rfl (by decide) (by kernel_rfl) (by intro j b oj dj h1 h2 h3; cases h1; cases h2; cases h3; decide) ?_
      refine Al_p (Pu_and rfl rfl rfl rfl) ?_
      refine Al_p Pu_mvl ?_
      refine Al_st (St_gd [] rfl rfl rfl rfl trivial (fun hg96 => by exact Pu_move (.inl rfl) (by conv => lhs; whnf))) rfl (by decide) (by kernel_rfl) (by intro j b oj dj h1 h2 h3; cases h1; cases h2; cases h3; decide) ?_
      refine Al_st (St_gd [96] rfl rfl rfl rfl ⟨⟨_, rfl⟩, trivial⟩ (fun hg97 => by exact Pu_move (.inl rfl) (by conv => lhs; whnf))) rfl (by decide) (by kernel_rfl) (by intro j b oj dj h1 h2 h3; cases h1; cases h2; cases h3; decide) ?_
      refine Al_st (St_gd2 [] rfl rfl rfl rfl trivial (fun hp98 hg98 => by exact Pu_move (.inl rfl) (by conv => lhs; whnf))) rfl (by decide) (by kernel_rfl) (by intro j b oj dj h1 h2 h3; cases h1; cases h2; cases h3; decide) ?_
      refine Al_st (St_gd2 [98] rfl rfl rfl rfl ⟨⟨_, rfl⟩, trivial⟩ (fun hp99 hg99 => Pu_cmp rfl rfl rfl rfl)) rfl (by decide) (by kernel_rfl) (by intro j b oj dj h1 h2 h3; cases h1; cases h2; cases h3; decide) ?_
      refine Al_st (St_gd [97] rfl rfl rfl rfl ⟨⟨_, rfl⟩, trivial⟩ (fun hg100 => Pu_orG rfl rfl rfl (fun h => ⟨hg100, h⟩) rfl)) rfl (by decide) (by kernel_rfl) (by intro j b oj dj h1 h2 h3; cases h1; cases h2; cases h3; decide) ?_
      refine Al_p (Pu_and rfl rfl rfl rfl) ?_
      refine Al_p Pu_mvr ?_
      refine Al_nil ?_
      refine Aw_ret ?_
      exact Sub.bool (by
        cases mine with
        | true => simp
        | false => rw [hf1 (hneg.2 rfl)]; simp) -- ret 0
    · skip
      have hmf : mine = false := by
        cases mine with
        | true => simp at h87
        | false => rfl
      have hc : J.checkB o.ver = true := by
        cases hcc : J.checkB o.ver with
        | true => rfl
        | false => rw [hcc, hmf] at h87; simp at h87
      have hfn := hneg.2 hmf
      have hw14 := hf1 hfn
      have hqe : q = ⟨2, [], o.ver.n, o.ver.s, own, []⟩ := by rw [hq]; exact TOp.zero_oth hfn hc
      have hq2e : q2 = ⟨2, [], o.ver.n, o.ver.s, own, []⟩ := by rw [hq2]; unfold PS.write; rw [hw14, if_neg (by decide), hqe]
      refine Aw_skip (Aw_seq ?_)
      refine Aw_draw 27 (by kernel_rfl) (by kernel_rfl) ?_
      refine Dr_p Pu_mvl ?_
      refine Dr_p Pu_mvl ?_
      refine Dr_st (St_gd [] rfl rfl rfl rfl trivial (fun hg104 => by exact Pu_move (.inl rfl) (by conv => lhs; whnf))) rfl ?_
      refine Dr_st (St_gd [104] rfl rfl rfl rfl ⟨⟨_, rfl⟩, trivial⟩ (fun hg105 => Pu_cmp rfl rfl rfl rfl)) rfl ?_
      refine Dr_p (Pu_and rfl rfl rfl rfl) ?_
      refine Dr_p Pu_mvl ?_
      refine Dr_st (St_gd [] rfl rfl rfl rfl trivial (fun hg108 => by exact Pu_move (.inl rfl) (by conv => lhs; whnf))) rfl ?_
      refine Dr_st (St_gd [108] rfl rfl rfl rfl ⟨⟨_, rfl⟩, trivial⟩ (fun hg109 => Pu_cmp rfl rfl rfl rfl)) rfl ?_
      refine Dr_p (Pu_and rfl rfl rfl rfl) ?_
      refine Dr_p Pu_mvl ?_
      refine Dr_st (St_gd [] rfl rfl rfl rfl trivial (fun hg112 => by exact Pu_move (.inl rfl) (by conv => lhs; whnf))) rfl ?_
      refine Dr_st (St_gd [112] rfl rfl rfl rfl ⟨⟨_, rfl⟩, trivial⟩ (fun hg113 => Pu_gcall [(1001, 25, g25), (1002, 250, g25), (1003, 251, g25)] (stWaiting_g q2 b) (ST_in ..) rfl ⟨rfl, rfl, rfl, trivial⟩ rfl ⟨Sub.rfl, trivial⟩)) rfl ?_
      refine Dr_st (St_gd [113] rfl rfl rfl rfl ⟨⟨_, rfl⟩, trivial⟩ (fun hg114 => Pu_cmp rfl rfl rfl rfl)) rfl ?_
      refine Dr_p (Pu_and rfl rfl rfl rfl) ?_
      refine Dr_p Pu_mvl ?_
      refine Dr_st (St_gd [] rfl rfl rfl rfl trivial (fun hg117 => by exact Pu_move (.inl rfl) (by conv => lhs; whnf))) rfl ?_
      refine Dr_st (St_gd [117] rfl rfl rfl rfl ⟨⟨_, rfl⟩, trivial⟩ (fun hg118 => by exact Pu_gcall [(1001, 25, g25), (1002, 250, g25), (1003, 251, g25)] (stHave_g q2 b hok2 (by decide)) (ST_in ..) rfl ⟨rfl, rfl, rfl, trivial⟩ rfl ⟨Sub.rfl, trivial⟩)) rfl ?_
      refine Dr_st (St_gd [118] rfl rfl rfl rfl ⟨⟨_, rfl⟩, trivial⟩ (fun hg119 => by exact Pu_len rfl Tryz.underlying32 rfl (by first | exact List.length_map .. | exact rfl))) rfl ?_
      refine Dr_st (St_gd [119] rfl rfl rfl rfl ⟨⟨_, rfl⟩, trivial⟩ (fun hg120 => Pu_cmp rfl rfl rfl rfl)) rfl ?_
      refine Dr_p (Pu_and rfl rfl rfl rfl) ?_
      refine Dr_p Pu_mvl ?_
      refine Dr_st (St_gd [] rfl rfl rfl rfl trivial (fun hg123 => by exact Pu_move (.inl rfl) (by conv => lhs; whnf))) rfl ?_
      refine Dr_st (St_gd [123] rfl rfl rfl rfl ⟨⟨_, rfl⟩, trivial⟩ (fun hg124 => Pu_gcall [(1001, 25, g25), (1002, 250, g25), (1003, 251, g25)] (stClock_g q2 b) (ST_in ..) rfl ⟨rfl, rfl, rfl, trivial⟩ rfl ⟨Sub.rfl, trivial⟩)) rfl ?_
      refine Dr_st (St_gd [] rfl rfl rfl rfl trivial (fun hg125 => Pu_fieldb 3 rfl Tryz.underlying34 rfl rfl Tryz.sizeOf31 rfl)) rfl ?_
      refine Dr_st (St_gd [125] rfl rfl rfl rfl ⟨⟨_, rfl⟩, trivial⟩ (fun hg126 => Pu_loadbN (r := [_, _]) rfl Tryz.isAgg31 Tryz.sizeOf31 rfl rfl rfl rfl)) rfl ?_
      refine Dr_st (St_gd [124, 126] rfl rfl rfl rfl ⟨⟨_, rfl⟩, ⟨_, rfl⟩, trivial⟩ (fun hg127 => Pu_eqrow [.int .i64 _, .int .i64 _] [.int .i64 _, .int .i64 _] (fun w => eqv31 _ _ _ _ _ _ w) rfl rfl rfl)) rfl ?_
      refine Dr_p (Pu_and rfl rfl rfl rfl) ?_
      refine Dr_nil ?_
      refine Al_p Pu_mvr ?_
      refine Al_nil ?_
      refine Aw_ret ?_
      exact Sub.bool (by rw [hw14, hmf, hq2e]; simp [J.have', J.keysC]) -- ret 1
end Go.Proofs.YtmbaeloiepjakaaGreat
end

section
namespace Go.Proofs.YtmbaeloiepjakaaGreat
open Go.ChangeShapes Go.WideShapes Go.ChangeAt Go.RowKit A
open Go.ChangeMaps (open_string shut_string)
theorem siteOther_law.own : ownKnob Tryz.prog.godebug = none := by kernel_rfl
theorem siteOther_law.laidOut : laidOutB Tryz.prog = true := by kernel_rfl
set_option maxRecDepth 100000 in
theorem siteOther_law.lifted (os : Os) (started : os.Started) (H : Type) (enc : TypeId × Value → H) :
    ReturnsInHanded {} Tryz.checked os 5 .any (Rows.siteOtherSpec.pre6 enc Tryz.prog Tryz.f5 Rows.siteOtherRow.domain false) (Rows.siteOtherSpec.post enc Tryz.prog Tryz.f5 false true false false) := by
  refine returnsInHanded_of_change (C := Tryz.checked) siteOther_law.own started (by kernel_rfl) Tryz.func5
    (ChangeSpec.witness6 (enc := enc) (C := Tryz.checked) false ⟨#[], #[.agg #[.int .i64 0, .int .i64 0, .int .i64 0, .int .i64 0, .bool false, .string ⟨#[]⟩, .slice none 0 0], .int .i64 0], []⟩ 8 (by kernel_rfl) (by kernel_rfl) (by kernel_rfl) (by kernel_rfl)) ?_
  intro W base args ds gs before hval0 hW hcnd _
  have hval : ∀ (j : Nat) t v, Tryz.f5.params[j]? = some t → args[j]? = some v → Value.okWide Tryz.prog W .any base t v := hval0
  have hW' := hW
  obtain ⟨p, q, hA0, hV, rfl, hfz, hnd⟩ := hW
  have hA : DataW.TrodAll enc Tryz.prog W 0 (fun _ => true) true Tryz.f5.params.toList args.toList ds p := hA0
  rw [Tryz.params5] at hA hval
  obtain ⟨v0, vs0, d0, ds0, p0, q0, hargs, rfl, rfl, h0, r0⟩ := trodAll_cons hA
  obtain ⟨v1, vs1, d1, ds1, p1, q1, rfl, rfl, rfl, h1, r1⟩ := trodAll_cons r0
  obtain ⟨rfl, rfl, rfl⟩ := trodAll_nil r1
  obtain rfl : args = #[v0, v1] := by cases args; simp_all
  obtain ⟨rfl, rfl⟩ := trodVars_none hV
  have k0 := h0
  have lt0 : ∀ x ∈ p0, x.block < W.heap.size := by obtain ⟨m, hm⟩ := k0; exact DataW.trod_lt m _ _ _ hm
  have ok0 := hval 0 36 v0 rfl rfl
  have k1 := h1
  have lt1 : ∀ x ∈ p1, x.block < W.heap.size := by obtain ⟨m, hm⟩ := k1; exact DataW.trod_lt m _ _ _ hm
  have ok1 := hval 1 3 v1 rfl rfl
  clear hA0 hval0
  obtain ⟨o, ho⟩ := open_top ok0 h0
  obtain ⟨z, hz⟩ := A.open_i64 Tryz.underlying3 ok1 h1 
  refine (A.law (siteother_law o z) (A.allcons ho (A.allcons hz A.allnil))).mono fun e W' ⟨he, bel⟩ => ?_
  subst he
  exact ⟨_, rfl, _, _, _, [], _, [], hW', trodAll_mk1 (shut_bool Tryz.underlying4 _), (trodAll_cons_mk (Below.trod siteOther_law.laidOut (by kernel_rfl) (of_decide_eq_true (by kernel_rfl)) k0 bel lt0) (trodAll_cons_mk (Below.trod siteOther_law.laidOut (by kernel_rfl) (of_decide_eq_true (by kernel_rfl)) k1 bel lt1) trodAll_mk0)), rfl, bel.frame _, fun h => by cases h⟩
theorem siteOther_holds : Rows.SiteOtherSaid :=
  OpenClaim.holds_of_wide 5 Tryz.f5 rfl rfl rfl rfl rfl rfl rfl ⟨rfl, rfl, rfl, rfl, rfl⟩ rfl rfl rfl rfl rfl (by kernel_rfl) Tryz.func5 (by kernel_rfl)
    (of_decide_eq_true (by kernel_rfl)) (by unfold Func.isWrapper; first | (rw [if_pos (by decide +kernel)]; kernel_rfl) | (rw [if_neg (by decide +kernel)]; exact ⟨rfl, rfl⟩))
    (fun os started H enc _ => siteOther_law.lifted os started H enc)
end Go.Proofs.YtmbaeloiepjakaaGreat
end

namespace Go.Proofs.YtmbaeloiepjakaaGreat
#print axioms siteOther_holds
end Go.Proofs.YtmbaeloiepjakaaGreat
