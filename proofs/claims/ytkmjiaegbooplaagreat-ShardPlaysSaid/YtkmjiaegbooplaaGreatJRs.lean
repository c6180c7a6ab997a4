/- The reference's shard: its ranges; chains in the order of their keys. -/
import Derived.Test.YtkmjiaegbooplaaGreatJRv
set_option linter.unusedSimpArgs false
set_option linter.unusedVariables false
set_option maxRecDepth 100000
namespace Go.Proofs.YtkmjiaegbooplaaGreat
open Go.RowKit A R
open A.RowT
abbrev chR (p : ByteArray × List Ver) : List AV := [tv p.1, versA p.2]
abbrev RH (rs : List Rng) (cs : SC) (o : Nat) : Obs := [(1001, .box 31 [.d (rngA rs), .ow o 0]), (o, .arr 75 2 (cs.map chR))]
namespace J
theorem ch_un (cs : SC) : ∀ r ∈ cs.map chR, r.length = 2 := fun r hr => by obtain ⟨x, _, rfl⟩ := List.mem_map.1 hr; rfl
theorem ch_drop {cs : SC} {j : Nat} (hj : j < cs.length) : (cs.map chR).flatten.drop (j * 2) = tv (cs.getD j default).1 :: versA (cs.getD j default).2 :: (cs.map chR).flatten.drop ((j + 1) * 2) := by
  rw [← flat_drop (ch_un cs), ← flat_drop (ch_un cs), List.drop_eq_getElem_cons (l := cs.map chR) (by simpa using hj)]
  simp [hj]
theorem chKey {cs : SC} {j : Nat} (hj : j < cs.length) : (cs.map chR).flatten[j * 2 + 0]? = some (tv (cs.getD j default).1) := by
  have := congrArg (·[0]?) (ch_drop hj)
  simpa [List.getElem?_drop] using this
theorem chL {cs : SC} {j : Nat} (hj : j < cs.length) : (cs.map chR).flatten[j * 2 + 1]? = some (versA (cs.getD j default).2) := by
  have := congrArg (·[1]?) (ch_drop hj)
  simpa [List.getElem?_drop] using this
theorem chAll {cs : SC} {j : Nat} (hj : j < cs.length) : ((cs.map chR).flatten.drop (j * 2)).take 2 = chR (cs.getD j default) := by
  rw [ch_drop hj]; rfl
theorem ch_set {cs : SC} {j : Nat} (hj : j < cs.length) (l : List Ver) : ((cs.set j ((cs.getD j default).1, l)).map chR).flatten = (cs.map chR).flatten.take (j * 2 + 1) ++ [versA l] ++ (cs.map chR).flatten.drop (j * 2 + 1 + 1) := by
  have h1 : (cs.map chR).flatten.take (j * 2 + 1) = (cs.map chR).flatten.take (j * 2) ++ [tv (cs.getD j default).1] := by
    rw [List.take_add, ch_drop hj]; rfl
  have h2 : (cs.map chR).flatten.drop (j * 2 + 1 + 1) = (cs.map chR).flatten.drop ((j + 1) * 2) := by congr 1; omega
  rw [h1, h2, ← flat_take (ch_un cs), ← flat_drop (ch_un cs), List.set_eq_take_append_cons_drop, if_pos hj]
  simp
theorem getC_at {cs : SC} (h : RiseC cs) {k : Nat} (hk : k < cs.length) : getC cs cs[k].1 = cs[k].2 := by
  unfold getC; rw [look_mem h (List.getElem_mem hk)]; rfl
/-- The place of a key's chain. -/
def rpos (cs : SC) (k : ByteArray) : Int := S.find (fun p => p.1.toList == k.toList) cs
theorem rpos_look : ∀ (cs : SC) (k : ByteArray), (rpos cs k < 0 ∧ look cs k = none) ∨ ∃ i, ∃ hi : i < cs.length, rpos cs k = (i : Int) ∧ cs[i].1 = k ∧ look cs k = some cs[i].2 := fun cs k => by
  by_cases h : S.find (fun p : ByteArray × List Ver => p.1.toList == k.toList) cs = -1
  · refine .inl ⟨by unfold rpos; omega, ?_⟩
    have h1 := S.find_neg h
    refine look_none fun p hp e => ?_
    have h2 : p ∈ cs.filter fun x => !(x.1.toList == k.toList) := by rw [h1]; exact hp
    have h3 := (List.mem_filter.1 h2).2
    rw [e] at h3
    simp at h3
  · obtain ⟨i, hi, h1, h2, h3⟩ := S.find_pos h
    have hk : cs[i].1 = k := by rw [str_eqB] at h2; exact of_decide_eq_true h2
    refine .inr ⟨i, hi, h1, hk, ?_⟩
    unfold look
    have hf : cs.find? (fun p => decide (p.1 = k)) = some cs[i] := by
      rw [List.find?_eq_some_iff_getElem]
      refine ⟨by simpa using hk, i, hi, rfl, fun j hj => ?_⟩
      have := h3 j (by omega) hj
      simp only [Bool.not_eq_true', decide_eq_false_iff_not]
      intro e
      rw [e] at this
      simp at this
    rw [hf]; rfl
end J
theorem rpos13_g (rs : List Rng) (cs : SC) (key : ByteArray) (hcl : cs.length ≤ 1000) : GCall Tryz.prog 39 [.bx 1001 0 0, .d (tv key)] (RH rs cs 1002) (some (RH rs cs 1002, .d (iv (J.rpos cs key)))) := by
  refine GCall_enterL (fun _ _ => by kernel_rfl) Tryz.func39 rfl Tryz.ntmps39 (ReadsS.r1 Tryz.results39) (Nat.le_of_ble_eq_true rfl) (fun hok hokB M0 w0 hl => ?_)
  refine Aw_seq ?_
  refine Aw_region ?_
  refine Al_pu (Pu_move (.inr rfl) (by conv => lhs; whnf)) rfl rfl (by decide) (by kernel_rfl) ?_
  refine Al_nil ?_
  refine Aw_seq ?_
  refine Aw_seq ?_
  refine Aw_region ?_
  refine Al_pu (Pu_move (.inr rfl) (by conv => lhs; whnf)) rfl rfl (by decide) (by kernel_rfl) ?_
  refine Al_nil ?_
  refine Aw_block ?_
  refine Aw_loopk (ι := Nat) [0, 1] [1001, 1002] (fun k => [(5, .d (iv k))]) (fun k => []) (fun k => k ≤ cs.length ∧ ∀ j (h : j < cs.length), j < k → (cs[j].1.toList == key.toList) = false) (fun k => cs.length - k) (0) (⟨Nat.zero_le _, by intros; omega⟩) ⟨Sub.rfl, trivial⟩ trivial ?_
  rintro k ⟨hk0, hno⟩
  refine Aw_seq ?_
  refine Aw_seq ?_
  refine Aw_region ?_
  refine Al_pu (Pu_move (.inl rfl) (by conv => lhs; whnf)) rfl rfl (by decide) (by kernel_rfl) ?_
  refine Al_pu (Pu_move (.inl rfl) (by conv => lhs; whnf)) rfl rfl (by decide) (by kernel_rfl) ?_
  refine Al_pu (Pu_nilb rfl rfl) rfl rfl (by decide) (by kernel_rfl) ?_
  refine Al_pu (Pu_fieldb 1 rfl Tryz.underlying31 rfl rfl Tryz.sizeOf29 rfl) rfl rfl (by decide) (by kernel_rfl) ?_
  refine Al_pu (Pu_loadb rfl Tryz.isAgg29 rfl rfl rfl) rfl rfl (by decide) (by kernel_rfl) ?_
  refine Al_pu (Pu_lenOw rfl Tryz.underlying29 rfl rfl (List.length_map ..)) rfl rfl (by decide) (by kernel_rfl) ?_
  refine Al_pu (Pu_cmp rfl rfl rfl rfl) rfl rfl (by decide) (by kernel_rfl) ?_
  refine Al_nil ?_
  refine Aw_cond rfl (fun h12 => ?_) (fun h12 => ?_)
  · (try simp only [decide_eq_true_eq, decide_eq_false_iff_not, List.length_map] at h12)
    have hk : k < cs.length := by omega
    have hgd : cs.getD k default = cs[k] := by simp [hk]
    refine Aw_skip ?_
    refine Aw_seq ?_
    refine Aw_block ?_
    refine Aw_seq ?_
    refine Aw_region ?_
    refine Al_pu (Pu_move (.inl rfl) (by conv => lhs; whnf)) rfl rfl (by decide) (by kernel_rfl) ?_
    refine Al_pu (Pu_nilb rfl rfl) rfl rfl (by decide) (by kernel_rfl) ?_
    refine Al_pu (Pu_fieldb 1 rfl Tryz.underlying31 rfl rfl Tryz.sizeOf29 rfl) rfl rfl (by decide) (by kernel_rfl) ?_
    refine Al_pu (Pu_loadb rfl Tryz.isAgg29 rfl rfl rfl) rfl rfl (by decide) (by kernel_rfl) ?_
    refine Al_pu (Pu_move (.inl rfl) (by conv => lhs; whnf)) rfl rfl (by decide) (by kernel_rfl) ?_
    refine Al_pu (Pu_indexOw (j := k) rfl Tryz.underlying29 Tryz.sizeOf75 rfl rfl rfl rfl (by rw [List.length_map]; omega)) rfl rfl (by decide) (by kernel_rfl) ?_
    refine Al_pu (Pu_fieldb 0 rfl Tryz.underlying75 rfl rfl Tryz.sizeOf9 rfl) rfl rfl (by decide) (by kernel_rfl) ?_
    refine Al_pu (Pu_loadArr rfl Tryz.isAgg9 rfl rfl (J.chKey (cs := cs) hk)) rfl rfl (by decide) (by kernel_rfl) ?_
    refine Al_pu (Pu_move (.inl rfl) (by conv => lhs; whnf)) rfl rfl (by decide) (by kernel_rfl) ?_
    refine Al_pu (Pu_str rfl rfl rfl rfl) rfl rfl (by decide) (by kernel_rfl) ?_
    refine Al_nil ?_
    refine Aw_cond rfl (fun h24 => ?_) (fun h24 => ?_)
    · skip
      rw [hgd] at h24
      refine Aw_seq ?_
      refine Aw_region ?_
      refine Al_pu (Pu_move (.inl rfl) (by conv => lhs; whnf)) rfl rfl (by decide) (by kernel_rfl) ?_
      refine Al_pu (Pu_move (.inr rfl) (by conv => lhs; whnf)) rfl rfl (by decide) (by kernel_rfl) ?_
      refine Al_nil ?_
      refine Aw_ret ?_
      exact ⟨_, _, [], rfl, Sub.num (S.find_at hk h24 hno), ⟨rfl, rfl, trivial⟩, rfl⟩ -- ret 0
    · skip
      have h24' : (cs[k].1.toList == key.toList) = false := by rw [← hgd]; exact h24
      refine Aw_skip ?_
      refine Aw_region ?_
      refine Al_pu (Pu_move (.inl rfl) (by conv => lhs; whnf)) rfl rfl (by decide) (by kernel_rfl) ?_
      refine Al_pu (Pu_add rfl rfl rfl (fun h1 h2 => by simp only [A.inI, A.maxI] at *; omega)) rfl rfl (by decide) (by kernel_rfl) ?_
      refine Al_pu (Pu_move (.inr rfl) (by conv => lhs; whnf)) rfl rfl (by decide) (by kernel_rfl) ?_
      refine Al_nil ?_
      exact ⟨k + 1, ⟨by omega, fun j hj hjk => by
        by_cases e : j = k
        · subst e; exact h24'
        · exact hno j hj (by omega)⟩, by omega, Le.ov ⟨Sub.num (by omega), trivial⟩ ⟨Sub.rfl, Sub.rfl, trivial⟩ trivial ⟨rfl, rfl, trivial⟩⟩ -- loop 0 next.0
  · (try simp only [decide_eq_true_eq, decide_eq_false_iff_not, List.length_map] at h12)
    obtain rfl : k = cs.length := by omega
    refine Aw_exit ?_
    refine Aw_seq ?_
    refine Aw_region ?_
    refine Al_pu (Pu_move (.inr rfl) (by conv => lhs; whnf)) rfl rfl (by decide) (by kernel_rfl) ?_
    refine Al_nil ?_
    refine Aw_ret ?_
    exact ⟨_, _, [], rfl, Sub.num (S.find_no hno), ⟨rfl, rfl, trivial⟩, rfl⟩ -- ret 1
theorem rof13_g (rs : List Rng) (cs : SC) (key : ByteArray) (hcl : cs.length ≤ 1000) : GCall Tryz.prog 14 [.bx 1001 0 0, .d (tv key)] (RH rs cs 1002) (some (RH rs cs 1002, .d (versA (J.getC cs key)))) := by
  refine GCall_enterL (fun _ _ => by kernel_rfl) Tryz.func14 rfl Tryz.ntmps14 (ReadsS.r1 Tryz.results14) (Nat.le_of_ble_eq_true rfl) (fun hok hokB M0 w0 hl => ?_)
  refine Aw_seq ?_
  refine Aw_region ?_
  refine Al_pu (Pu_move (.inr rfl) (by conv => lhs; whnf)) rfl rfl (by decide) (by kernel_rfl) ?_
  refine Al_nil ?_
  refine Aw_seq ?_
  refine Aw_region ?_
  refine Al_pu (Pu_move (.inl rfl) (by conv => lhs; whnf)) rfl rfl (by decide) (by kernel_rfl) ?_
  refine Al_pu (Pu_move (.inl rfl) (by conv => lhs; whnf)) rfl rfl (by decide) (by kernel_rfl) ?_
  refine Al_gcall [(1001, 1001, 0), (1002, 1002, 0)] [] (rpos13_g rs cs key hcl) rfl rfl rfl (by decide) (by kernel_rfl) ⟨rfl, rfl, trivial⟩ rfl ⟨Sub.rfl, Sub.rfl, trivial⟩ (fun g8 => ?_)
  refine Al_pu (Pu_move (.inr rfl) (by conv => lhs; whnf)) rfl rfl (by decide) (by kernel_rfl) ?_
  refine Al_nil ?_
  refine Aw_seq ?_
  refine Aw_seq ?_
  refine Aw_region ?_
  refine Al_pu (Pu_move (.inl rfl) (by conv => lhs; whnf)) rfl rfl (by decide) (by kernel_rfl) ?_
  refine Al_pu (Pu_cmp rfl rfl rfl rfl) rfl rfl (by decide) (by kernel_rfl) ?_
  refine Al_nil ?_
  refine Aw_cond rfl (fun h10 => ?_) (fun h10 => ?_)
  · (try simp only [decide_eq_true_eq, decide_eq_false_iff_not, List.length_map] at h10)
    have hno : J.getC cs key = [] := by
      rcases J.rpos_look cs key with ⟨_, h⟩ | ⟨i, hi, h, _⟩
      · unfold J.getC; rw [h]; rfl
      · omega
    refine Aw_seq ?_
    refine Aw_region ?_
    refine Al_pu (Pu_move (.inr rfl) (by conv => lhs; whnf)) rfl rfl (by decide) (by kernel_rfl) ?_
    refine Al_nil ?_
    refine Aw_ret ?_
    exact ⟨_, _, [], rfl, by rw [hno]; exact Sub.nil, ⟨rfl, rfl, trivial⟩, rfl⟩ -- ret 0
  · (try simp only [decide_eq_true_eq, decide_eq_false_iff_not, List.length_map] at h10)
    obtain ⟨i, hi, hp, hk, hlk⟩ : ∃ i, ∃ hi : i < cs.length, J.rpos cs key = (i : Int) ∧ cs[i].1 = key ∧ J.look cs key = some cs[i].2 := by
      rcases J.rpos_look cs key with ⟨h, _⟩ | h
      · omega
      · exact h
    have hgc : J.getC cs key = (cs.getD i default).2 := by unfold J.getC; rw [hlk]; simp [hi]
    refine Aw_skip ?_
    refine Aw_seq ?_
    refine Aw_region ?_
    refine Al_pu (Pu_move (.inl rfl) (by conv => lhs; whnf)) rfl rfl (by decide) (by kernel_rfl) ?_
    refine Al_pu (Pu_nilb rfl rfl) rfl rfl (by decide) (by kernel_rfl) ?_
    refine Al_pu (Pu_fieldb 1 rfl Tryz.underlying31 rfl rfl Tryz.sizeOf29 rfl) rfl rfl (by decide) (by kernel_rfl) ?_
    refine Al_pu (Pu_loadb rfl Tryz.isAgg29 rfl rfl rfl) rfl rfl (by decide) (by kernel_rfl) ?_
    refine Al_pu (Pu_move (.inl rfl) (by conv => lhs; whnf)) rfl rfl (by decide) (by kernel_rfl) ?_
    refine Al_pu (Pu_indexOw (j := i) rfl Tryz.underlying29 Tryz.sizeOf75 rfl rfl rfl hp (by rw [List.length_map]; omega)) rfl rfl (by decide) (by kernel_rfl) ?_
    refine Al_pu (Pu_fieldb 1 rfl Tryz.underlying75 rfl rfl Tryz.sizeOf47 rfl) rfl rfl (by decide) (by kernel_rfl) ?_
    refine Al_pu (Pu_loadArr rfl Tryz.isAgg47 rfl rfl (J.chL (cs := cs) hi)) rfl rfl (by decide) (by kernel_rfl) ?_
    refine Al_pu (Pu_move (.inr rfl) (by conv => lhs; whnf)) rfl rfl (by decide) (by kernel_rfl) ?_
    refine Al_nil ?_
    refine Aw_ret ?_
    exact ⟨_, _, [], rfl, Sub.d (by rw [hgc]), ⟨rfl, rfl, trivial⟩, rfl⟩ -- ret 1
theorem rkeys13_g (rs : List Rng) (cs : SC) (hcl : cs.length ≤ 1000) : GCall Tryz.prog 27 [.bx 1001 0 0] (RH rs cs 1002) (some (RH rs cs 1002, .d (.sl 1 ((J.keysC cs).map fun s => [tv s])))) := by
  refine GCall_enterL (fun _ _ => by kernel_rfl) Tryz.func27 rfl Tryz.ntmps27 (ReadsS.r1 Tryz.results27) (Nat.le_of_ble_eq_true rfl) (fun hok hokB M0 w0 hl => ?_)
  refine Aw_seq ?_
  refine Aw_region ?_
  refine Al_pu (Pu_move (.inr rfl) (by conv => lhs; whnf)) rfl rfl (by decide) (by kernel_rfl) ?_
  refine Al_nil ?_
  refine Aw_seq ?_
  refine Aw_region ?_
  refine Al_pu (Pu_move (.inr rfl) (by conv => lhs; whnf)) rfl rfl (by decide) (by kernel_rfl) ?_
  refine Al_nil ?_
  refine Aw_seq ?_
  refine Aw_seq ?_
  refine Aw_region ?_
  refine Al_pu (Pu_move (.inr rfl) (by conv => lhs; whnf)) rfl rfl (by decide) (by kernel_rfl) ?_
  refine Al_nil ?_
  refine Aw_block ?_
  refine Aw_own (j := 3) (k := 3) (T := 9) (n := 1) rfl (fun g0 => ?_)
  refine Aw_loopk (ι := Nat × Nat) [0] [1001, 1002] (fun (k, g) => [(4, .d (iv k)), (3, .ow 3 g)]) (fun (k, g) => [(3, g, .arr 9 1 (((J.keysC cs).take k).map fun s => [tv s]))]) (fun (k, g) => k ≤ cs.length) (fun (k, g) => cs.length - k) ((0, g0)) (Nat.zero_le _) ⟨Sub.rfl, Sub.rfl, trivial⟩ ⟨rfl, trivial⟩ ?_
  rintro ⟨k, g⟩ hk0
  refine Aw_seq ?_
  refine Aw_seq ?_
  refine Aw_region ?_
  refine Al_pu (Pu_move (.inl rfl) (by conv => lhs; whnf)) rfl rfl (by decide) (by kernel_rfl) ?_
  refine Al_pu (Pu_move (.inl rfl) (by conv => lhs; whnf)) rfl rfl (by decide) (by kernel_rfl) ?_
  refine Al_pu (Pu_nilb rfl rfl) rfl rfl (by decide) (by kernel_rfl) ?_
  refine Al_pu (Pu_fieldb 1 rfl Tryz.underlying31 rfl rfl Tryz.sizeOf29 rfl) rfl rfl (by decide) (by kernel_rfl) ?_
  refine Al_pu (Pu_loadb rfl Tryz.isAgg29 rfl rfl rfl) rfl rfl (by decide) (by kernel_rfl) ?_
  refine Al_pu (Pu_lenOw rfl Tryz.underlying29 rfl rfl (List.length_map ..)) rfl rfl (by decide) (by kernel_rfl) ?_
  refine Al_pu (Pu_cmp rfl rfl rfl rfl) rfl rfl (by decide) (by kernel_rfl) ?_
  refine Al_nil ?_
  refine Aw_cond rfl (fun h11 => ?_) (fun h11 => ?_)
  · (try simp only [decide_eq_true_eq, decide_eq_false_iff_not, List.length_map] at h11)
    have hk : k < cs.length := by omega
    have htk : (J.keysC cs).take (k + 1) = (J.keysC cs).take k ++ [(cs.getD k default).1] := by
      rw [List.take_succ_eq_append_getElem (by unfold J.keysC; simpa using hk)]
      unfold J.keysC
      simp [hk]
    refine Aw_skip ?_
    refine Aw_seq ?_
    refine Aw_block ?_
    refine Aw_region ?_
    refine Al_pu (Pu_move (.inl rfl) (by conv => lhs; whnf)) rfl rfl (by decide) (by kernel_rfl) ?_
    refine Al_pu (Pu_move (.inl rfl) (by conv => lhs; whnf)) rfl rfl (by decide) (by kernel_rfl) ?_
    refine Al_pu (Pu_nilb rfl rfl) rfl rfl (by decide) (by kernel_rfl) ?_
    refine Al_pu (Pu_fieldb 1 rfl Tryz.underlying31 rfl rfl Tryz.sizeOf29 rfl) rfl rfl (by decide) (by kernel_rfl) ?_
    refine Al_pu (Pu_loadb rfl Tryz.isAgg29 rfl rfl rfl) rfl rfl (by decide) (by kernel_rfl) ?_
    refine Al_pu (Pu_move (.inl rfl) (by conv => lhs; whnf)) rfl rfl (by decide) (by kernel_rfl) ?_
    refine Al_pu (Pu_indexOw (j := k) rfl Tryz.underlying29 Tryz.sizeOf75 rfl rfl rfl rfl (by rw [List.length_map]; omega)) rfl rfl (by decide) (by kernel_rfl) ?_
    refine Al_pu (Pu_fieldb 0 rfl Tryz.underlying75 rfl rfl Tryz.sizeOf9 rfl) rfl rfl (by decide) (by kernel_rfl) ?_
    refine Al_pu (Pu_loadArr rfl Tryz.isAgg9 rfl rfl (J.chKey (cs := cs) hk)) rfl rfl (by decide) (by kernel_rfl) ?_
    refine Al_pu (Pu_slice1 rfl Tryz.underlying57 Tryz.sizeOf9 Tryz.zeroValue9 rfl (by decide) (by decide) (by kernel_rfl) rfl rfl rfl) rfl rfl (by decide) (by kernel_rfl) ?_
    refine Al_append rfl rfl rfl (by decide) (by kernel_rfl) elem57 (by decide) Tryz.sizeOf9 rfl rfl rfl (by simp; omega) (by decide) (fun g24 => ?_)
    refine Al_pu (Pu_move (.inr rfl) (by conv => lhs; whnf)) rfl rfl (by decide) (by kernel_rfl) ?_
    refine Al_nil ?_
    refine Aw_region ?_
    refine Al_pu (Pu_move (.inl rfl) (by conv => lhs; whnf)) rfl rfl (by decide) (by kernel_rfl) ?_
    refine Al_pu (Pu_add rfl rfl rfl (fun h1 h2 => by simp only [A.inI, A.maxI] at *; omega)) rfl rfl (by decide) (by kernel_rfl) ?_
    refine Al_pu (Pu_move (.inr rfl) (by conv => lhs; whnf)) rfl rfl (by decide) (by kernel_rfl) ?_
    refine Al_nil ?_
    exact ⟨(k + 1, g24), by omega, by simp only []; omega, Le.ov ⟨Sub.num (by omega), Sub.rfl, trivial⟩ ⟨Sub.rfl, trivial⟩ ⟨obeq (by rw [htk, List.map_append]; rfl), trivial⟩ ⟨rfl, rfl, trivial⟩⟩ -- loop 0 next.0
  · (try simp only [decide_eq_true_eq, decide_eq_false_iff_not, List.length_map] at h11)
    have hkn : k = cs.length := by omega
    have htk : (J.keysC cs).take k = J.keysC cs := List.take_of_length_le (by unfold J.keysC; simp; omega)
    refine Aw_exit ?_
    refine Aw_seq ?_
    refine Aw_region ?_
    refine Al_pu (Pu_move (.inl rfl) (by conv => lhs; whnf)) rfl rfl (by decide) (by kernel_rfl) ?_
    refine Al_pu (Pu_move (.inr rfl) (by conv => lhs; whnf)) rfl rfl (by decide) (by kernel_rfl) ?_
    refine Al_nil ?_
    refine Aw_frzL hl (k := 3) [2] rfl ⟨rfl, ⟨_, rfl, fun _ _ h => h⟩, rfl, ⟨_, rfl, fun _ _ h => h⟩, trivial⟩ ⟨rfl, trivial⟩ ?_
    refine Aw_ret ?_
    exact ⟨_, _, [], rfl, Sub.d (by rw [htk]), ⟨rfl, rfl, trivial⟩, rfl⟩ -- ret 0
theorem rhave13_g (rs : List Rng) (cs : SC) (hcl : cs.length ≤ 1000) (hr : J.RiseC cs) : GCall Tryz.prog 24 [.bx 1001 0 0] (RH rs cs 1002) (some (RH rs cs 1002, .d (.sl 3 ((J.have' cs).map Dep.row)))) := by
  refine GCall_enterL (fun _ _ => by kernel_rfl) Tryz.func24 rfl Tryz.ntmps24 (ReadsS.r1 Tryz.results24) (Nat.le_of_ble_eq_true rfl) (fun hok hokB M0 w0 hl => ?_)
  refine Aw_seq ?_
  refine Aw_region ?_
  refine Al_pu (Pu_move (.inr rfl) (by conv => lhs; whnf)) rfl rfl (by decide) (by kernel_rfl) ?_
  refine Al_nil ?_
  refine Aw_seq ?_
  refine Aw_region ?_
  refine Al_pu (Pu_move (.inr rfl) (by conv => lhs; whnf)) rfl rfl (by decide) (by kernel_rfl) ?_
  refine Al_nil ?_
  refine Aw_seq ?_
  refine Aw_seq ?_
  refine Aw_region ?_
  refine Al_pu (Pu_move (.inr rfl) (by conv => lhs; whnf)) rfl rfl (by decide) (by kernel_rfl) ?_
  refine Al_nil ?_
  refine Aw_block ?_
  refine Aw_own (j := 3) (k := 3) (T := 38) (n := 3) rfl (fun g0 => ?_)
  refine Aw_loopk (ι := Nat × Nat) [0] [1001, 1002] (fun (k, g) => [(4, .d (iv k)), (3, .ow 3 g)]) (fun (k, g) => [(3, g, .arr 38 3 (((J.have' cs).take k).map Dep.row))]) (fun (k, g) => k ≤ cs.length) (fun (k, g) => cs.length - k) ((0, g0)) (Nat.zero_le _) ⟨Sub.rfl, Sub.rfl, trivial⟩ ⟨rfl, trivial⟩ ?_
  rintro ⟨k, g⟩ hk0
  refine Aw_seq ?_
  refine Aw_seq ?_
  refine Aw_region ?_
  refine Al_pu (Pu_move (.inl rfl) (by conv => lhs; whnf)) rfl rfl (by decide) (by kernel_rfl) ?_
  refine Al_pu (Pu_move (.inl rfl) (by conv => lhs; whnf)) rfl rfl (by decide) (by kernel_rfl) ?_
  refine Al_pu (Pu_nilb rfl rfl) rfl rfl (by decide) (by kernel_rfl) ?_
  refine Al_pu (Pu_fieldb 1 rfl Tryz.underlying31 rfl rfl Tryz.sizeOf29 rfl) rfl rfl (by decide) (by kernel_rfl) ?_
  refine Al_pu (Pu_loadb rfl Tryz.isAgg29 rfl rfl rfl) rfl rfl (by decide) (by kernel_rfl) ?_
  refine Al_pu (Pu_lenOw rfl Tryz.underlying29 rfl rfl (List.length_map ..)) rfl rfl (by decide) (by kernel_rfl) ?_
  refine Al_pu (Pu_cmp rfl rfl rfl rfl) rfl rfl (by decide) (by kernel_rfl) ?_
  refine Al_nil ?_
  refine Aw_cond rfl (fun h13 => ?_) (fun h13 => ?_)
  · (try simp only [decide_eq_true_eq, decide_eq_false_iff_not, List.length_map] at h13)
    have hk : k < cs.length := by omega
    have htk := J.take_have cs hk
    have hgd : cs.getD k default = cs[k] := by simp [hk]
    have hkd : (J.keysC cs).getD k default = (cs.getD k default).1 := by unfold J.keysC; simp [hk]
    have hsh : J.shead cs ((J.keysC cs).getD k default) = J.head (cs.getD k default).2 := by
      unfold J.shead
      rw [hkd, hgd, J.getC_at hr hk]
    have ch := rhead12_a (cs.getD k default).2
    rw [← hsh] at ch
    refine Aw_skip ?_
    -- join 0: live [0, 3, 4], turned [3]
    refine Aw_seq ?_
    refine Aw_block ?_
    refine Aw_seq ?_
    refine Aw_region ?_
    refine Al_pu (Pu_move (.inl rfl) (by conv => lhs; whnf)) rfl rfl (by decide) (by kernel_rfl) ?_
    refine Al_pu (Pu_nilb rfl rfl) rfl rfl (by decide) (by kernel_rfl) ?_
    refine Al_pu (Pu_fieldb 1 rfl Tryz.underlying31 rfl rfl Tryz.sizeOf29 rfl) rfl rfl (by decide) (by kernel_rfl) ?_
    refine Al_pu (Pu_loadb rfl Tryz.isAgg29 rfl rfl rfl) rfl rfl (by decide) (by kernel_rfl) ?_
    refine Al_pu (Pu_move (.inl rfl) (by conv => lhs; whnf)) rfl rfl (by decide) (by kernel_rfl) ?_
    refine Al_pu (Pu_indexOw (j := k) rfl Tryz.underlying29 Tryz.sizeOf75 rfl rfl rfl rfl (by rw [List.length_map]; omega)) rfl rfl (by decide) (by kernel_rfl) ?_
    refine Al_pu (Pu_fieldb 1 rfl Tryz.underlying75 rfl rfl Tryz.sizeOf47 rfl) rfl rfl (by decide) (by kernel_rfl) ?_
    refine Al_pu (Pu_loadArr rfl Tryz.isAgg47 rfl rfl (J.chL (cs := cs) hk)) rfl rfl (by decide) (by kernel_rfl) ?_
    refine Al_pu (Pu_call (ch) rfl ⟨Sub.rfl, trivial⟩) rfl rfl (by decide) (by kernel_rfl) ?_
    refine Al_pu (Pu_move (.inl rfl) (by conv => lhs; whnf)) rfl rfl (by decide) (by kernel_rfl) ?_
    refine Al_pu (Pu_extract rfl rfl rfl) rfl rfl (by decide) (by kernel_rfl) ?_
    refine Al_pu (Pu_extract rfl rfl rfl) rfl rfl (by decide) (by kernel_rfl) ?_
    refine Al_alloc rfl rfl rfl (by decide) Tryz.zeroValue36 rfl (by kernel_rfl) (fun g5 => ?_)
    refine Al_storeN rfl rfl rfl (by kernel_rfl) Tryz.isAgg36 Tryz.sizeOf36 rfl rfl rfl rfl (Nat.le_of_ble_eq_true rfl) ?_
    refine Al_pu (Pu_move (.inr rfl) (by conv => lhs; whnf)) rfl rfl (by decide) (by kernel_rfl) ?_
    refine Al_nil ?_
    refine Aw_drawP 13 2 (by kernel_rfl) (by kernel_rfl) rfl ?_
    refine Dr_pu (Pu_move (.inl rfl) (by conv => lhs; whnf)) rfl rfl ?_
    refine Dr_pu (Pu_move (.inl rfl) (by conv => lhs; whnf)) rfl rfl ?_
    refine Dr_pu (Pu_nilb rfl rfl) rfl rfl ?_
    refine Dr_pu (Pu_fieldb 1 rfl Tryz.underlying31 rfl rfl Tryz.sizeOf29 rfl) rfl rfl ?_
    refine Dr_pu (Pu_loadb rfl Tryz.isAgg29 rfl rfl rfl) rfl rfl ?_
    refine Dr_pu (Pu_move (.inl rfl) (by conv => lhs; whnf)) rfl rfl ?_
    refine Dr_pu (Pu_indexOw (j := k) rfl Tryz.underlying29 Tryz.sizeOf75 rfl rfl rfl rfl (by rw [List.length_map]; omega)) rfl rfl ?_
    refine Dr_pu (Pu_fieldb 0 rfl Tryz.underlying75 rfl rfl Tryz.sizeOf9 rfl) rfl rfl ?_
    refine Dr_pu (Pu_loadArr (c := tv ((J.keysC cs).getD k default)) rfl Tryz.isAgg9 rfl rfl (by rw [hkd]; exact J.chKey (cs := cs) hk)) rfl rfl ?_
    refine Dr_pu (Pu_fieldb 3 rfl Tryz.underlying36 rfl rfl Tryz.sizeOf33 rfl) rfl rfl ?_
    refine Dr_pu (Pu_loadbN (r := [_, _]) rfl Tryz.isAgg33 Tryz.sizeOf33 rfl rfl rfl rfl) rfl rfl ?_
    refine Dr_pu (Pu_build (aa := [(0, _), (1, _)]) rfl Tryz.underlying38 Tryz.zeroValue38 (places38 Tryz.underlying38) (by kernel_rfl) ⟨rfl, rfl, rfl, rfl, rfl, rfl, trivial⟩ rfl) rfl rfl ?_
    refine Dr_pu (Pu_slice1 rfl Tryz.underlying34 Tryz.sizeOf38 Tryz.zeroValue38 rfl (by decide) (by decide) (by kernel_rfl) rfl rfl rfl) rfl rfl ?_
    refine Dr_nil ?_
    refine Ad_one 13 rfl (by kernel_rfl) ?_
    refine Al_append rfl rfl rfl (by decide) (by kernel_rfl) elem34 (by decide) Tryz.sizeOf38 rfl rfl rfl (by simp; omega) (by decide) (fun g41 => ?_)
    refine Al_nil ?_
    refine Ad_take 14 rfl (PuI_move (.inr rfl) (by conv => lhs; whnf)) rfl rfl (by decide) (by kernel_rfl) (by kernel_rfl) (by kernel_rfl) (by kernel_rfl) (fun _ _ h => h) ?_
    refine Ad_done (by kernel_rfl) ?_
    refine Aw_region ?_
    refine Al_pu (Pu_move (.inl rfl) (by conv => lhs; whnf)) rfl rfl (by decide) (by kernel_rfl) ?_
    refine Al_pu (Pu_add rfl rfl rfl (fun h1 h2 => by simp only [A.inI, A.maxI] at *; omega)) rfl rfl (by decide) (by kernel_rfl) ?_
    refine Al_pu (Pu_move (.inr rfl) (by conv => lhs; whnf)) rfl rfl (by decide) (by kernel_rfl) ?_
    refine Al_nil ?_
    exact ⟨(k + 1, g41), by omega, by simp only []; omega, Le.ov ⟨Sub.num (by omega), Sub.rfl, trivial⟩ ⟨Sub.rfl, trivial⟩ ⟨obeq (by rw [htk, List.map_append]; rfl), trivial⟩ ⟨rfl, rfl, trivial⟩⟩ -- loop 0 next.0
  · (try simp only [decide_eq_true_eq, decide_eq_false_iff_not, List.length_map] at h13)
    have hkn : k = cs.length := by omega
    have htk : (J.have' cs).take k = J.have' cs := List.take_of_length_le (by subst hkn; unfold J.have' J.keysC; simp)
    refine Aw_exit ?_
    refine Aw_seq ?_
    refine Aw_region ?_
    refine Al_pu (Pu_move (.inl rfl) (by conv => lhs; whnf)) rfl rfl (by decide) (by kernel_rfl) ?_
    refine Al_pu (Pu_move (.inr rfl) (by conv => lhs; whnf)) rfl rfl (by decide) (by kernel_rfl) ?_
    refine Al_nil ?_
    refine Aw_frzL hl (k := 3) [2] rfl ⟨rfl, ⟨_, rfl, fun _ _ h => h⟩, rfl, ⟨_, rfl, fun _ _ h => h⟩, trivial⟩ ⟨rfl, trivial⟩ ?_
    refine Aw_ret ?_
    exact ⟨_, _, [], rfl, Sub.d (by rw [htk]), ⟨rfl, rfl, trivial⟩, rfl⟩ -- ret 0
namespace J
/-- A row into which x is put ahead of the first one of p; what stands of it when i are taken. -/
def insI {α : Type} (p : α → Bool) (x : α) (l : List α) (i : Nat) : List α := if l.findIdx p < i then l.take (l.findIdx p) ++ x :: (l.take i).drop (l.findIdx p) else l.take i
section
variable {α : Type} {p : α → Bool} {x : α} {l : List α} {i : Nat}
theorem insI_zero : insI p x l 0 = [] := by unfold insI; rw [if_neg (by omega)]; rfl
theorem insI_at (hi : i < l.length) (h : l.findIdx p = i) : insI p x l (i + 1) = insI p x l i ++ [x] ++ [l[i]] := by
  unfold insI
  rw [if_pos (by omega), if_neg (by omega), h, List.take_succ_eq_append_getElem hi, List.drop_append, List.drop_of_length_le (by rw [List.length_take]; omega)]
  simp [show i - min i l.length = 0 from by omega]
theorem insI_ne (hi : i < l.length) (h : l.findIdx p ≠ i) : insI p x l (i + 1) = insI p x l i ++ [l[i]] := by
  unfold insI
  rcases Nat.lt_or_ge (l.findIdx p) i with h1 | h1
  · rw [if_pos (by omega), if_pos h1, List.take_succ_eq_append_getElem hi, List.drop_append_of_le_length (by simp; omega)]
    simp
  · rw [if_neg (by omega), if_neg (by omega), List.take_succ_eq_append_getElem hi]
theorem insI_len : (insI p x l i).length ≤ l.length + 1 := by
  unfold insI
  split
  · simp; omega
  · simp; omega
theorem fidx_eq (hi : i < l.length) (h1 : p l[i] = true) (h2 : ¬ l.findIdx p < i) : l.findIdx p = i := by
  rcases Nat.lt_trichotomy (l.findIdx p) i with h | h | h
  · exact (h2 h).elim
  · exact h
  · have := List.not_of_lt_findIdx h
    rw [h1] at this; simp at this
theorem fidx_ne (hi : i < l.length) (h1 : p l[i] = false) : l.findIdx p ≠ i := fun e => by
  have h : l.findIdx p < l.length := by omega
  have h2 := List.findIdx_getElem (w := h)
  have h3 : l[l.findIdx p] = l[i] := by congr 1
  rw [h3, h1] at h2; cases h2
end
abbrev aft (k : ByteArray) (q : ByteArray × List Ver) : Bool := !(Op.bytesLess q.1.toList k.toList || q.1.toList == k.toList)
theorem aft_eq (k : ByteArray) (q : ByteArray × List Ver) : aft k q = Op.bytesLess k.toList q.1.toList := by
  unfold aft
  cases h : Op.bytesLess k.toList q.1.toList with
  | true =>
    have h1 : Op.bytesLess q.1.toList k.toList = false := by
      cases h2 : Op.bytesLess q.1.toList k.toList with
      | false => rfl
      | true => have := K.bl_trans _ _ _ h h2; rw [K.bl_irrefl] at this; cases this
    have h2 : (q.1.toList == k.toList) = false := by
      rw [beq_eq_false_iff_ne]
      intro e
      rw [e, K.bl_irrefl] at h; cases h
    rw [h1, h2]; rfl
  | false =>
    cases h2 : Op.bytesLess q.1.toList k.toList with
    | true => rfl
    | false => rw [K.bl_tri _ _ h2 h]; simp
theorem setC_ins : ∀ (cs : SC) (k : ByteArray) (l : List Ver), look cs k = none → setC cs k l = if cs.findIdx (aft k) < cs.length then insI (aft k) (k, l) cs cs.length else insI (aft k) (k, l) cs cs.length ++ [(k, l)] := by
  intro cs k l h
  have hm : ∀ (cs : SC), look cs k = none → setC cs k l = cs.take (cs.findIdx (aft k)) ++ (k, l) :: cs.drop (cs.findIdx (aft k)) := by
    intro cs
    induction cs with
    | nil => intro _; rfl
    | cons q r ih =>
      intro h
      rw [look_cons] at h
      have hne : q.1 ≠ k := fun e => by rw [if_pos e] at h; cases h
      rw [if_neg hne] at h
      rw [setC, if_neg hne, List.findIdx_cons]
      cases hb : Op.bytesLess k.toList q.1.toList with
      | true => rw [if_pos rfl, aft_eq, hb]; rfl
      | false => rw [if_neg (by decide), aft_eq, hb, ih h]; rfl
  rw [hm cs h]
  unfold insI
  have hle : cs.findIdx (aft k) ≤ cs.length := List.findIdx_le_length
  rcases Nat.lt_or_ge (cs.findIdx (aft k)) cs.length with h1 | h1
  · rw [if_pos h1, if_pos h1, List.take_length]
  · rw [if_neg (by omega), if_neg (by omega), show cs.findIdx (aft k) = cs.length from by omega]
    simp
theorem setC_old {cs : SC} (h : RiseC cs) {i : Nat} (hi : i < cs.length) (l : List Ver) : setC cs cs[i].1 l = cs.set i (cs[i].1, l) := by
  refine look_ext (rise_set cs _ l h) ?_ fun c => ?_
  · unfold RiseC
    rw [List.map_set]
    have : (cs.map (·.1)).set i cs[i].1 = cs.map (·.1) := by
      apply List.ext_getElem?
      intro j
      rw [List.getElem?_set]
      split
      · rename_i e; subst e; split
        · simp [hi]
        · rename_i h2; simp at h2; omega
      · rfl
    rw [this]; exact h
  · rw [look_set cs _ l c h]
    have hr2 : RiseC (cs.set i (cs[i].1, l)) := by
      unfold RiseC
      rw [List.map_set]
      have : (cs.map (·.1)).set i cs[i].1 = cs.map (·.1) := by
        apply List.ext_getElem?
        intro j
        rw [List.getElem?_set]
        split
        · rename_i e; subst e; split
          · simp [hi]
          · rename_i h2; simp at h2; omega
        · rfl
      rw [this]; exact h
    by_cases hc : c = cs[i].1
    · rw [if_pos hc, hc]
      have hm : (cs[i].1, l) ∈ cs.set i (cs[i].1, l) := List.mem_iff_getElem.2 ⟨i, by simpa using hi, by simp⟩
      exact (look_mem hr2 hm).symm
    · rw [if_neg hc]
      rcases rpos_look cs c with ⟨_, hn⟩ | ⟨j, hj, _, hjk, hs⟩
      · rw [hn]
        symm
        refine look_none fun q hq e => ?_
        obtain ⟨j, hj, hq2⟩ := List.mem_iff_getElem.1 hq
        rw [List.getElem_set] at hq2
        split at hq2
        · subst hq2; exact hc e.symm
        · have h5 := look_mem h (List.getElem_mem (by simpa using hj : j < cs.length))
          rw [hq2, e, hn] at h5
          cases h5
      · rw [hs]
        have hij : i ≠ j := fun e => by subst e; exact hc hjk.symm
        have hm : cs[j] ∈ cs.set i (cs[i].1, l) := List.mem_iff_getElem.2 ⟨j, by simpa using hj, by rw [List.getElem_set, if_neg hij]⟩
        have := look_mem hr2 hm
        rw [hjk] at this
        exact this.symm
end J
theorem rmove13_g (rs rs' : List Rng) (cs : SC) (hcl : cs.length ≤ 1000) (hrl : rs'.length ≤ 1000000) : GCall Tryz.prog 11 [.bx 1001 0 0, .d (rngA rs')] (RH rs cs 1002) (some (RH rs' (J.smove cs rs') 1003, .d (.tup []))) := by
  refine GCall_enterL (fun _ _ => by kernel_rfl) Tryz.func11 rfl Tryz.ntmps11 (ReadsS.r0 Tryz.results11) (Nat.le_of_ble_eq_true rfl) (fun hok hokB M0 w0 hl => ?_)
  refine Aw_seq ?_
  refine Aw_region ?_
  refine Al_pu (Pu_move (.inr rfl) (by conv => lhs; whnf)) rfl rfl (by decide) (by kernel_rfl) ?_
  refine Al_nil ?_
  refine Aw_seq ?_
  refine Aw_seq ?_
  refine Aw_region ?_
  refine Al_pu (Pu_move (.inr rfl) (by conv => lhs; whnf)) rfl rfl (by decide) (by kernel_rfl) ?_
  refine Al_nil ?_
  refine Aw_block ?_
  refine Aw_own (j := 4) (k := 4) (T := 75) (n := 2) rfl (fun g0 => ?_)
  refine Aw_loopk (ι := Nat × Nat) [0, 1] [1001, 1002] (fun (k, g) => [(5, .d (iv k)), (4, .ow 4 g)]) (fun (k, g) => [(4, g, .arr 75 2 (((cs.take k).filter fun p => decide (0 ≤ findR rs' p.1)).map chR))]) (fun (k, g) => k ≤ cs.length) (fun (k, g) => cs.length - k) ((0, g0)) (Nat.zero_le _) ⟨Sub.rfl, Sub.rfl, trivial⟩ ⟨rfl, trivial⟩ ?_
  rintro ⟨k, g⟩ hk0
  refine Aw_seq ?_
  refine Aw_seq ?_
  refine Aw_region ?_
  refine Al_pu (Pu_move (.inl rfl) (by conv => lhs; whnf)) rfl rfl (by decide) (by kernel_rfl) ?_
  refine Al_pu (Pu_move (.inl rfl) (by conv => lhs; whnf)) rfl rfl (by decide) (by kernel_rfl) ?_
  refine Al_pu (Pu_nilb rfl rfl) rfl rfl (by decide) (by kernel_rfl) ?_
  refine Al_pu (Pu_fieldb 1 rfl Tryz.underlying31 rfl rfl Tryz.sizeOf29 rfl) rfl rfl (by decide) (by kernel_rfl) ?_
  refine Al_pu (Pu_loadb rfl Tryz.isAgg29 rfl rfl rfl) rfl rfl (by decide) (by kernel_rfl) ?_
  refine Al_pu (Pu_lenOw rfl Tryz.underlying29 rfl rfl (List.length_map ..)) rfl rfl (by decide) (by kernel_rfl) ?_
  refine Al_pu (Pu_cmp rfl rfl rfl rfl) rfl rfl (by decide) (by kernel_rfl) ?_
  refine Al_nil ?_
  refine Aw_cond rfl (fun h12 => ?_) (fun h12 => ?_)
  · (try simp only [decide_eq_true_eq, decide_eq_false_iff_not, List.length_map] at h12)
    have hk : k < cs.length := by omega
    have hgd : cs.getD k default = cs[k] := by simp [hk]
    have hfl : ((cs.take k).filter fun p => decide (0 ≤ findR rs' p.1)).length ≤ 1000 := Nat.le_trans (List.length_filter_le ..) (by simp; omega)
    refine Aw_skip ?_
    -- join 0: live [0, 1, 4, 5], turned [4]
    refine Aw_seq ?_
    refine Aw_block ?_
    refine Aw_seq ?_
    refine Aw_region ?_
    refine Al_pu (Pu_move (.inl rfl) (by conv => lhs; whnf)) rfl rfl (by decide) (by kernel_rfl) ?_
    refine Al_pu (Pu_move (.inl rfl) (by conv => lhs; whnf)) rfl rfl (by decide) (by kernel_rfl) ?_
    refine Al_pu (Pu_nilb rfl rfl) rfl rfl (by decide) (by kernel_rfl) ?_
    refine Al_pu (Pu_fieldb 1 rfl Tryz.underlying31 rfl rfl Tryz.sizeOf29 rfl) rfl rfl (by decide) (by kernel_rfl) ?_
    refine Al_pu (Pu_loadb rfl Tryz.isAgg29 rfl rfl rfl) rfl rfl (by decide) (by kernel_rfl) ?_
    refine Al_pu (Pu_move (.inl rfl) (by conv => lhs; whnf)) rfl rfl (by decide) (by kernel_rfl) ?_
    refine Al_pu (Pu_indexOw (j := k) rfl Tryz.underlying29 Tryz.sizeOf75 rfl rfl rfl rfl (by rw [List.length_map]; omega)) rfl rfl (by decide) (by kernel_rfl) ?_
    refine Al_pu (Pu_fieldb 0 rfl Tryz.underlying75 rfl rfl Tryz.sizeOf9 rfl) rfl rfl (by decide) (by kernel_rfl) ?_
    refine Al_pu (Pu_loadArr rfl Tryz.isAgg9 rfl rfl (J.chKey (cs := cs) hk)) rfl rfl (by decide) (by kernel_rfl) ?_
    refine Al_pu (Pu_call (rfind_a rs' (cs.getD k default).1 hrl) rfl ⟨Sub.rfl, Sub.rfl, trivial⟩) rfl rfl (by decide) (by kernel_rfl) ?_
    refine Al_pu (Pu_cmp rfl rfl rfl rfl) rfl rfl (by decide) (by kernel_rfl) ?_
    refine Al_nil ?_
    refine Aw_cond rfl (fun h25 => ?_) (fun h25 => ?_)
    · (try simp only [decide_eq_true_eq, decide_eq_false_iff_not, List.length_map] at h25)
      refine Aw_region ?_
      refine Al_pu (Pu_move (.inl rfl) (by conv => lhs; whnf)) rfl rfl (by decide) (by kernel_rfl) ?_
      refine Al_pu (Pu_move (.inl rfl) (by conv => lhs; whnf)) rfl rfl (by decide) (by kernel_rfl) ?_
      refine Al_pu (Pu_nilb rfl rfl) rfl rfl (by decide) (by kernel_rfl) ?_
      refine Al_pu (Pu_fieldb 1 rfl Tryz.underlying31 rfl rfl Tryz.sizeOf29 rfl) rfl rfl (by decide) (by kernel_rfl) ?_
      refine Al_pu (Pu_loadb rfl Tryz.isAgg29 rfl rfl rfl) rfl rfl (by decide) (by kernel_rfl) ?_
      refine Al_pu (Pu_move (.inl rfl) (by conv => lhs; whnf)) rfl rfl (by decide) (by kernel_rfl) ?_
      refine Al_pu (Pu_indexOw (j := k) rfl Tryz.underlying29 Tryz.sizeOf75 rfl rfl rfl rfl (by rw [List.length_map]; omega)) rfl rfl (by decide) (by kernel_rfl) ?_
      refine Al_pu (Pu_loadArrN rfl Tryz.isAgg75 Tryz.sizeOf75 rfl rfl (J.chAll (cs := cs) hk) rfl) rfl rfl (by decide) (by kernel_rfl) ?_
      refine Al_pu (Pu_slice1 rfl Tryz.underlying29 Tryz.sizeOf75 Tryz.zeroValue75 rfl (by decide) (by decide) (by kernel_rfl) rfl rfl rfl) rfl rfl (by decide) (by kernel_rfl) ?_
      refine Al_append rfl rfl rfl (by decide) (by kernel_rfl) elem29 (by decide) Tryz.sizeOf75 rfl rfl rfl (by simp only [List.length_map, List.length_cons, List.length_nil]; omega) (by decide) (fun g35 => ?_)
      refine Al_pu (Pu_move (.inr rfl) (by conv => lhs; whnf)) rfl rfl (by decide) (by kernel_rfl) ?_
      refine Al_nil ?_
      refine Aw_region ?_
      refine Al_pu (Pu_move (.inl rfl) (by conv => lhs; whnf)) rfl rfl (by decide) (by kernel_rfl) ?_
      refine Al_pu (Pu_add rfl rfl rfl (fun h1 h2 => by simp only [A.inI, A.maxI] at *; omega)) rfl rfl (by decide) (by kernel_rfl) ?_
      refine Al_pu (Pu_move (.inr rfl) (by conv => lhs; whnf)) rfl rfl (by decide) (by kernel_rfl) ?_
      refine Al_nil ?_
      exact ⟨(k + 1, g35), by omega, by simp only []; omega, Le.ov ⟨Sub.num (by omega), Sub.rfl, trivial⟩ ⟨Sub.rfl, Sub.rfl, trivial⟩ ⟨obeq (by rw [List.take_succ_eq_append_getElem hk, List.filter_append, List.filter_cons, if_pos (by rw [← hgd]; simpa using h25), List.filter_nil, List.map_append, ← hgd]; rfl), trivial⟩ ⟨rfl, rfl, trivial⟩⟩ -- loop 0 next.0
    · (try simp only [decide_eq_true_eq, decide_eq_false_iff_not, List.length_map] at h25)
      refine Aw_skip ?_
      refine Aw_region ?_
      refine Al_pu (Pu_move (.inl rfl) (by conv => lhs; whnf)) rfl rfl (by decide) (by kernel_rfl) ?_
      refine Al_pu (Pu_add rfl rfl rfl (fun h1 h2 => by simp only [A.inI, A.maxI] at *; omega)) rfl rfl (by decide) (by kernel_rfl) ?_
      refine Al_pu (Pu_move (.inr rfl) (by conv => lhs; whnf)) rfl rfl (by decide) (by kernel_rfl) ?_
      refine Al_nil ?_
      exact ⟨(k + 1, g), by omega, by simp only []; omega, Le.ov ⟨Sub.num (by omega), Sub.rfl, trivial⟩ ⟨Sub.rfl, Sub.rfl, trivial⟩ ⟨obeq (by rw [List.take_succ_eq_append_getElem hk, List.filter_append, List.filter_cons, if_neg (by rw [← hgd]; intro h; have := of_decide_eq_true h; omega), List.filter_nil, List.append_nil]), trivial⟩ ⟨rfl, rfl, trivial⟩⟩ -- loop 0 next.1
  · (try simp only [decide_eq_true_eq, decide_eq_false_iff_not, List.length_map] at h12)
    have hkn : k = cs.length := by omega
    refine Aw_exit ?_
    refine Aw_seq ?_
    refine Aw_region ?_
    refine Al_pu (Pu_move (.inl rfl) (by conv => lhs; whnf)) rfl rfl (by decide) (by kernel_rfl) ?_
    refine Al_pu (Pu_move (.inl rfl) (by conv => lhs; whnf)) rfl rfl (by decide) (by kernel_rfl) ?_
    refine Al_pu (Pu_nilb rfl rfl) rfl rfl (by decide) (by kernel_rfl) ?_
    refine Al_pu (Pu_fieldb 0 rfl Tryz.underlying31 rfl rfl Tryz.sizeOf26 rfl) rfl rfl (by decide) (by kernel_rfl) ?_
    refine Al_store1 rfl rfl rfl (by kernel_rfl) Tryz.isAgg26 Tryz.sizeOf26 rfl rfl (Nat.le_of_ble_eq_true rfl) (by conv => lhs; whnf) rfl ?_
    refine Al_nil ?_
    refine Aw_region ?_
    refine Al_pu (Pu_move (.inl rfl) (by conv => lhs; whnf)) rfl rfl (by decide) (by kernel_rfl) ?_
    refine Al_pu (Pu_move (.inl rfl) (by conv => lhs; whnf)) rfl rfl (by decide) (by kernel_rfl) ?_
    refine Al_pu (Pu_nilb rfl rfl) rfl rfl (by decide) (by kernel_rfl) ?_
    refine Al_pu (Pu_fieldb 1 rfl Tryz.underlying31 rfl rfl Tryz.sizeOf29 rfl) rfl rfl (by decide) (by kernel_rfl) ?_
    refine Al_store1 rfl rfl rfl (by kernel_rfl) Tryz.isAgg29 Tryz.sizeOf29 rfl rfl (Nat.le_of_ble_eq_true rfl) (by conv => lhs; whnf) rfl ?_
    refine Al_nil ?_
    exact ⟨_, _, [(1003, 4, g)], rfl, rfl, ⟨rfl, obeq (by rw [hkn, List.take_length]; rfl), trivial⟩, rfl⟩ -- ret 0
theorem rput13_g (rs : List Rng) (cs : SC) (v : Ver) (hrl : rs.length ≤ 1000000) (hr : J.RiseC cs) (hs : J.Sm 1000 cs) (hch : J.Chns cs) : GCall Tryz.prog 17 [.bx 1001 0 0, .d (.row v.row)] (RH rs cs 1002) (some (RH rs (J.sput rs cs v).1 1003, .d (bv (J.sput rs cs v).2))) := by
  refine GCall_enterL (fun _ _ => by kernel_rfl) Tryz.func17 rfl Tryz.ntmps17 (ReadsS.r1 Tryz.results17) (Nat.le_of_ble_eq_true rfl) (fun hok hokB M0 w0 hl => ?_)
  have hcl := hs.1
  have hfi := rfind_a rs v.key hrl
  have hpu := rput12_a (J.getC cs v.key) v (hch.get v.key) (Nat.le_trans (hs.get v.key) (by decide))
  refine Aw_seq ?_
  refine Aw_region ?_
  refine Al_pu (Pu_boxN rfl rfl) rfl rfl (by decide) (by kernel_rfl) ?_
  refine Al_pu (Pu_move (.inr rfl) (by conv => lhs; whnf)) rfl rfl (by decide) (by kernel_rfl) ?_
  refine Al_nil ?_
  refine Aw_seq ?_
  refine Aw_seq ?_
  refine Aw_draw 8 (by kernel_rfl) (by kernel_rfl) ?_
  refine Dr_pu (Pu_move (.inl rfl) (by conv => lhs; whnf)) rfl rfl ?_
  refine Dr_pu (Pu_nilb rfl rfl) rfl rfl ?_
  refine Dr_pu (Pu_fieldb 0 rfl Tryz.underlying31 rfl rfl Tryz.sizeOf26 rfl) rfl rfl ?_
  refine Dr_pu (Pu_loadb rfl Tryz.isAgg26 rfl rfl rfl) rfl rfl ?_
  refine Dr_pu (Pu_field 0 rfl Tryz.underlying36 rfl rfl Tryz.sizeOf9 rfl) rfl rfl ?_
  refine Dr_pu (Pu_load1 rfl Tryz.isAgg9 rfl rfl) rfl rfl ?_
  refine Dr_pu (Pu_call (hfi) rfl ⟨Sub.rfl, Sub.rfl, trivial⟩) rfl rfl ?_
  refine Dr_pu (Pu_cmp rfl rfl rfl rfl) rfl rfl ?_
  refine Dr_nil ?_
  refine Al_nil ?_
  refine Aw_cond rfl (fun h18 => ?_) (fun h18 => ?_)
  · (try simp only [decide_eq_true_eq, decide_eq_false_iff_not, List.length_map] at h18)
    have hno : J.sput rs cs v = (cs, false) := by
      unfold J.sput
      rw [if_pos h18]
    refine Aw_seq ?_
    refine Aw_region ?_
    refine Al_pu (Pu_move (.inr rfl) (by conv => lhs; whnf)) rfl rfl (by decide) (by kernel_rfl) ?_
    refine Al_nil ?_
    refine Aw_ret ?_
    exact ⟨_, _, [(1003, 1002, 0)], rfl, Sub.bool (by rw [hno]), ⟨rfl, obeq (by rw [hno]), trivial⟩, rfl⟩ -- ret 0
  · (try simp only [decide_eq_true_eq, decide_eq_false_iff_not, List.length_map] at h18)
    have hfn : ¬ findR rs v.key < 0 := by omega
    refine Aw_skip ?_
    -- join 0: live [0, 3, 5, 6], turned [5, 6]
    refine Aw_seq ?_
    refine Aw_drawn (by kernel_rfl) ?_
    refine Ad_take 0 rfl (PuI_move (.inl rfl) (by conv => lhs; whnf)) rfl rfl (by decide) (by kernel_rfl) (by kernel_rfl) (by kernel_rfl) (by kernel_rfl) (fun _ _ h => h) ?_
    refine Ad_two 1 4 rfl rfl (by kernel_rfl) ?_ ?_
    · refine Al_pu (Pu_field 0 rfl Tryz.underlying36 rfl rfl Tryz.sizeOf9 rfl) rfl rfl (by decide) (by kernel_rfl) ?_
      refine Al_nil ?_
      refine Ad_two 2 4 rfl rfl (by kernel_rfl) ?_ ?_
      · refine Al_pu (Pu_load1 rfl Tryz.isAgg9 rfl rfl) rfl rfl (by decide) (by kernel_rfl) ?_
        refine Al_nil ?_
        refine Ad_two 3 4 rfl rfl (by kernel_rfl) ?_ ?_
        · refine Al_gcall [(1001, 1001, 0), (1002, 1002, 0)] [] (rof13_g rs cs v.key hcl) rfl rfl rfl (by decide) (by kernel_rfl) ⟨rfl, rfl, trivial⟩ rfl ⟨Sub.rfl, Sub.rfl, trivial⟩ (fun g23 => ?_)
          refine Al_nil ?_
          refine Ad_drawP 4 7 4 (by kernel_rfl) (by decide) rfl (by rfl) (by rfl) ?_
          refine Dr_pu (Pu_loadN rfl Tryz.isAgg36 Tryz.sizeOf36 rfl (Nat.le_of_ble_eq_true rfl)) rfl rfl ?_
          refine Dr_pu (Pu_call (hpu) rfl ⟨Sub.rfl, Sub.rfl, trivial⟩) rfl rfl ?_
          refine Dr_pu (Pu_move (.inl rfl) (by conv => lhs; whnf)) rfl rfl ?_
          refine Dr_nil ?_
          refine Ad_take 7 rfl (PuI_extract rfl rfl rfl) rfl rfl (by decide) (by kernel_rfl) (by kernel_rfl) (by kernel_rfl) (by kernel_rfl) (fun _ _ h => h) ?_
          refine Ad_take 8 rfl (PuI_extract rfl rfl rfl) rfl rfl (by decide) (by kernel_rfl) (by kernel_rfl) (by kernel_rfl) (by kernel_rfl) (fun _ _ h => h) ?_
          refine Ad_take 9 rfl (PuI_move (.inr rfl) (by conv => lhs; whnf)) rfl rfl (by decide) (by kernel_rfl) (by kernel_rfl) (by kernel_rfl) (by kernel_rfl) (fun _ _ h => h) ?_
          refine Ad_take 10 rfl (PuI_move (.inr rfl) (by conv => lhs; whnf)) rfl rfl (by decide) (by kernel_rfl) (by kernel_rfl) (by kernel_rfl) (by kernel_rfl) (fun _ _ h => h) ?_
          refine Ad_done (by kernel_rfl) ?_
          refine Aw_seq ?_
          refine Aw_seq ?_
          refine Aw_region ?_
          refine Al_pu (Pu_move (.inl rfl) (by conv => lhs; whnf)) rfl rfl (by decide) (by kernel_rfl) ?_
          refine Al_pu (Pu_not rfl rfl) rfl rfl (by decide) (by kernel_rfl) ?_
          refine Al_nil ?_
          refine Aw_cond rfl (fun h29 => ?_) (fun h29 => ?_)
          · skip
            have hyes : J.sput rs cs v = (cs, false) := by
              unfold J.sput
              rw [if_neg hfn]
              cases hp : J.put (J.getC cs v.key) v with
              | none => rfl
              | some l => rw [hp] at h29; cases h29
            refine Aw_seq ?_
            refine Aw_region ?_
            refine Al_pu (Pu_move (.inr rfl) (by conv => lhs; whnf)) rfl rfl (by decide) (by kernel_rfl) ?_
            refine Al_nil ?_
            refine Aw_ret ?_
            exact ⟨_, _, [(1003, 1002, 0)], rfl, Sub.bool (by rw [hyes]), ⟨rfl, obeq (by rw [hyes]), trivial⟩, rfl⟩ -- ret 1
          · skip
            obtain ⟨m, hm⟩ : ∃ m, J.put (J.getC cs v.key) v = some m := by
              cases hp : J.put (J.getC cs v.key) v with
              | none => rw [hp] at h29; cases h29
              | some l => exact ⟨l, rfl⟩
            have hyes : J.sput rs cs v = (J.setC cs v.key m, true) := by
              unfold J.sput
              rw [if_neg hfn, hm]
            have hgm : (J.put (J.getC cs v.key) v).getD (J.getC cs v.key) = m := by rw [hm]; rfl
            refine Aw_skip ?_
            refine Aw_seq ?_
            refine Aw_region ?_
            refine Al_pu (Pu_move (.inl rfl) (by conv => lhs; whnf)) rfl rfl (by decide) (by kernel_rfl) ?_
            refine Al_pu (Pu_field 0 rfl Tryz.underlying36 rfl rfl Tryz.sizeOf9 rfl) rfl rfl (by decide) (by kernel_rfl) ?_
            refine Al_pu (Pu_load1 rfl Tryz.isAgg9 rfl rfl) rfl rfl (by decide) (by kernel_rfl) ?_
            refine Al_gcall [(1001, 1001, 0), (1002, 1002, 0)] [] (rpos13_g rs cs v.key hcl) rfl rfl rfl (by decide) (by kernel_rfl) ⟨rfl, rfl, trivial⟩ rfl ⟨Sub.rfl, Sub.rfl, trivial⟩ (fun g33 => ?_)
            refine Al_pu (Pu_move (.inr rfl) (by conv => lhs; whnf)) rfl rfl (by decide) (by kernel_rfl) ?_
            refine Al_nil ?_
            refine Aw_seq ?_
            refine Aw_seq ?_
            refine Aw_region ?_
            refine Al_pu (Pu_move (.inl rfl) (by conv => lhs; whnf)) rfl rfl (by decide) (by kernel_rfl) ?_
            refine Al_pu (Pu_cmp rfl rfl rfl rfl) rfl rfl (by decide) (by kernel_rfl) ?_
            refine Al_nil ?_
            refine Aw_cond rfl (fun h35 => ?_) (fun h35 => ?_)
            · (try simp only [decide_eq_true_eq, decide_eq_false_iff_not, List.length_map] at h35)
              obtain ⟨i, hi, hp, hk, hlk⟩ : ∃ i, ∃ hi : i < cs.length, J.rpos cs v.key = (i : Int) ∧ cs[i].1 = v.key ∧ J.look cs v.key = some cs[i].2 := by
                rcases J.rpos_look cs v.key with ⟨h, _⟩ | h
                · omega
                · exact h
              have hgd : cs.getD i default = cs[i] := by simp [hi]
              have hset : J.setC cs v.key m = cs.set i ((cs.getD i default).1, m) := by rw [← hk, J.setC_old hr hi, hgd]
              refine Aw_seq ?_
              refine Aw_region ?_
              refine Al_pu (Pu_move (.inl rfl) (by conv => lhs; whnf)) rfl rfl (by decide) (by kernel_rfl) ?_
              refine Al_pu (Pu_nilb rfl rfl) rfl rfl (by decide) (by kernel_rfl) ?_
              refine Al_pu (Pu_fieldb 1 rfl Tryz.underlying31 rfl rfl Tryz.sizeOf29 rfl) rfl rfl (by decide) (by kernel_rfl) ?_
              refine Al_pu (Pu_loadb rfl Tryz.isAgg29 rfl rfl rfl) rfl rfl (by decide) (by kernel_rfl) ?_
              refine Al_pu (Pu_move (.inl rfl) (by conv => lhs; whnf)) rfl rfl (by decide) (by kernel_rfl) ?_
              refine Al_pu (Pu_move (.inl rfl) (by conv => lhs; whnf)) rfl rfl (by decide) (by kernel_rfl) ?_
              refine Al_pu (Pu_indexOw (j := i) rfl Tryz.underlying29 Tryz.sizeOf75 rfl rfl rfl hp (by rw [List.length_map]; omega)) rfl rfl (by decide) (by kernel_rfl) ?_
              refine Al_pu (Pu_fieldb 1 rfl Tryz.underlying75 rfl rfl Tryz.sizeOf47 rfl) rfl rfl (by decide) (by kernel_rfl) ?_
              refine Al_storeArr ((cs.set i ((cs.getD i default).1, (J.put (J.getC cs v.key) v).getD (J.getC cs v.key))).map chR) rfl rfl rfl (by kernel_rfl) Tryz.sizeOf47 rfl rfl rfl rfl rfl (by rw [List.length_map]; omega) (by simp) (J.ch_un _) (J.ch_set hi _) ?_
              refine Al_nil ?_
              refine Aw_seq ?_
              refine Aw_region ?_
              refine Al_pu (Pu_move (.inr rfl) (by conv => lhs; whnf)) rfl rfl (by decide) (by kernel_rfl) ?_
              refine Al_nil ?_
              refine Aw_ret ?_
              exact ⟨_, _, [(1003, 1002, 0)], rfl, Sub.bool (by rw [hyes]), ⟨rfl, obeq (by rw [hyes, hset, hgm]), trivial⟩, rfl⟩ -- ret 2
            · (try simp only [decide_eq_true_eq, decide_eq_false_iff_not, List.length_map] at h35)
              have hlk : J.look cs v.key = none := by
                rcases J.rpos_look cs v.key with ⟨_, h⟩ | ⟨i, _, h, _⟩
                · exact h
                · omega
              have hset := J.setC_ins cs v.key m hlk
              refine Aw_skip ?_
              refine Aw_seq ?_
              refine Aw_region ?_
              refine Al_pu (Pu_move (.inr rfl) (by conv => lhs; whnf)) rfl rfl (by decide) (by kernel_rfl) ?_
              refine Al_nil ?_
              refine Aw_seq ?_
              refine Aw_region ?_
              refine Al_pu (Pu_move (.inr rfl) (by conv => lhs; whnf)) rfl rfl (by decide) (by kernel_rfl) ?_
              refine Al_nil ?_
              refine Aw_seq ?_
              refine Aw_seq ?_
              refine Aw_region ?_
              refine Al_pu (Pu_move (.inr rfl) (by conv => lhs; whnf)) rfl rfl (by decide) (by kernel_rfl) ?_
              refine Al_nil ?_
              refine Aw_block ?_
              refine Aw_own (j := 8) (k := 8) (T := 75) (n := 2) rfl (fun g0 => ?_)
              refine Aw_loopk (ι := Nat × Nat) [0, 3, 5] [1001, 1002] (fun (k, g) => [(10, .d (iv k)), (8, .ow 8 g), (9, .d (bv (decide (cs.findIdx (J.aft v.key) < k))))]) (fun (k, g) => [(8, g, .arr 75 2 ((J.insI (J.aft v.key) (v.key, m) cs k).map chR))]) (fun (k, g) => k ≤ cs.length) (fun (k, g) => cs.length - k) ((0, g0)) (Nat.zero_le _) ⟨Sub.rfl, Sub.rfl, Sub.bool (by simp), trivial⟩ ⟨obeq (by rw [J.insI_zero]; rfl), trivial⟩ ?_
              rintro ⟨k, g⟩ hk0
              refine Aw_seq ?_
              refine Aw_seq ?_
              refine Aw_region ?_
              refine Al_pu (Pu_move (.inl rfl) (by conv => lhs; whnf)) rfl rfl (by decide) (by kernel_rfl) ?_
              refine Al_pu (Pu_move (.inl rfl) (by conv => lhs; whnf)) rfl rfl (by decide) (by kernel_rfl) ?_
              refine Al_pu (Pu_nilb rfl rfl) rfl rfl (by decide) (by kernel_rfl) ?_
              refine Al_pu (Pu_fieldb 1 rfl Tryz.underlying31 rfl rfl Tryz.sizeOf29 rfl) rfl rfl (by decide) (by kernel_rfl) ?_
              refine Al_pu (Pu_loadb rfl Tryz.isAgg29 rfl rfl rfl) rfl rfl (by decide) (by kernel_rfl) ?_
              refine Al_pu (Pu_lenOw rfl Tryz.underlying29 rfl rfl (List.length_map ..)) rfl rfl (by decide) (by kernel_rfl) ?_
              refine Al_pu (Pu_cmp rfl rfl rfl rfl) rfl rfl (by decide) (by kernel_rfl) ?_
              refine Al_nil ?_
              refine Aw_cond rfl (fun h50 => ?_) (fun h50 => ?_)
              · (try simp only [decide_eq_true_eq, decide_eq_false_iff_not, List.length_map] at h50)
                have hk : k < cs.length := by omega
                have hgd : cs.getD k default = cs[k] := by simp [hk]
                have hol : (J.insI (J.aft v.key) (v.key, m) cs k).length ≤ cs.length + 1 := J.insI_len
                refine Aw_skip ?_
                -- join 1: live [0, 3, 5, 8, 9, 10], turned [8, 9]
                refine Aw_seq ?_
                refine Aw_block ?_
                -- join 2: live [0, 3, 5, 8, 9, 10], turned [8, 9]
                refine Aw_seq ?_
                refine Aw_seq ?_
                refine Aw_draw 15 (by kernel_rfl) (by kernel_rfl) ?_
                refine Dr_pu (Pu_move (.inl rfl) (by conv => lhs; whnf)) rfl rfl ?_
                refine Dr_pu (Pu_not rfl rfl) rfl rfl ?_
                refine Dr_pu (Pu_move (.inl rfl) (by conv => lhs; whnf)) rfl rfl ?_
                refine Dr_st (St_gd [] rfl rfl rfl rfl trivial (fun hg56 => by exact Pu_move (.inl rfl) (by conv => lhs; whnf))) rfl ?_
                refine Dr_st (St_gd [56] rfl rfl rfl rfl ⟨⟨_, rfl⟩, trivial⟩ (fun hg57 => Pu_nilb rfl rfl)) rfl ?_
                refine Dr_st (St_gd [57] rfl rfl rfl rfl ⟨⟨_, rfl⟩, trivial⟩ (fun hg58 => Pu_fieldb 1 rfl Tryz.underlying31 rfl rfl Tryz.sizeOf29 rfl)) rfl ?_
                refine Dr_st (St_gd [58] rfl rfl rfl rfl ⟨⟨_, rfl⟩, trivial⟩ (fun hg59 => Pu_loadb rfl Tryz.isAgg29 rfl rfl rfl)) rfl ?_
                refine Dr_st (St_gd [] rfl rfl rfl rfl trivial (fun hg60 => by exact Pu_move (.inl rfl) (by conv => lhs; whnf))) rfl ?_
                refine Dr_st (St_gd [59, 60] rfl rfl rfl rfl ⟨⟨_, rfl⟩, ⟨_, rfl⟩, trivial⟩ (fun hg61 => by exact Pu_indexOw (j := k) rfl Tryz.underlying29 Tryz.sizeOf75 rfl rfl rfl rfl (by rw [List.length_map]; exact hk))) rfl ?_
                refine Dr_st (St_gd [61] rfl rfl rfl rfl ⟨⟨_, rfl⟩, trivial⟩ (fun hg62 => Pu_fieldb 0 rfl Tryz.underlying75 rfl rfl Tryz.sizeOf9 rfl)) rfl ?_
                refine Dr_st (St_gd [62] rfl rfl rfl rfl ⟨⟨_, rfl⟩, trivial⟩ (fun hg63 => Pu_loadArr rfl Tryz.isAgg9 rfl rfl (J.chKey (cs := cs) hk))) rfl ?_
                refine Dr_st (St_gd [] rfl rfl rfl rfl trivial (fun hg64 => Pu_field 0 rfl Tryz.underlying36 rfl rfl Tryz.sizeOf9 rfl)) rfl ?_
                refine Dr_st (St_gd [64] rfl rfl rfl rfl ⟨⟨_, rfl⟩, trivial⟩ (fun hg65 => Pu_load1 rfl Tryz.isAgg9 rfl rfl)) rfl ?_
                refine Dr_st (St_gd [63, 65] rfl rfl rfl rfl ⟨⟨_, rfl⟩, ⟨_, rfl⟩, trivial⟩ (fun hg66 => Pu_str rfl rfl rfl rfl)) rfl ?_
                refine Dr_pu (Pu_and rfl rfl rfl rfl) rfl rfl ?_
                refine Dr_nil ?_
                refine Al_nil ?_
                refine Aw_cond rfl (fun h67 => ?_) (fun h67 => ?_)
                · skip
                  have hfk : cs.findIdx (J.aft v.key) = k := by
                    simp only [Bool.and_eq_true, Bool.not_eq_true', decide_eq_false_iff_not] at h67
                    exact J.fidx_eq hk (by rw [← hgd]; show (!_) = true; rw [h67.2]; rfl) h67.1
                  have hst := J.insI_at (p := J.aft v.key) (x := (v.key, m)) hk hfk
                  refine Aw_seq ?_
                  refine Aw_region ?_
                  refine Al_pu (Pu_move (.inl rfl) (by conv => lhs; whnf)) rfl rfl (by decide) (by kernel_rfl) ?_
                  refine Al_pu (Pu_field 0 rfl Tryz.underlying36 rfl rfl Tryz.sizeOf9 rfl) rfl rfl (by decide) (by kernel_rfl) ?_
                  refine Al_pu (Pu_load1 rfl Tryz.isAgg9 rfl rfl) rfl rfl (by decide) (by kernel_rfl) ?_
                  refine Al_pu (Pu_move (.inl rfl) (by conv => lhs; whnf)) rfl rfl (by decide) (by kernel_rfl) ?_
                  refine Al_pu (Pu_build (aa := [(0, _), (1, _)]) rfl Tryz.underlying75 Tryz.zeroValue75 (places75 Tryz.underlying75) (by kernel_rfl) ⟨rfl, rfl, rfl, rfl, rfl, rfl, trivial⟩ rfl) rfl rfl (by decide) (by kernel_rfl) ?_
                  refine Al_pu (Pu_slice1 rfl Tryz.underlying29 Tryz.sizeOf75 Tryz.zeroValue75 rfl (by decide) (by decide) (by kernel_rfl) rfl rfl rfl) rfl rfl (by decide) (by kernel_rfl) ?_
                  refine Al_append rfl rfl rfl (by decide) (by kernel_rfl) elem29 (by decide) Tryz.sizeOf75 rfl rfl rfl (by simp only [List.length_map, List.length_cons, List.length_nil]; omega) (by decide) (fun g74 => ?_)
                  refine Al_pu (Pu_move (.inr rfl) (by conv => lhs; whnf)) rfl rfl (by decide) (by kernel_rfl) ?_
                  refine Al_nil ?_
                  refine Aw_region ?_
                  refine Al_pu (Pu_move (.inr rfl) (by conv => lhs; whnf)) rfl rfl (by decide) (by kernel_rfl) ?_
                  refine Al_nil ?_
                  refine Aw_region ?_
                  refine Al_pu (Pu_move (.inl rfl) (by conv => lhs; whnf)) rfl rfl (by decide) (by kernel_rfl) ?_
                  refine Al_pu (Pu_move (.inl rfl) (by conv => lhs; whnf)) rfl rfl (by decide) (by kernel_rfl) ?_
                  refine Al_pu (Pu_nilb rfl rfl) rfl rfl (by decide) (by kernel_rfl) ?_
                  refine Al_pu (Pu_fieldb 1 rfl Tryz.underlying31 rfl rfl Tryz.sizeOf29 rfl) rfl rfl (by decide) (by kernel_rfl) ?_
                  refine Al_pu (Pu_loadb rfl Tryz.isAgg29 rfl rfl rfl) rfl rfl (by decide) (by kernel_rfl) ?_
                  refine Al_pu (Pu_move (.inl rfl) (by conv => lhs; whnf)) rfl rfl (by decide) (by kernel_rfl) ?_
                  refine Al_pu (Pu_indexOw (j := k) rfl Tryz.underlying29 Tryz.sizeOf75 rfl rfl rfl rfl (by rw [List.length_map]; omega)) rfl rfl (by decide) (by kernel_rfl) ?_
                  refine Al_pu (Pu_loadArrN rfl Tryz.isAgg75 Tryz.sizeOf75 rfl rfl (J.chAll (cs := cs) hk) rfl) rfl rfl (by decide) (by kernel_rfl) ?_
                  refine Al_pu (Pu_slice1 rfl Tryz.underlying29 Tryz.sizeOf75 Tryz.zeroValue75 rfl (by decide) (by decide) (by kernel_rfl) rfl rfl rfl) rfl rfl (by decide) (by kernel_rfl) ?_
                  refine Al_append rfl rfl rfl (by decide) (by kernel_rfl) elem29 (by decide) Tryz.sizeOf75 rfl rfl rfl (by simp only [List.length_map, List.length_cons, List.length_nil, List.length_append]; omega) (by decide) (fun g84 => ?_)
                  refine Al_pu (Pu_move (.inr rfl) (by conv => lhs; whnf)) rfl rfl (by decide) (by kernel_rfl) ?_
                  refine Al_nil ?_
                  refine Aw_region ?_
                  refine Al_pu (Pu_move (.inl rfl) (by conv => lhs; whnf)) rfl rfl (by decide) (by kernel_rfl) ?_
                  refine Al_pu (Pu_add rfl rfl rfl (fun h1 h2 => by simp only [A.inI, A.maxI] at *; omega)) rfl rfl (by decide) (by kernel_rfl) ?_
                  refine Al_pu (Pu_move (.inr rfl) (by conv => lhs; whnf)) rfl rfl (by decide) (by kernel_rfl) ?_
                  refine Al_nil ?_
                  exact ⟨(k + 1, g84), by omega, by simp only []; omega, Le.ov ⟨Sub.num (by omega), Sub.rfl, Sub.bool (by simp; omega), trivial⟩ ⟨Sub.rfl, Sub.rfl, Sub.rfl, trivial⟩ ⟨obeq (by rw [hst, List.map_append, List.map_append, ← hgd, ← hgm]; rfl), trivial⟩ ⟨rfl, rfl, trivial⟩⟩ -- loop 0 next.0
                · skip
                  have hfk : cs.findIdx (J.aft v.key) ≠ k := fun e => by
                    rw [e] at h67
                    simp only [Nat.lt_irrefl, decide_false, Bool.not_false, Bool.true_and] at h67
                    exact J.fidx_ne hk (by rw [← hgd]; exact h67) e
                  have hst := J.insI_ne (p := J.aft v.key) (x := (v.key, m)) hk hfk
                  refine Aw_skip ?_
                  refine Aw_region ?_
                  refine Al_pu (Pu_move (.inl rfl) (by conv => lhs; whnf)) rfl rfl (by decide) (by kernel_rfl) ?_
                  refine Al_pu (Pu_move (.inl rfl) (by conv => lhs; whnf)) rfl rfl (by decide) (by kernel_rfl) ?_
                  refine Al_pu (Pu_nilb rfl rfl) rfl rfl (by decide) (by kernel_rfl) ?_
                  refine Al_pu (Pu_fieldb 1 rfl Tryz.underlying31 rfl rfl Tryz.sizeOf29 rfl) rfl rfl (by decide) (by kernel_rfl) ?_
                  refine Al_pu (Pu_loadb rfl Tryz.isAgg29 rfl rfl rfl) rfl rfl (by decide) (by kernel_rfl) ?_
                  refine Al_pu (Pu_move (.inl rfl) (by conv => lhs; whnf)) rfl rfl (by decide) (by kernel_rfl) ?_
                  refine Al_pu (Pu_indexOw (j := k) rfl Tryz.underlying29 Tryz.sizeOf75 rfl rfl rfl rfl (by rw [List.length_map]; omega)) rfl rfl (by decide) (by kernel_rfl) ?_
                  refine Al_pu (Pu_loadArrN rfl Tryz.isAgg75 Tryz.sizeOf75 rfl rfl (J.chAll (cs := cs) hk) rfl) rfl rfl (by decide) (by kernel_rfl) ?_
                  refine Al_pu (Pu_slice1 rfl Tryz.underlying29 Tryz.sizeOf75 Tryz.zeroValue75 rfl (by decide) (by decide) (by kernel_rfl) rfl rfl rfl) rfl rfl (by decide) (by kernel_rfl) ?_
                  refine Al_append rfl rfl rfl (by decide) (by kernel_rfl) elem29 (by decide) Tryz.sizeOf75 rfl rfl rfl (by simp only [List.length_map, List.length_cons, List.length_nil, List.length_append]; omega) (by decide) (fun g84 => ?_)
                  refine Al_pu (Pu_move (.inr rfl) (by conv => lhs; whnf)) rfl rfl (by decide) (by kernel_rfl) ?_
                  refine Al_nil ?_
                  refine Aw_region ?_
                  refine Al_pu (Pu_move (.inl rfl) (by conv => lhs; whnf)) rfl rfl (by decide) (by kernel_rfl) ?_
                  refine Al_pu (Pu_add rfl rfl rfl (fun h1 h2 => by simp only [A.inI, A.maxI] at *; omega)) rfl rfl (by decide) (by kernel_rfl) ?_
                  refine Al_pu (Pu_move (.inr rfl) (by conv => lhs; whnf)) rfl rfl (by decide) (by kernel_rfl) ?_
                  refine Al_nil ?_
                  exact ⟨(k + 1, g84), by omega, by simp only []; omega, Le.ov ⟨Sub.num (by omega), Sub.rfl, Sub.bool (decide_eq_decide.2 ⟨by omega, by omega⟩), trivial⟩ ⟨Sub.rfl, Sub.rfl, Sub.rfl, trivial⟩ ⟨obeq (by rw [hst, List.map_append, ← hgd]; rfl), trivial⟩ ⟨rfl, rfl, trivial⟩⟩ -- loop 0 next.1
              · (try simp only [decide_eq_true_eq, decide_eq_false_iff_not, List.length_map] at h50)
                have hkn : k = cs.length := by omega
                subst hkn
                have hol : (J.insI (J.aft v.key) (v.key, m) cs cs.length).length ≤ cs.length + 1 := J.insI_len
                refine Aw_exit ?_
                -- join 3: live [0, 8], turned [8]
                refine Aw_seq ?_
                refine Aw_seq ?_
                refine Aw_region ?_
                refine Al_pu (Pu_move (.inl rfl) (by conv => lhs; whnf)) rfl rfl (by decide) (by kernel_rfl) ?_
                refine Al_pu (Pu_not rfl rfl) rfl rfl (by decide) (by kernel_rfl) ?_
                refine Al_nil ?_
                refine Aw_cond rfl (fun h86 => ?_) (fun h86 => ?_)
                · (try simp only [decide_eq_true_eq, decide_eq_false_iff_not, List.length_map] at h86)
                  rw [if_neg (by simpa using h86)] at hset
                  refine Aw_region ?_
                  refine Al_pu (Pu_move (.inl rfl) (by conv => lhs; whnf)) rfl rfl (by decide) (by kernel_rfl) ?_
                  refine Al_pu (Pu_field 0 rfl Tryz.underlying36 rfl rfl Tryz.sizeOf9 rfl) rfl rfl (by decide) (by kernel_rfl) ?_
                  refine Al_pu (Pu_load1 rfl Tryz.isAgg9 rfl rfl) rfl rfl (by decide) (by kernel_rfl) ?_
                  refine Al_pu (Pu_move (.inl rfl) (by conv => lhs; whnf)) rfl rfl (by decide) (by kernel_rfl) ?_
                  refine Al_pu (Pu_build (aa := [(0, _), (1, _)]) rfl Tryz.underlying75 Tryz.zeroValue75 (places75 Tryz.underlying75) (by kernel_rfl) ⟨rfl, rfl, rfl, rfl, rfl, rfl, trivial⟩ rfl) rfl rfl (by decide) (by kernel_rfl) ?_
                  refine Al_pu (Pu_slice1 rfl Tryz.underlying29 Tryz.sizeOf75 Tryz.zeroValue75 rfl (by decide) (by decide) (by kernel_rfl) rfl rfl rfl) rfl rfl (by decide) (by kernel_rfl) ?_
                  refine Al_append rfl rfl rfl (by decide) (by kernel_rfl) elem29 (by decide) Tryz.sizeOf75 rfl rfl rfl (by simp only [List.length_map, List.length_cons, List.length_nil]; omega) (by decide) (fun g93 => ?_)
                  refine Al_pu (Pu_move (.inr rfl) (by conv => lhs; whnf)) rfl rfl (by decide) (by kernel_rfl) ?_
                  refine Al_nil ?_
                  refine Aw_seq ?_
                  refine Aw_region ?_
                  refine Al_pu (Pu_move (.inl rfl) (by conv => lhs; whnf)) rfl rfl (by decide) (by kernel_rfl) ?_
                  refine Al_pu (Pu_move (.inl rfl) (by conv => lhs; whnf)) rfl rfl (by decide) (by kernel_rfl) ?_
                  refine Al_pu (Pu_nilb rfl rfl) rfl rfl (by decide) (by kernel_rfl) ?_
                  refine Al_pu (Pu_fieldb 1 rfl Tryz.underlying31 rfl rfl Tryz.sizeOf29 rfl) rfl rfl (by decide) (by kernel_rfl) ?_
                  refine Al_store1 rfl rfl rfl (by kernel_rfl) Tryz.isAgg29 Tryz.sizeOf29 rfl rfl (Nat.le_of_ble_eq_true rfl) (by conv => lhs; whnf) rfl ?_
                  refine Al_nil ?_
                  refine Aw_seq ?_
                  refine Aw_region ?_
                  refine Al_pu (Pu_move (.inr rfl) (by conv => lhs; whnf)) rfl rfl (by decide) (by kernel_rfl) ?_
                  refine Al_nil ?_
                  refine Aw_ret ?_
                  exact ⟨_, _, [(1003, 8, g93)], rfl, Sub.bool (by rw [hyes]), ⟨rfl, obeq (by rw [hyes, hset, List.map_append, ← hgm]; rfl), trivial⟩, rfl⟩ -- ret 3
                · (try simp only [decide_eq_true_eq, decide_eq_false_iff_not, List.length_map] at h86)
                  rw [if_pos (by simpa using h86)] at hset
                  refine Aw_skip ?_
                  refine Aw_seq ?_
                  refine Aw_region ?_
                  refine Al_pu (Pu_move (.inl rfl) (by conv => lhs; whnf)) rfl rfl (by decide) (by kernel_rfl) ?_
                  refine Al_pu (Pu_move (.inl rfl) (by conv => lhs; whnf)) rfl rfl (by decide) (by kernel_rfl) ?_
                  refine Al_pu (Pu_nilb rfl rfl) rfl rfl (by decide) (by kernel_rfl) ?_
                  refine Al_pu (Pu_fieldb 1 rfl Tryz.underlying31 rfl rfl Tryz.sizeOf29 rfl) rfl rfl (by decide) (by kernel_rfl) ?_
                  refine Al_store1 rfl rfl rfl (by kernel_rfl) Tryz.isAgg29 Tryz.sizeOf29 rfl rfl (Nat.le_of_ble_eq_true rfl) (by conv => lhs; whnf) rfl ?_
                  refine Al_nil ?_
                  refine Aw_seq ?_
                  refine Aw_region ?_
                  refine Al_pu (Pu_move (.inr rfl) (by conv => lhs; whnf)) rfl rfl (by decide) (by kernel_rfl) ?_
                  refine Al_nil ?_
                  refine Aw_ret ?_
                  exact ⟨_, _, [(1003, 8, g)], rfl, Sub.bool (by rw [hyes]), ⟨rfl, obeq (by rw [hyes, hset]), trivial⟩, rfl⟩ -- ret 4
        · refine Al_pu (Pu_loadN rfl Tryz.isAgg36 Tryz.sizeOf36 rfl (Nat.le_of_ble_eq_true rfl)) rfl rfl (by decide) (by kernel_rfl) ?_
          refine Al_nil ?_
          refine Ad_one 3 rfl (by kernel_rfl) ?_
          refine Al_gcall [(1001, 1001, 0), (1002, 1002, 0)] [] (rof13_g rs cs v.key hcl) rfl rfl rfl (by decide) (by kernel_rfl) ⟨rfl, rfl, trivial⟩ rfl ⟨Sub.rfl, Sub.rfl, trivial⟩ (fun g23 => ?_)
          refine Al_nil ?_
          refine Ad_one 5 rfl (by kernel_rfl) ?_
          refine Al_pu (Pu_call (hpu) rfl ⟨Sub.rfl, Sub.rfl, trivial⟩) rfl rfl (by decide) (by kernel_rfl) ?_
          refine Al_nil ?_
          refine Ad_take 6 rfl (PuI_move (.inl rfl) (by conv => lhs; whnf)) rfl rfl (by decide) (by kernel_rfl) (by kernel_rfl) (by kernel_rfl) (by kernel_rfl) (fun _ _ h => h) ?_
          refine Ad_take 7 rfl (PuI_extract rfl rfl rfl) rfl rfl (by decide) (by kernel_rfl) (by kernel_rfl) (by kernel_rfl) (by kernel_rfl) (fun _ _ h => h) ?_
          refine Ad_take 8 rfl (PuI_extract rfl rfl rfl) rfl rfl (by decide) (by kernel_rfl) (by kernel_rfl) (by kernel_rfl) (by kernel_rfl) (fun _ _ h => h) ?_
          refine Ad_take 9 rfl (PuI_move (.inr rfl) (by conv => lhs; whnf)) rfl rfl (by decide) (by kernel_rfl) (by kernel_rfl) (by kernel_rfl) (by kernel_rfl) (fun _ _ h => h) ?_
          refine Ad_take 10 rfl (PuI_move (.inr rfl) (by conv => lhs; whnf)) rfl rfl (by decide) (by kernel_rfl) (by kernel_rfl) (by kernel_rfl) (by kernel_rfl) (fun _ _ h => h) ?_
          refine Ad_done (by kernel_rfl) ?_
          refine Aw_seq ?_
          refine Aw_seq ?_
          refine Aw_region ?_
          refine Al_pu (Pu_move (.inl rfl) (by conv => lhs; whnf)) rfl rfl (by decide) (by kernel_rfl) ?_
          refine Al_pu (Pu_not rfl rfl) rfl rfl (by decide) (by kernel_rfl) ?_
          refine Al_nil ?_
          refine Aw_cond rfl (fun h29 => ?_) (fun h29 => ?_)
          · skip
            have hyes : J.sput rs cs v = (cs, false) := by
              unfold J.sput
              rw [if_neg hfn]
              cases hp : J.put (J.getC cs v.key) v with
              | none => rfl
              | some l => rw [hp] at h29; cases h29
            refine Aw_seq ?_
            refine Aw_region ?_
            refine Al_pu (Pu_move (.inr rfl) (by conv => lhs; whnf)) rfl rfl (by decide) (by kernel_rfl) ?_
            refine Al_nil ?_
            refine Aw_ret ?_
            exact ⟨_, _, [(1003, 1002, 0)], rfl, Sub.bool (by rw [hyes]), ⟨rfl, obeq (by rw [hyes]), trivial⟩, rfl⟩ -- ret 5
          · skip
            obtain ⟨m, hm⟩ : ∃ m, J.put (J.getC cs v.key) v = some m := by
              cases hp : J.put (J.getC cs v.key) v with
              | none => rw [hp] at h29; cases h29
              | some l => exact ⟨l, rfl⟩
            have hyes : J.sput rs cs v = (J.setC cs v.key m, true) := by
              unfold J.sput
              rw [if_neg hfn, hm]
            have hgm : (J.put (J.getC cs v.key) v).getD (J.getC cs v.key) = m := by rw [hm]; rfl
            refine Aw_skip ?_
            refine Aw_seq ?_
            refine Aw_region ?_
            refine Al_pu (Pu_move (.inl rfl) (by conv => lhs; whnf)) rfl rfl (by decide) (by kernel_rfl) ?_
            refine Al_pu (Pu_field 0 rfl Tryz.underlying36 rfl rfl Tryz.sizeOf9 rfl) rfl rfl (by decide) (by kernel_rfl) ?_
            refine Al_pu (Pu_load1 rfl Tryz.isAgg9 rfl rfl) rfl rfl (by decide) (by kernel_rfl) ?_
            refine Al_gcall [(1001, 1001, 0), (1002, 1002, 0)] [] (rpos13_g rs cs v.key hcl) rfl rfl rfl (by decide) (by kernel_rfl) ⟨rfl, rfl, trivial⟩ rfl ⟨Sub.rfl, Sub.rfl, trivial⟩ (fun g33 => ?_)
            refine Al_pu (Pu_move (.inr rfl) (by conv => lhs; whnf)) rfl rfl (by decide) (by kernel_rfl) ?_
            refine Al_nil ?_
            refine Aw_seq ?_
            refine Aw_seq ?_
            refine Aw_region ?_
            refine Al_pu (Pu_move (.inl rfl) (by conv => lhs; whnf)) rfl rfl (by decide) (by kernel_rfl) ?_
            refine Al_pu (Pu_cmp rfl rfl rfl rfl) rfl rfl (by decide) (by kernel_rfl) ?_
            refine Al_nil ?_
            refine Aw_cond rfl (fun h35 => ?_) (fun h35 => ?_)
            · (try simp only [decide_eq_true_eq, decide_eq_false_iff_not, List.length_map] at h35)
              obtain ⟨i, hi, hp, hk, hlk⟩ : ∃ i, ∃ hi : i < cs.length, J.rpos cs v.key = (i : Int) ∧ cs[i].1 = v.key ∧ J.look cs v.key = some cs[i].2 := by
                rcases J.rpos_look cs v.key with ⟨h, _⟩ | h
                · omega
                · exact h
              have hgd : cs.getD i default = cs[i] := by simp [hi]
              have hset : J.setC cs v.key m = cs.set i ((cs.getD i default).1, m) := by rw [← hk, J.setC_old hr hi, hgd]
              refine Aw_seq ?_
              refine Aw_region ?_
              refine Al_pu (Pu_move (.inl rfl) (by conv => lhs; whnf)) rfl rfl (by decide) (by kernel_rfl) ?_
              refine Al_pu (Pu_nilb rfl rfl) rfl rfl (by decide) (by kernel_rfl) ?_
              refine Al_pu (Pu_fieldb 1 rfl Tryz.underlying31 rfl rfl Tryz.sizeOf29 rfl) rfl rfl (by decide) (by kernel_rfl) ?_
              refine Al_pu (Pu_loadb rfl Tryz.isAgg29 rfl rfl rfl) rfl rfl (by decide) (by kernel_rfl) ?_
              refine Al_pu (Pu_move (.inl rfl) (by conv => lhs; whnf)) rfl rfl (by decide) (by kernel_rfl) ?_
              refine Al_pu (Pu_move (.inl rfl) (by conv => lhs; whnf)) rfl rfl (by decide) (by kernel_rfl) ?_
              refine Al_pu (Pu_indexOw (j := i) rfl Tryz.underlying29 Tryz.sizeOf75 rfl rfl rfl hp (by rw [List.length_map]; omega)) rfl rfl (by decide) (by kernel_rfl) ?_
              refine Al_pu (Pu_fieldb 1 rfl Tryz.underlying75 rfl rfl Tryz.sizeOf47 rfl) rfl rfl (by decide) (by kernel_rfl) ?_
              refine Al_storeArr ((cs.set i ((cs.getD i default).1, (J.put (J.getC cs v.key) v).getD (J.getC cs v.key))).map chR) rfl rfl rfl (by kernel_rfl) Tryz.sizeOf47 rfl rfl rfl rfl rfl (by rw [List.length_map]; omega) (by simp) (J.ch_un _) (J.ch_set hi _) ?_
              refine Al_nil ?_
              refine Aw_seq ?_
              refine Aw_region ?_
              refine Al_pu (Pu_move (.inr rfl) (by conv => lhs; whnf)) rfl rfl (by decide) (by kernel_rfl) ?_
              refine Al_nil ?_
              refine Aw_ret ?_
              exact ⟨_, _, [(1003, 1002, 0)], rfl, Sub.bool (by rw [hyes]), ⟨rfl, obeq (by rw [hyes, hset, hgm]), trivial⟩, rfl⟩ -- ret 6
            · (try simp only [decide_eq_true_eq, decide_eq_false_iff_not, List.length_map] at h35)
              have hlk : J.look cs v.key = none := by
                rcases J.rpos_look cs v.key with ⟨_, h⟩ | ⟨i, _, h, _⟩
                · exact h
                · omega
              have hset := J.setC_ins cs v.key m hlk
              refine Aw_skip ?_
              refine Aw_seq ?_
              refine Aw_region ?_
              refine Al_pu (Pu_move (.inr rfl) (by conv => lhs; whnf)) rfl rfl (by decide) (by kernel_rfl) ?_
              refine Al_nil ?_
              refine Aw_seq ?_
              refine Aw_region ?_
              refine Al_pu (Pu_move (.inr rfl) (by conv => lhs; whnf)) rfl rfl (by decide) (by kernel_rfl) ?_
              refine Al_nil ?_
              refine Aw_seq ?_
              refine Aw_seq ?_
              refine Aw_region ?_
              refine Al_pu (Pu_move (.inr rfl) (by conv => lhs; whnf)) rfl rfl (by decide) (by kernel_rfl) ?_
              refine Al_nil ?_
              refine Aw_block ?_
              refine Aw_own (j := 8) (k := 8) (T := 75) (n := 2) rfl (fun g0 => ?_)
              refine Aw_loopk (ι := Nat × Nat) [0, 3, 5] [1001, 1002] (fun (k, g) => [(10, .d (iv k)), (8, .ow 8 g), (9, .d (bv (decide (cs.findIdx (J.aft v.key) < k))))]) (fun (k, g) => [(8, g, .arr 75 2 ((J.insI (J.aft v.key) (v.key, m) cs k).map chR))]) (fun (k, g) => k ≤ cs.length) (fun (k, g) => cs.length - k) ((0, g0)) (Nat.zero_le _) ⟨Sub.rfl, Sub.rfl, Sub.bool (by simp), trivial⟩ ⟨obeq (by rw [J.insI_zero]; rfl), trivial⟩ ?_
              rintro ⟨k, g⟩ hk0
              refine Aw_seq ?_
              refine Aw_seq ?_
              refine Aw_region ?_
              refine Al_pu (Pu_move (.inl rfl) (by conv => lhs; whnf)) rfl rfl (by decide) (by kernel_rfl) ?_
              refine Al_pu (Pu_move (.inl rfl) (by conv => lhs; whnf)) rfl rfl (by decide) (by kernel_rfl) ?_
              refine Al_pu (Pu_nilb rfl rfl) rfl rfl (by decide) (by kernel_rfl) ?_
              refine Al_pu (Pu_fieldb 1 rfl Tryz.underlying31 rfl rfl Tryz.sizeOf29 rfl) rfl rfl (by decide) (by kernel_rfl) ?_
              refine Al_pu (Pu_loadb rfl Tryz.isAgg29 rfl rfl rfl) rfl rfl (by decide) (by kernel_rfl) ?_
              refine Al_pu (Pu_lenOw rfl Tryz.underlying29 rfl rfl (List.length_map ..)) rfl rfl (by decide) (by kernel_rfl) ?_
              refine Al_pu (Pu_cmp rfl rfl rfl rfl) rfl rfl (by decide) (by kernel_rfl) ?_
              refine Al_nil ?_
              refine Aw_cond rfl (fun h50 => ?_) (fun h50 => ?_)
              · (try simp only [decide_eq_true_eq, decide_eq_false_iff_not, List.length_map] at h50)
                have hk : k < cs.length := by omega
                have hgd : cs.getD k default = cs[k] := by simp [hk]
                have hol : (J.insI (J.aft v.key) (v.key, m) cs k).length ≤ cs.length + 1 := J.insI_len
                refine Aw_skip ?_
                -- join 1: live [0, 3, 5, 8, 9, 10], turned [8, 9]
                refine Aw_seq ?_
                refine Aw_block ?_
                -- join 2: live [0, 3, 5, 8, 9, 10], turned [8, 9]
                refine Aw_seq ?_
                refine Aw_seq ?_
                refine Aw_draw 15 (by kernel_rfl) (by kernel_rfl) ?_
                refine Dr_pu (Pu_move (.inl rfl) (by conv => lhs; whnf)) rfl rfl ?_
                refine Dr_pu (Pu_not rfl rfl) rfl rfl ?_
                refine Dr_pu (Pu_move (.inl rfl) (by conv => lhs; whnf)) rfl rfl ?_
                refine Dr_st (St_gd [] rfl rfl rfl rfl trivial (fun hg56 => by exact Pu_move (.inl rfl) (by conv => lhs; whnf))) rfl ?_
                refine Dr_st (St_gd [56] rfl rfl rfl rfl ⟨⟨_, rfl⟩, trivial⟩ (fun hg57 => Pu_nilb rfl rfl)) rfl ?_
                refine Dr_st (St_gd [57] rfl rfl rfl rfl ⟨⟨_, rfl⟩, trivial⟩ (fun hg58 => Pu_fieldb 1 rfl Tryz.underlying31 rfl rfl Tryz.sizeOf29 rfl)) rfl ?_
                refine Dr_st (St_gd [58] rfl rfl rfl rfl ⟨⟨_, rfl⟩, trivial⟩ (fun hg59 => Pu_loadb rfl Tryz.isAgg29 rfl rfl rfl)) rfl ?_
                refine Dr_st (St_gd [] rfl rfl rfl rfl trivial (fun hg60 => by exact Pu_move (.inl rfl) (by conv => lhs; whnf))) rfl ?_
                refine Dr_st (St_gd [59, 60] rfl rfl rfl rfl ⟨⟨_, rfl⟩, ⟨_, rfl⟩, trivial⟩ (fun hg61 => by exact Pu_indexOw (j := k) rfl Tryz.underlying29 Tryz.sizeOf75 rfl rfl rfl rfl (by rw [List.length_map]; exact hk))) rfl ?_
                refine Dr_st (St_gd [61] rfl rfl rfl rfl ⟨⟨_, rfl⟩, trivial⟩ (fun hg62 => Pu_fieldb 0 rfl Tryz.underlying75 rfl rfl Tryz.sizeOf9 rfl)) rfl ?_
                refine Dr_st (St_gd [62] rfl rfl rfl rfl ⟨⟨_, rfl⟩, trivial⟩ (fun hg63 => Pu_loadArr rfl Tryz.isAgg9 rfl rfl (J.chKey (cs := cs) hk))) rfl ?_
                refine Dr_st (St_gd [] rfl rfl rfl rfl trivial (fun hg64 => Pu_field 0 rfl Tryz.underlying36 rfl rfl Tryz.sizeOf9 rfl)) rfl ?_
                refine Dr_st (St_gd [64] rfl rfl rfl rfl ⟨⟨_, rfl⟩, trivial⟩ (fun hg65 => Pu_load1 rfl Tryz.isAgg9 rfl rfl)) rfl ?_
                refine Dr_st (St_gd [63, 65] rfl rfl rfl rfl ⟨⟨_, rfl⟩, ⟨_, rfl⟩, trivial⟩ (fun hg66 => Pu_str rfl rfl rfl rfl)) rfl ?_
                refine Dr_pu (Pu_and rfl rfl rfl rfl) rfl rfl ?_
                refine Dr_nil ?_
                refine Al_nil ?_
                refine Aw_cond rfl (fun h67 => ?_) (fun h67 => ?_)
                · skip
                  have hfk : cs.findIdx (J.aft v.key) = k := by
                    simp only [Bool.and_eq_true, Bool.not_eq_true', decide_eq_false_iff_not] at h67
                    exact J.fidx_eq hk (by rw [← hgd]; show (!_) = true; rw [h67.2]; rfl) h67.1
                  have hst := J.insI_at (p := J.aft v.key) (x := (v.key, m)) hk hfk
                  refine Aw_seq ?_
                  refine Aw_region ?_
                  refine Al_pu (Pu_move (.inl rfl) (by conv => lhs; whnf)) rfl rfl (by decide) (by kernel_rfl) ?_
                  refine Al_pu (Pu_field 0 rfl Tryz.underlying36 rfl rfl Tryz.sizeOf9 rfl) rfl rfl (by decide) (by kernel_rfl) ?_
                  refine Al_pu (Pu_load1 rfl Tryz.isAgg9 rfl rfl) rfl rfl (by decide) (by kernel_rfl) ?_
                  refine Al_pu (Pu_move (.inl rfl) (by conv => lhs; whnf)) rfl rfl (by decide) (by kernel_rfl) ?_
                  refine Al_pu (Pu_build (aa := [(0, _), (1, _)]) rfl Tryz.underlying75 Tryz.zeroValue75 (places75 Tryz.underlying75) (by kernel_rfl) ⟨rfl, rfl, rfl, rfl, rfl, rfl, trivial⟩ rfl) rfl rfl (by decide) (by kernel_rfl) ?_
                  refine Al_pu (Pu_slice1 rfl Tryz.underlying29 Tryz.sizeOf75 Tryz.zeroValue75 rfl (by decide) (by decide) (by kernel_rfl) rfl rfl rfl) rfl rfl (by decide) (by kernel_rfl) ?_
                  refine Al_append rfl rfl rfl (by decide) (by kernel_rfl) elem29 (by decide) Tryz.sizeOf75 rfl rfl rfl (by simp only [List.length_map, List.length_cons, List.length_nil]; omega) (by decide) (fun g74 => ?_)
                  refine Al_pu (Pu_move (.inr rfl) (by conv => lhs; whnf)) rfl rfl (by decide) (by kernel_rfl) ?_
                  refine Al_nil ?_
                  refine Aw_region ?_
                  refine Al_pu (Pu_move (.inr rfl) (by conv => lhs; whnf)) rfl rfl (by decide) (by kernel_rfl) ?_
                  refine Al_nil ?_
                  refine Aw_region ?_
                  refine Al_pu (Pu_move (.inl rfl) (by conv => lhs; whnf)) rfl rfl (by decide) (by kernel_rfl) ?_
                  refine Al_pu (Pu_move (.inl rfl) (by conv => lhs; whnf)) rfl rfl (by decide) (by kernel_rfl) ?_
                  refine Al_pu (Pu_nilb rfl rfl) rfl rfl (by decide) (by kernel_rfl) ?_
                  refine Al_pu (Pu_fieldb 1 rfl Tryz.underlying31 rfl rfl Tryz.sizeOf29 rfl) rfl rfl (by decide) (by kernel_rfl) ?_
                  refine Al_pu (Pu_loadb rfl Tryz.isAgg29 rfl rfl rfl) rfl rfl (by decide) (by kernel_rfl) ?_
                  refine Al_pu (Pu_move (.inl rfl) (by conv => lhs; whnf)) rfl rfl (by decide) (by kernel_rfl) ?_
                  refine Al_pu (Pu_indexOw (j := k) rfl Tryz.underlying29 Tryz.sizeOf75 rfl rfl rfl rfl (by rw [List.length_map]; omega)) rfl rfl (by decide) (by kernel_rfl) ?_
                  refine Al_pu (Pu_loadArrN rfl Tryz.isAgg75 Tryz.sizeOf75 rfl rfl (J.chAll (cs := cs) hk) rfl) rfl rfl (by decide) (by kernel_rfl) ?_
                  refine Al_pu (Pu_slice1 rfl Tryz.underlying29 Tryz.sizeOf75 Tryz.zeroValue75 rfl (by decide) (by decide) (by kernel_rfl) rfl rfl rfl) rfl rfl (by decide) (by kernel_rfl) ?_
                  refine Al_append rfl rfl rfl (by decide) (by kernel_rfl) elem29 (by decide) Tryz.sizeOf75 rfl rfl rfl (by simp only [List.length_map, List.length_cons, List.length_nil, List.length_append]; omega) (by decide) (fun g84 => ?_)
                  refine Al_pu (Pu_move (.inr rfl) (by conv => lhs; whnf)) rfl rfl (by decide) (by kernel_rfl) ?_
                  refine Al_nil ?_
                  refine Aw_region ?_
                  refine Al_pu (Pu_move (.inl rfl) (by conv => lhs; whnf)) rfl rfl (by decide) (by kernel_rfl) ?_
                  refine Al_pu (Pu_add rfl rfl rfl (fun h1 h2 => by simp only [A.inI, A.maxI] at *; omega)) rfl rfl (by decide) (by kernel_rfl) ?_
                  refine Al_pu (Pu_move (.inr rfl) (by conv => lhs; whnf)) rfl rfl (by decide) (by kernel_rfl) ?_
                  refine Al_nil ?_
                  exact ⟨(k + 1, g84), by omega, by simp only []; omega, Le.ov ⟨Sub.num (by omega), Sub.rfl, Sub.bool (by simp; omega), trivial⟩ ⟨Sub.rfl, Sub.rfl, Sub.rfl, trivial⟩ ⟨obeq (by rw [hst, List.map_append, List.map_append, ← hgd, ← hgm]; rfl), trivial⟩ ⟨rfl, rfl, trivial⟩⟩ -- loop 0 next.0
                · skip
                  have hfk : cs.findIdx (J.aft v.key) ≠ k := fun e => by
                    rw [e] at h67
                    simp only [Nat.lt_irrefl, decide_false, Bool.not_false, Bool.true_and] at h67
                    exact J.fidx_ne hk (by rw [← hgd]; exact h67) e
                  have hst := J.insI_ne (p := J.aft v.key) (x := (v.key, m)) hk hfk
                  refine Aw_skip ?_
                  refine Aw_region ?_
                  refine Al_pu (Pu_move (.inl rfl) (by conv => lhs; whnf)) rfl rfl (by decide) (by kernel_rfl) ?_
                  refine Al_pu (Pu_move (.inl rfl) (by conv => lhs; whnf)) rfl rfl (by decide) (by kernel_rfl) ?_
                  refine Al_pu (Pu_nilb rfl rfl) rfl rfl (by decide) (by kernel_rfl) ?_
                  refine Al_pu (Pu_fieldb 1 rfl Tryz.underlying31 rfl rfl Tryz.sizeOf29 rfl) rfl rfl (by decide) (by kernel_rfl) ?_
                  refine Al_pu (Pu_loadb rfl Tryz.isAgg29 rfl rfl rfl) rfl rfl (by decide) (by kernel_rfl) ?_
                  refine Al_pu (Pu_move (.inl rfl) (by conv => lhs; whnf)) rfl rfl (by decide) (by kernel_rfl) ?_
                  refine Al_pu (Pu_indexOw (j := k) rfl Tryz.underlying29 Tryz.sizeOf75 rfl rfl rfl rfl (by rw [List.length_map]; omega)) rfl rfl (by decide) (by kernel_rfl) ?_
                  refine Al_pu (Pu_loadArrN rfl Tryz.isAgg75 Tryz.sizeOf75 rfl rfl (J.chAll (cs := cs) hk) rfl) rfl rfl (by decide) (by kernel_rfl) ?_
                  refine Al_pu (Pu_slice1 rfl Tryz.underlying29 Tryz.sizeOf75 Tryz.zeroValue75 rfl (by decide) (by decide) (by kernel_rfl) rfl rfl rfl) rfl rfl (by decide) (by kernel_rfl) ?_
                  refine Al_append rfl rfl rfl (by decide) (by kernel_rfl) elem29 (by decide) Tryz.sizeOf75 rfl rfl rfl (by simp only [List.length_map, List.length_cons, List.length_nil, List.length_append]; omega) (by decide) (fun g84 => ?_)
                  refine Al_pu (Pu_move (.inr rfl) (by conv => lhs; whnf)) rfl rfl (by decide) (by kernel_rfl) ?_
                  refine Al_nil ?_
                  refine Aw_region ?_
                  refine Al_pu (Pu_move (.inl rfl) (by conv => lhs; whnf)) rfl rfl (by decide) (by kernel_rfl) ?_
                  refine Al_pu (Pu_add rfl rfl rfl (fun h1 h2 => by simp only [A.inI, A.maxI] at *; omega)) rfl rfl (by decide) (by kernel_rfl) ?_
                  refine Al_pu (Pu_move (.inr rfl) (by conv => lhs; whnf)) rfl rfl (by decide) (by kernel_rfl) ?_
                  refine Al_nil ?_
                  exact ⟨(k + 1, g84), by omega, by simp only []; omega, Le.ov ⟨Sub.num (by omega), Sub.rfl, Sub.bool (decide_eq_decide.2 ⟨by omega, by omega⟩), trivial⟩ ⟨Sub.rfl, Sub.rfl, Sub.rfl, trivial⟩ ⟨obeq (by rw [hst, List.map_append, ← hgd]; rfl), trivial⟩ ⟨rfl, rfl, trivial⟩⟩ -- loop 0 next.1
              · (try simp only [decide_eq_true_eq, decide_eq_false_iff_not, List.length_map] at h50)
                have hkn : k = cs.length := by omega
                subst hkn
                have hol : (J.insI (J.aft v.key) (v.key, m) cs cs.length).length ≤ cs.length + 1 := J.insI_len
                refine Aw_exit ?_
                -- join 3: live [0, 8], turned [8]
                refine Aw_seq ?_
                refine Aw_seq ?_
                refine Aw_region ?_
                refine Al_pu (Pu_move (.inl rfl) (by conv => lhs; whnf)) rfl rfl (by decide) (by kernel_rfl) ?_
                refine Al_pu (Pu_not rfl rfl) rfl rfl (by decide) (by kernel_rfl) ?_
                refine Al_nil ?_
                refine Aw_cond rfl (fun h86 => ?_) (fun h86 => ?_)
                · (try simp only [decide_eq_true_eq, decide_eq_false_iff_not, List.length_map] at h86)
                  rw [if_neg (by simpa using h86)] at hset
                  refine Aw_region ?_
                  refine Al_pu (Pu_move (.inl rfl) (by conv => lhs; whnf)) rfl rfl (by decide) (by kernel_rfl) ?_
                  refine Al_pu (Pu_field 0 rfl Tryz.underlying36 rfl rfl Tryz.sizeOf9 rfl) rfl rfl (by decide) (by kernel_rfl) ?_
                  refine Al_pu (Pu_load1 rfl Tryz.isAgg9 rfl rfl) rfl rfl (by decide) (by kernel_rfl) ?_
                  refine Al_pu (Pu_move (.inl rfl) (by conv => lhs; whnf)) rfl rfl (by decide) (by kernel_rfl) ?_
                  refine Al_pu (Pu_build (aa := [(0, _), (1, _)]) rfl Tryz.underlying75 Tryz.zeroValue75 (places75 Tryz.underlying75) (by kernel_rfl) ⟨rfl, rfl, rfl, rfl, rfl, rfl, trivial⟩ rfl) rfl rfl (by decide) (by kernel_rfl) ?_
                  refine Al_pu (Pu_slice1 rfl Tryz.underlying29 Tryz.sizeOf75 Tryz.zeroValue75 rfl (by decide) (by decide) (by kernel_rfl) rfl rfl rfl) rfl rfl (by decide) (by kernel_rfl) ?_
                  refine Al_append rfl rfl rfl (by decide) (by kernel_rfl) elem29 (by decide) Tryz.sizeOf75 rfl rfl rfl (by simp only [List.length_map, List.length_cons, List.length_nil]; omega) (by decide) (fun g93 => ?_)
                  refine Al_pu (Pu_move (.inr rfl) (by conv => lhs; whnf)) rfl rfl (by decide) (by kernel_rfl) ?_
                  refine Al_nil ?_
                  refine Aw_seq ?_
                  refine Aw_region ?_
                  refine Al_pu (Pu_move (.inl rfl) (by conv => lhs; whnf)) rfl rfl (by decide) (by kernel_rfl) ?_
                  refine Al_pu (Pu_move (.inl rfl) (by conv => lhs; whnf)) rfl rfl (by decide) (by kernel_rfl) ?_
                  refine Al_pu (Pu_nilb rfl rfl) rfl rfl (by decide) (by kernel_rfl) ?_
                  refine Al_pu (Pu_fieldb 1 rfl Tryz.underlying31 rfl rfl Tryz.sizeOf29 rfl) rfl rfl (by decide) (by kernel_rfl) ?_
                  refine Al_store1 rfl rfl rfl (by kernel_rfl) Tryz.isAgg29 Tryz.sizeOf29 rfl rfl (Nat.le_of_ble_eq_true rfl) (by conv => lhs; whnf) rfl ?_
                  refine Al_nil ?_
                  refine Aw_seq ?_
                  refine Aw_region ?_
                  refine Al_pu (Pu_move (.inr rfl) (by conv => lhs; whnf)) rfl rfl (by decide) (by kernel_rfl) ?_
                  refine Al_nil ?_
                  refine Aw_ret ?_
                  exact ⟨_, _, [(1003, 8, g93)], rfl, Sub.bool (by rw [hyes]), ⟨rfl, obeq (by rw [hyes, hset, List.map_append, ← hgm]; rfl), trivial⟩, rfl⟩ -- ret 7
                · (try simp only [decide_eq_true_eq, decide_eq_false_iff_not, List.length_map] at h86)
                  rw [if_pos (by simpa using h86)] at hset
                  refine Aw_skip ?_
                  refine Aw_seq ?_
                  refine Aw_region ?_
                  refine Al_pu (Pu_move (.inl rfl) (by conv => lhs; whnf)) rfl rfl (by decide) (by kernel_rfl) ?_
                  refine Al_pu (Pu_move (.inl rfl) (by conv => lhs; whnf)) rfl rfl (by decide) (by kernel_rfl) ?_
                  refine Al_pu (Pu_nilb rfl rfl) rfl rfl (by decide) (by kernel_rfl) ?_
                  refine Al_pu (Pu_fieldb 1 rfl Tryz.underlying31 rfl rfl Tryz.sizeOf29 rfl) rfl rfl (by decide) (by kernel_rfl) ?_
                  refine Al_store1 rfl rfl rfl (by kernel_rfl) Tryz.isAgg29 Tryz.sizeOf29 rfl rfl (Nat.le_of_ble_eq_true rfl) (by conv => lhs; whnf) rfl ?_
                  refine Al_nil ?_
                  refine Aw_seq ?_
                  refine Aw_region ?_
                  refine Al_pu (Pu_move (.inr rfl) (by conv => lhs; whnf)) rfl rfl (by decide) (by kernel_rfl) ?_
                  refine Al_nil ?_
                  refine Aw_ret ?_
                  exact ⟨_, _, [(1003, 8, g)], rfl, Sub.bool (by rw [hyes]), ⟨rfl, obeq (by rw [hyes, hset]), trivial⟩, rfl⟩ -- ret 8
      · refine Al_pu (Pu_loadN rfl Tryz.isAgg36 Tryz.sizeOf36 rfl (Nat.le_of_ble_eq_true rfl)) rfl rfl (by decide) (by kernel_rfl) ?_
        refine Al_nil ?_
        refine Ad_one 2 rfl (by kernel_rfl) ?_
        refine Al_pu (Pu_load1 rfl Tryz.isAgg9 rfl rfl) rfl rfl (by decide) (by kernel_rfl) ?_
        refine Al_nil ?_
        refine Ad_one 3 rfl (by kernel_rfl) ?_
        refine Al_gcall [(1001, 1001, 0), (1002, 1002, 0)] [] (rof13_g rs cs v.key hcl) rfl rfl rfl (by decide) (by kernel_rfl) ⟨rfl, rfl, trivial⟩ rfl ⟨Sub.rfl, Sub.rfl, trivial⟩ (fun g23 => ?_)
        refine Al_nil ?_
        refine Ad_one 5 rfl (by kernel_rfl) ?_
        refine Al_pu (Pu_call (hpu) rfl ⟨Sub.rfl, Sub.rfl, trivial⟩) rfl rfl (by decide) (by kernel_rfl) ?_
        refine Al_nil ?_
        refine Ad_take 6 rfl (PuI_move (.inl rfl) (by conv => lhs; whnf)) rfl rfl (by decide) (by kernel_rfl) (by kernel_rfl) (by kernel_rfl) (by kernel_rfl) (fun _ _ h => h) ?_
        refine Ad_take 7 rfl (PuI_extract rfl rfl rfl) rfl rfl (by decide) (by kernel_rfl) (by kernel_rfl) (by kernel_rfl) (by kernel_rfl) (fun _ _ h => h) ?_
        refine Ad_take 8 rfl (PuI_extract rfl rfl rfl) rfl rfl (by decide) (by kernel_rfl) (by kernel_rfl) (by kernel_rfl) (by kernel_rfl) (fun _ _ h => h) ?_
        refine Ad_take 9 rfl (PuI_move (.inr rfl) (by conv => lhs; whnf)) rfl rfl (by decide) (by kernel_rfl) (by kernel_rfl) (by kernel_rfl) (by kernel_rfl) (fun _ _ h => h) ?_
        refine Ad_take 10 rfl (PuI_move (.inr rfl) (by conv => lhs; whnf)) rfl rfl (by decide) (by kernel_rfl) (by kernel_rfl) (by kernel_rfl) (by kernel_rfl) (fun _ _ h => h) ?_
        refine Ad_done (by kernel_rfl) ?_
        refine Aw_seq ?_
        refine Aw_seq ?_
        refine Aw_region ?_
        refine Al_pu (Pu_move (.inl rfl) (by conv => lhs; whnf)) rfl rfl (by decide) (by kernel_rfl) ?_
        refine Al_pu (Pu_not rfl rfl) rfl rfl (by decide) (by kernel_rfl) ?_
        refine Al_nil ?_
        refine Aw_cond rfl (fun h29 => ?_) (fun h29 => ?_)
        · skip
          have hyes : J.sput rs cs v = (cs, false) := by
            unfold J.sput
            rw [if_neg hfn]
            cases hp : J.put (J.getC cs v.key) v with
            | none => rfl
            | some l => rw [hp] at h29; cases h29
          refine Aw_seq ?_
          refine Aw_region ?_
          refine Al_pu (Pu_move (.inr rfl) (by conv => lhs; whnf)) rfl rfl (by decide) (by kernel_rfl) ?_
          refine Al_nil ?_
          refine Aw_ret ?_
          exact ⟨_, _, [(1003, 1002, 0)], rfl, Sub.bool (by rw [hyes]), ⟨rfl, obeq (by rw [hyes]), trivial⟩, rfl⟩ -- ret 9
        · skip
          obtain ⟨m, hm⟩ : ∃ m, J.put (J.getC cs v.key) v = some m := by
            cases hp : J.put (J.getC cs v.key) v with
            | none => rw [hp] at h29; cases h29
            | some l => exact ⟨l, rfl⟩
          have hyes : J.sput rs cs v = (J.setC cs v.key m, true) := by
            unfold J.sput
            rw [if_neg hfn, hm]
          have hgm : (J.put (J.getC cs v.key) v).getD (J.getC cs v.key) = m := by rw [hm]; rfl
          refine Aw_skip ?_
          refine Aw_seq ?_
          refine Aw_region ?_
          refine Al_pu (Pu_move (.inl rfl) (by conv => lhs; whnf)) rfl rfl (by decide) (by kernel_rfl) ?_
          refine Al_pu (Pu_field 0 rfl Tryz.underlying36 rfl rfl Tryz.sizeOf9 rfl) rfl rfl (by decide) (by kernel_rfl) ?_
          refine Al_pu (Pu_load1 rfl Tryz.isAgg9 rfl rfl) rfl rfl (by decide) (by kernel_rfl) ?_
          refine Al_gcall [(1001, 1001, 0), (1002, 1002, 0)] [] (rpos13_g rs cs v.key hcl) rfl rfl rfl (by decide) (by kernel_rfl) ⟨rfl, rfl, trivial⟩ rfl ⟨Sub.rfl, Sub.rfl, trivial⟩ (fun g33 => ?_)
          refine Al_pu (Pu_move (.inr rfl) (by conv => lhs; whnf)) rfl rfl (by decide) (by kernel_rfl) ?_
          refine Al_nil ?_
          refine Aw_seq ?_
          refine Aw_seq ?_
          refine Aw_region ?_
          refine Al_pu (Pu_move (.inl rfl) (by conv => lhs; whnf)) rfl rfl (by decide) (by kernel_rfl) ?_
          refine Al_pu (Pu_cmp rfl rfl rfl rfl) rfl rfl (by decide) (by kernel_rfl) ?_
          refine Al_nil ?_
          refine Aw_cond rfl (fun h35 => ?_) (fun h35 => ?_)
          · (try simp only [decide_eq_true_eq, decide_eq_false_iff_not, List.length_map] at h35)
            obtain ⟨i, hi, hp, hk, hlk⟩ : ∃ i, ∃ hi : i < cs.length, J.rpos cs v.key = (i : Int) ∧ cs[i].1 = v.key ∧ J.look cs v.key = some cs[i].2 := by
              rcases J.rpos_look cs v.key with ⟨h, _⟩ | h
              · omega
              · exact h
            have hgd : cs.getD i default = cs[i] := by simp [hi]
            have hset : J.setC cs v.key m = cs.set i ((cs.getD i default).1, m) := by rw [← hk, J.setC_old hr hi, hgd]
            refine Aw_seq ?_
            refine Aw_region ?_
            refine Al_pu (Pu_move (.inl rfl) (by conv => lhs; whnf)) rfl rfl (by decide) (by kernel_rfl) ?_
            refine Al_pu (Pu_nilb rfl rfl) rfl rfl (by decide) (by kernel_rfl) ?_
            refine Al_pu (Pu_fieldb 1 rfl Tryz.underlying31 rfl rfl Tryz.sizeOf29 rfl) rfl rfl (by decide) (by kernel_rfl) ?_
            refine Al_pu (Pu_loadb rfl Tryz.isAgg29 rfl rfl rfl) rfl rfl (by decide) (by kernel_rfl) ?_
            refine Al_pu (Pu_move (.inl rfl) (by conv => lhs; whnf)) rfl rfl (by decide) (by kernel_rfl) ?_
            refine Al_pu (Pu_move (.inl rfl) (by conv => lhs; whnf)) rfl rfl (by decide) (by kernel_rfl) ?_
            refine Al_pu (Pu_indexOw (j := i) rfl Tryz.underlying29 Tryz.sizeOf75 rfl rfl rfl hp (by rw [List.length_map]; omega)) rfl rfl (by decide) (by kernel_rfl) ?_
            refine Al_pu (Pu_fieldb 1 rfl Tryz.underlying75 rfl rfl Tryz.sizeOf47 rfl) rfl rfl (by decide) (by kernel_rfl) ?_
            refine Al_storeArr ((cs.set i ((cs.getD i default).1, (J.put (J.getC cs v.key) v).getD (J.getC cs v.key))).map chR) rfl rfl rfl (by kernel_rfl) Tryz.sizeOf47 rfl rfl rfl rfl rfl (by rw [List.length_map]; omega) (by simp) (J.ch_un _) (J.ch_set hi _) ?_
            refine Al_nil ?_
            refine Aw_seq ?_
            refine Aw_region ?_
            refine Al_pu (Pu_move (.inr rfl) (by conv => lhs; whnf)) rfl rfl (by decide) (by kernel_rfl) ?_
            refine Al_nil ?_
            refine Aw_ret ?_
            exact ⟨_, _, [(1003, 1002, 0)], rfl, Sub.bool (by rw [hyes]), ⟨rfl, obeq (by rw [hyes, hset, hgm]), trivial⟩, rfl⟩ -- ret 10
          · (try simp only [decide_eq_true_eq, decide_eq_false_iff_not, List.length_map] at h35)
            have hlk : J.look cs v.key = none := by
              rcases J.rpos_look cs v.key with ⟨_, h⟩ | ⟨i, _, h, _⟩
              · exact h
              · omega
            have hset := J.setC_ins cs v.key m hlk
            refine Aw_skip ?_
            refine Aw_seq ?_
            refine Aw_region ?_
            refine Al_pu (Pu_move (.inr rfl) (by conv => lhs; whnf)) rfl rfl (by decide) (by kernel_rfl) ?_
            refine Al_nil ?_
            refine Aw_seq ?_
            refine Aw_region ?_
            refine Al_pu (Pu_move (.inr rfl) (by conv => lhs; whnf)) rfl rfl (by decide) (by kernel_rfl) ?_
            refine Al_nil ?_
            refine Aw_seq ?_
            refine Aw_seq ?_
            refine Aw_region ?_
            refine Al_pu (Pu_move (.inr rfl) (by conv => lhs; whnf)) rfl rfl (by decide) (by kernel_rfl) ?_
            refine Al_nil ?_
            refine Aw_block ?_
            refine Aw_own (j := 8) (k := 8) (T := 75) (n := 2) rfl (fun g0 => ?_)
            refine Aw_loopk (ι := Nat × Nat) [0, 3, 5] [1001, 1002] (fun (k, g) => [(10, .d (iv k)), (8, .ow 8 g), (9, .d (bv (decide (cs.findIdx (J.aft v.key) < k))))]) (fun (k, g) => [(8, g, .arr 75 2 ((J.insI (J.aft v.key) (v.key, m) cs k).map chR))]) (fun (k, g) => k ≤ cs.length) (fun (k, g) => cs.length - k) ((0, g0)) (Nat.zero_le _) ⟨Sub.rfl, Sub.rfl, Sub.bool (by simp), trivial⟩ ⟨obeq (by rw [J.insI_zero]; rfl), trivial⟩ ?_
            rintro ⟨k, g⟩ hk0
            refine Aw_seq ?_
            refine Aw_seq ?_
            refine Aw_region ?_
            refine Al_pu (Pu_move (.inl rfl) (by conv => lhs; whnf)) rfl rfl (by decide) (by kernel_rfl) ?_
            refine Al_pu (Pu_move (.inl rfl) (by conv => lhs; whnf)) rfl rfl (by decide) (by kernel_rfl) ?_
            refine Al_pu (Pu_nilb rfl rfl) rfl rfl (by decide) (by kernel_rfl) ?_
            refine Al_pu (Pu_fieldb 1 rfl Tryz.underlying31 rfl rfl Tryz.sizeOf29 rfl) rfl rfl (by decide) (by kernel_rfl) ?_
            refine Al_pu (Pu_loadb rfl Tryz.isAgg29 rfl rfl rfl) rfl rfl (by decide) (by kernel_rfl) ?_
            refine Al_pu (Pu_lenOw rfl Tryz.underlying29 rfl rfl (List.length_map ..)) rfl rfl (by decide) (by kernel_rfl) ?_
            refine Al_pu (Pu_cmp rfl rfl rfl rfl) rfl rfl (by decide) (by kernel_rfl) ?_
            refine Al_nil ?_
            refine Aw_cond rfl (fun h50 => ?_) (fun h50 => ?_)
            · (try simp only [decide_eq_true_eq, decide_eq_false_iff_not, List.length_map] at h50)
              have hk : k < cs.length := by omega
              have hgd : cs.getD k default = cs[k] := by simp [hk]
              have hol : (J.insI (J.aft v.key) (v.key, m) cs k).length ≤ cs.length + 1 := J.insI_len
              refine Aw_skip ?_
              -- join 1: live [0, 3, 5, 8, 9, 10], turned [8, 9]
              refine Aw_seq ?_
              refine Aw_block ?_
              -- join 2: live [0, 3, 5, 8, 9, 10], turned [8, 9]
              refine Aw_seq ?_
              refine Aw_seq ?_
              refine Aw_draw 15 (by kernel_rfl) (by kernel_rfl) ?_
              refine Dr_pu (Pu_move (.inl rfl) (by conv => lhs; whnf)) rfl rfl ?_
              refine Dr_pu (Pu_not rfl rfl) rfl rfl ?_
              refine Dr_pu (Pu_move (.inl rfl) (by conv => lhs; whnf)) rfl rfl ?_
              refine Dr_st (St_gd [] rfl rfl rfl rfl trivial (fun hg56 => by exact Pu_move (.inl rfl) (by conv => lhs; whnf))) rfl ?_
              refine Dr_st (St_gd [56] rfl rfl rfl rfl ⟨⟨_, rfl⟩, trivial⟩ (fun hg57 => Pu_nilb rfl rfl)) rfl ?_
              refine Dr_st (St_gd [57] rfl rfl rfl rfl ⟨⟨_, rfl⟩, trivial⟩ (fun hg58 => Pu_fieldb 1 rfl Tryz.underlying31 rfl rfl Tryz.sizeOf29 rfl)) rfl ?_
              refine Dr_st (St_gd [58] rfl rfl rfl rfl ⟨⟨_, rfl⟩, trivial⟩ (fun hg59 => Pu_loadb rfl Tryz.isAgg29 rfl rfl rfl)) rfl ?_
              refine Dr_st (St_gd [] rfl rfl rfl rfl trivial (fun hg60 => by exact Pu_move (.inl rfl) (by conv => lhs; whnf))) rfl ?_
              refine Dr_st (St_gd [59, 60] rfl rfl rfl rfl ⟨⟨_, rfl⟩, ⟨_, rfl⟩, trivial⟩ (fun hg61 => by exact Pu_indexOw (j := k) rfl Tryz.underlying29 Tryz.sizeOf75 rfl rfl rfl rfl (by rw [List.length_map]; exact hk))) rfl ?_
              refine Dr_st (St_gd [61] rfl rfl rfl rfl ⟨⟨_, rfl⟩, trivial⟩ (fun hg62 => Pu_fieldb 0 rfl Tryz.underlying75 rfl rfl Tryz.sizeOf9 rfl)) rfl ?_
              refine Dr_st (St_gd [62] rfl rfl rfl rfl ⟨⟨_, rfl⟩, trivial⟩ (fun hg63 => Pu_loadArr rfl Tryz.isAgg9 rfl rfl (J.chKey (cs := cs) hk))) rfl ?_
              refine Dr_st (St_gd [] rfl rfl rfl rfl trivial (fun hg64 => Pu_field 0 rfl Tryz.underlying36 rfl rfl Tryz.sizeOf9 rfl)) rfl ?_
              refine Dr_st (St_gd [64] rfl rfl rfl rfl ⟨⟨_, rfl⟩, trivial⟩ (fun hg65 => Pu_load1 rfl Tryz.isAgg9 rfl rfl)) rfl ?_
              refine Dr_st (St_gd [63, 65] rfl rfl rfl rfl ⟨⟨_, rfl⟩, ⟨_, rfl⟩, trivial⟩ (fun hg66 => Pu_str rfl rfl rfl rfl)) rfl ?_
              refine Dr_pu (Pu_and rfl rfl rfl rfl) rfl rfl ?_
              refine Dr_nil ?_
              refine Al_nil ?_
              refine Aw_cond rfl (fun h67 => ?_) (fun h67 => ?_)
              · skip
                have hfk : cs.findIdx (J.aft v.key) = k := by
                  simp only [Bool.and_eq_true, Bool.not_eq_true', decide_eq_false_iff_not] at h67
                  exact J.fidx_eq hk (by rw [← hgd]; show (!_) = true; rw [h67.2]; rfl) h67.1
                have hst := J.insI_at (p := J.aft v.key) (x := (v.key, m)) hk hfk
                refine Aw_seq ?_
                refine Aw_region ?_
                refine Al_pu (Pu_move (.inl rfl) (by conv => lhs; whnf)) rfl rfl (by decide) (by kernel_rfl) ?_
                refine Al_pu (Pu_field 0 rfl Tryz.underlying36 rfl rfl Tryz.sizeOf9 rfl) rfl rfl (by decide) (by kernel_rfl) ?_
                refine Al_pu (Pu_load1 rfl Tryz.isAgg9 rfl rfl) rfl rfl (by decide) (by kernel_rfl) ?_
                refine Al_pu (Pu_move (.inl rfl) (by conv => lhs; whnf)) rfl rfl (by decide) (by kernel_rfl) ?_
                refine Al_pu (Pu_build (aa := [(0, _), (1, _)]) rfl Tryz.underlying75 Tryz.zeroValue75 (places75 Tryz.underlying75) (by kernel_rfl) ⟨rfl, rfl, rfl, rfl, rfl, rfl, trivial⟩ rfl) rfl rfl (by decide) (by kernel_rfl) ?_
                refine Al_pu (Pu_slice1 rfl Tryz.underlying29 Tryz.sizeOf75 Tryz.zeroValue75 rfl (by decide) (by decide) (by kernel_rfl) rfl rfl rfl) rfl rfl (by decide) (by kernel_rfl) ?_
                refine Al_append rfl rfl rfl (by decide) (by kernel_rfl) elem29 (by decide) Tryz.sizeOf75 rfl rfl rfl (by simp only [List.length_map, List.length_cons, List.length_nil]; omega) (by decide) (fun g74 => ?_)
                refine Al_pu (Pu_move (.inr rfl) (by conv => lhs; whnf)) rfl rfl (by decide) (by kernel_rfl) ?_
                refine Al_nil ?_
                refine Aw_region ?_
                refine Al_pu (Pu_move (.inr rfl) (by conv => lhs; whnf)) rfl rfl (by decide) (by kernel_rfl) ?_
                refine Al_nil ?_
                refine Aw_region ?_
                refine Al_pu (Pu_move (.inl rfl) (by conv => lhs; whnf)) rfl rfl (by decide) (by kernel_rfl) ?_
                refine Al_pu (Pu_move (.inl rfl) (by conv => lhs; whnf)) rfl rfl (by decide) (by kernel_rfl) ?_
                refine Al_pu (Pu_nilb rfl rfl) rfl rfl (by decide) (by kernel_rfl) ?_
                refine Al_pu (Pu_fieldb 1 rfl Tryz.underlying31 rfl rfl Tryz.sizeOf29 rfl) rfl rfl (by decide) (by kernel_rfl) ?_
                refine Al_pu (Pu_loadb rfl Tryz.isAgg29 rfl rfl rfl) rfl rfl (by decide) (by kernel_rfl) ?_
                refine Al_pu (Pu_move (.inl rfl) (by conv => lhs; whnf)) rfl rfl (by decide) (by kernel_rfl) ?_
                refine Al_pu (Pu_indexOw (j := k) rfl Tryz.underlying29 Tryz.sizeOf75 rfl rfl rfl rfl (by rw [List.length_map]; omega)) rfl rfl (by decide) (by kernel_rfl) ?_
                refine Al_pu (Pu_loadArrN rfl Tryz.isAgg75 Tryz.sizeOf75 rfl rfl (J.chAll (cs := cs) hk) rfl) rfl rfl (by decide) (by kernel_rfl) ?_
                refine Al_pu (Pu_slice1 rfl Tryz.underlying29 Tryz.sizeOf75 Tryz.zeroValue75 rfl (by decide) (by decide) (by kernel_rfl) rfl rfl rfl) rfl rfl (by decide) (by kernel_rfl) ?_
                refine Al_append rfl rfl rfl (by decide) (by kernel_rfl) elem29 (by decide) Tryz.sizeOf75 rfl rfl rfl (by simp only [List.length_map, List.length_cons, List.length_nil, List.length_append]; omega) (by decide) (fun g84 => ?_)
                refine Al_pu (Pu_move (.inr rfl) (by conv => lhs; whnf)) rfl rfl (by decide) (by kernel_rfl) ?_
                refine Al_nil ?_
                refine Aw_region ?_
                refine Al_pu (Pu_move (.inl rfl) (by conv => lhs; whnf)) rfl rfl (by decide) (by kernel_rfl) ?_
                refine Al_pu (Pu_add rfl rfl rfl (fun h1 h2 => by simp only [A.inI, A.maxI] at *; omega)) rfl rfl (by decide) (by kernel_rfl) ?_
                refine Al_pu (Pu_move (.inr rfl) (by conv => lhs; whnf)) rfl rfl (by decide) (by kernel_rfl) ?_
                refine Al_nil ?_
                exact ⟨(k + 1, g84), by omega, by simp only []; omega, Le.ov ⟨Sub.num (by omega), Sub.rfl, Sub.bool (by simp; omega), trivial⟩ ⟨Sub.rfl, Sub.rfl, Sub.rfl, trivial⟩ ⟨obeq (by rw [hst, List.map_append, List.map_append, ← hgd, ← hgm]; rfl), trivial⟩ ⟨rfl, rfl, trivial⟩⟩ -- loop 0 next.0
              · skip
                have hfk : cs.findIdx (J.aft v.key) ≠ k := fun e => by
                  rw [e] at h67
                  simp only [Nat.lt_irrefl, decide_false, Bool.not_false, Bool.true_and] at h67
                  exact J.fidx_ne hk (by rw [← hgd]; exact h67) e
                have hst := J.insI_ne (p := J.aft v.key) (x := (v.key, m)) hk hfk
                refine Aw_skip ?_
                refine Aw_region ?_
                refine Al_pu (Pu_move (.inl rfl) (by conv => lhs; whnf)) rfl rfl (by decide) (by kernel_rfl) ?_
                refine Al_pu (Pu_move (.inl rfl) (by conv => lhs; whnf)) rfl rfl (by decide) (by kernel_rfl) ?_
                refine Al_pu (Pu_nilb rfl rfl) rfl rfl (by decide) (by kernel_rfl) ?_
                refine Al_pu (Pu_fieldb 1 rfl Tryz.underlying31 rfl rfl Tryz.sizeOf29 rfl) rfl rfl (by decide) (by kernel_rfl) ?_
                refine Al_pu (Pu_loadb rfl Tryz.isAgg29 rfl rfl rfl) rfl rfl (by decide) (by kernel_rfl) ?_
                refine Al_pu (Pu_move (.inl rfl) (by conv => lhs; whnf)) rfl rfl (by decide) (by kernel_rfl) ?_
                refine Al_pu (Pu_indexOw (j := k) rfl Tryz.underlying29 Tryz.sizeOf75 rfl rfl rfl rfl (by rw [List.length_map]; omega)) rfl rfl (by decide) (by kernel_rfl) ?_
                refine Al_pu (Pu_loadArrN rfl Tryz.isAgg75 Tryz.sizeOf75 rfl rfl (J.chAll (cs := cs) hk) rfl) rfl rfl (by decide) (by kernel_rfl) ?_
                refine Al_pu (Pu_slice1 rfl Tryz.underlying29 Tryz.sizeOf75 Tryz.zeroValue75 rfl (by decide) (by decide) (by kernel_rfl) rfl rfl rfl) rfl rfl (by decide) (by kernel_rfl) ?_
                refine Al_append rfl rfl rfl (by decide) (by kernel_rfl) elem29 (by decide) Tryz.sizeOf75 rfl rfl rfl (by simp only [List.length_map, List.length_cons, List.length_nil, List.length_append]; omega) (by decide) (fun g84 => ?_)
                refine Al_pu (Pu_move (.inr rfl) (by conv => lhs; whnf)) rfl rfl (by decide) (by kernel_rfl) ?_
                refine Al_nil ?_
                refine Aw_region ?_
                refine Al_pu (Pu_move (.inl rfl) (by conv => lhs; whnf)) rfl rfl (by decide) (by kernel_rfl) ?_
                refine Al_pu (Pu_add rfl rfl rfl (fun h1 h2 => by simp only [A.inI, A.maxI] at *; omega)) rfl rfl (by decide) (by kernel_rfl) ?_
                refine Al_pu (Pu_move (.inr rfl) (by conv => lhs; whnf)) rfl rfl (by decide) (by kernel_rfl) ?_
                refine Al_nil ?_
                exact ⟨(k + 1, g84), by omega, by simp only []; omega, Le.ov ⟨Sub.num (by omega), Sub.rfl, Sub.bool (decide_eq_decide.2 ⟨by omega, by omega⟩), trivial⟩ ⟨Sub.rfl, Sub.rfl, Sub.rfl, trivial⟩ ⟨obeq (by rw [hst, List.map_append, ← hgd]; rfl), trivial⟩ ⟨rfl, rfl, trivial⟩⟩ -- loop 0 next.1
            · (try simp only [decide_eq_true_eq, decide_eq_false_iff_not, List.length_map] at h50)
              have hkn : k = cs.length := by omega
              subst hkn
              have hol : (J.insI (J.aft v.key) (v.key, m) cs cs.length).length ≤ cs.length + 1 := J.insI_len
              refine Aw_exit ?_
              -- join 3: live [0, 8], turned [8]
              refine Aw_seq ?_
              refine Aw_seq ?_
              refine Aw_region ?_
              refine Al_pu (Pu_move (.inl rfl) (by conv => lhs; whnf)) rfl rfl (by decide) (by kernel_rfl) ?_
              refine Al_pu (Pu_not rfl rfl) rfl rfl (by decide) (by kernel_rfl) ?_
              refine Al_nil ?_
              refine Aw_cond rfl (fun h86 => ?_) (fun h86 => ?_)
              · (try simp only [decide_eq_true_eq, decide_eq_false_iff_not, List.length_map] at h86)
                rw [if_neg (by simpa using h86)] at hset
                refine Aw_region ?_
                refine Al_pu (Pu_move (.inl rfl) (by conv => lhs; whnf)) rfl rfl (by decide) (by kernel_rfl) ?_
                refine Al_pu (Pu_field 0 rfl Tryz.underlying36 rfl rfl Tryz.sizeOf9 rfl) rfl rfl (by decide) (by kernel_rfl) ?_
                refine Al_pu (Pu_load1 rfl Tryz.isAgg9 rfl rfl) rfl rfl (by decide) (by kernel_rfl) ?_
                refine Al_pu (Pu_move (.inl rfl) (by conv => lhs; whnf)) rfl rfl (by decide) (by kernel_rfl) ?_
                refine Al_pu (Pu_build (aa := [(0, _), (1, _)]) rfl Tryz.underlying75 Tryz.zeroValue75 (places75 Tryz.underlying75) (by kernel_rfl) ⟨rfl, rfl, rfl, rfl, rfl, rfl, trivial⟩ rfl) rfl rfl (by decide) (by kernel_rfl) ?_
                refine Al_pu (Pu_slice1 rfl Tryz.underlying29 Tryz.sizeOf75 Tryz.zeroValue75 rfl (by decide) (by decide) (by kernel_rfl) rfl rfl rfl) rfl rfl (by decide) (by kernel_rfl) ?_
                refine Al_append rfl rfl rfl (by decide) (by kernel_rfl) elem29 (by decide) Tryz.sizeOf75 rfl rfl rfl (by simp only [List.length_map, List.length_cons, List.length_nil]; omega) (by decide) (fun g93 => ?_)
                refine Al_pu (Pu_move (.inr rfl) (by conv => lhs; whnf)) rfl rfl (by decide) (by kernel_rfl) ?_
                refine Al_nil ?_
                refine Aw_seq ?_
                refine Aw_region ?_
                refine Al_pu (Pu_move (.inl rfl) (by conv => lhs; whnf)) rfl rfl (by decide) (by kernel_rfl) ?_
                refine Al_pu (Pu_move (.inl rfl) (by conv => lhs; whnf)) rfl rfl (by decide) (by kernel_rfl) ?_
                refine Al_pu (Pu_nilb rfl rfl) rfl rfl (by decide) (by kernel_rfl) ?_
                refine Al_pu (Pu_fieldb 1 rfl Tryz.underlying31 rfl rfl Tryz.sizeOf29 rfl) rfl rfl (by decide) (by kernel_rfl) ?_
                refine Al_store1 rfl rfl rfl (by kernel_rfl) Tryz.isAgg29 Tryz.sizeOf29 rfl rfl (Nat.le_of_ble_eq_true rfl) (by conv => lhs; whnf) rfl ?_
                refine Al_nil ?_
                refine Aw_seq ?_
                refine Aw_region ?_
                refine Al_pu (Pu_move (.inr rfl) (by conv => lhs; whnf)) rfl rfl (by decide) (by kernel_rfl) ?_
                refine Al_nil ?_
                refine Aw_ret ?_
                exact ⟨_, _, [(1003, 8, g93)], rfl, Sub.bool (by rw [hyes]), ⟨rfl, obeq (by rw [hyes, hset, List.map_append, ← hgm]; rfl), trivial⟩, rfl⟩ -- ret 11
              · (try simp only [decide_eq_true_eq, decide_eq_false_iff_not, List.length_map] at h86)
                rw [if_pos (by simpa using h86)] at hset
                refine Aw_skip ?_
                refine Aw_seq ?_
                refine Aw_region ?_
                refine Al_pu (Pu_move (.inl rfl) (by conv => lhs; whnf)) rfl rfl (by decide) (by kernel_rfl) ?_
                refine Al_pu (Pu_move (.inl rfl) (by conv => lhs; whnf)) rfl rfl (by decide) (by kernel_rfl) ?_
                refine Al_pu (Pu_nilb rfl rfl) rfl rfl (by decide) (by kernel_rfl) ?_
                refine Al_pu (Pu_fieldb 1 rfl Tryz.underlying31 rfl rfl Tryz.sizeOf29 rfl) rfl rfl (by decide) (by kernel_rfl) ?_
                refine Al_store1 rfl rfl rfl (by kernel_rfl) Tryz.isAgg29 Tryz.sizeOf29 rfl rfl (Nat.le_of_ble_eq_true rfl) (by conv => lhs; whnf) rfl ?_
                refine Al_nil ?_
                refine Aw_seq ?_
                refine Aw_region ?_
                refine Al_pu (Pu_move (.inr rfl) (by conv => lhs; whnf)) rfl rfl (by decide) (by kernel_rfl) ?_
                refine Al_nil ?_
                refine Aw_ret ?_
                exact ⟨_, _, [(1003, 8, g)], rfl, Sub.bool (by rw [hyes]), ⟨rfl, obeq (by rw [hyes, hset]), trivial⟩, rfl⟩ -- ret 12
    · refine Al_pu (Pu_loadN rfl Tryz.isAgg36 Tryz.sizeOf36 rfl (Nat.le_of_ble_eq_true rfl)) rfl rfl (by decide) (by kernel_rfl) ?_
      refine Al_nil ?_
      refine Ad_one 1 rfl (by kernel_rfl) ?_
      refine Al_pu (Pu_field 0 rfl Tryz.underlying36 rfl rfl Tryz.sizeOf9 rfl) rfl rfl (by decide) (by kernel_rfl) ?_
      refine Al_nil ?_
      refine Ad_one 2 rfl (by kernel_rfl) ?_
      refine Al_pu (Pu_load1 rfl Tryz.isAgg9 rfl rfl) rfl rfl (by decide) (by kernel_rfl) ?_
      refine Al_nil ?_
      refine Ad_one 3 rfl (by kernel_rfl) ?_
      refine Al_gcall [(1001, 1001, 0), (1002, 1002, 0)] [] (rof13_g rs cs v.key hcl) rfl rfl rfl (by decide) (by kernel_rfl) ⟨rfl, rfl, trivial⟩ rfl ⟨Sub.rfl, Sub.rfl, trivial⟩ (fun g23 => ?_)
      refine Al_nil ?_
      refine Ad_one 5 rfl (by kernel_rfl) ?_
      refine Al_pu (Pu_call (hpu) rfl ⟨Sub.rfl, Sub.rfl, trivial⟩) rfl rfl (by decide) (by kernel_rfl) ?_
      refine Al_nil ?_
      refine Ad_take 6 rfl (PuI_move (.inl rfl) (by conv => lhs; whnf)) rfl rfl (by decide) (by kernel_rfl) (by kernel_rfl) (by kernel_rfl) (by kernel_rfl) (fun _ _ h => h) ?_
      refine Ad_take 7 rfl (PuI_extract rfl rfl rfl) rfl rfl (by decide) (by kernel_rfl) (by kernel_rfl) (by kernel_rfl) (by kernel_rfl) (fun _ _ h => h) ?_
      refine Ad_take 8 rfl (PuI_extract rfl rfl rfl) rfl rfl (by decide) (by kernel_rfl) (by kernel_rfl) (by kernel_rfl) (by kernel_rfl) (fun _ _ h => h) ?_
      refine Ad_take 9 rfl (PuI_move (.inr rfl) (by conv => lhs; whnf)) rfl rfl (by decide) (by kernel_rfl) (by kernel_rfl) (by kernel_rfl) (by kernel_rfl) (fun _ _ h => h) ?_
      refine Ad_take 10 rfl (PuI_move (.inr rfl) (by conv => lhs; whnf)) rfl rfl (by decide) (by kernel_rfl) (by kernel_rfl) (by kernel_rfl) (by kernel_rfl) (fun _ _ h => h) ?_
      refine Ad_done (by kernel_rfl) ?_
      refine Aw_seq ?_
      refine Aw_seq ?_
      refine Aw_region ?_
      refine Al_pu (Pu_move (.inl rfl) (by conv => lhs; whnf)) rfl rfl (by decide) (by kernel_rfl) ?_
      refine Al_pu (Pu_not rfl rfl) rfl rfl (by decide) (by kernel_rfl) ?_
      refine Al_nil ?_
      refine Aw_cond rfl (fun h29 => ?_) (fun h29 => ?_)
      · skip
        have hyes : J.sput rs cs v = (cs, false) := by
          unfold J.sput
          rw [if_neg hfn]
          cases hp : J.put (J.getC cs v.key) v with
          | none => rfl
          | some l => rw [hp] at h29; cases h29
        refine Aw_seq ?_
        refine Aw_region ?_
        refine Al_pu (Pu_move (.inr rfl) (by conv => lhs; whnf)) rfl rfl (by decide) (by kernel_rfl) ?_
        refine Al_nil ?_
        refine Aw_ret ?_
        exact ⟨_, _, [(1003, 1002, 0)], rfl, Sub.bool (by rw [hyes]), ⟨rfl, obeq (by rw [hyes]), trivial⟩, rfl⟩ -- ret 13
      · skip
        obtain ⟨m, hm⟩ : ∃ m, J.put (J.getC cs v.key) v = some m := by
          cases hp : J.put (J.getC cs v.key) v with
          | none => rw [hp] at h29; cases h29
          | some l => exact ⟨l, rfl⟩
        have hyes : J.sput rs cs v = (J.setC cs v.key m, true) := by
          unfold J.sput
          rw [if_neg hfn, hm]
        have hgm : (J.put (J.getC cs v.key) v).getD (J.getC cs v.key) = m := by rw [hm]; rfl
        refine Aw_skip ?_
        refine Aw_seq ?_
        refine Aw_region ?_
        refine Al_pu (Pu_move (.inl rfl) (by conv => lhs; whnf)) rfl rfl (by decide) (by kernel_rfl) ?_
        refine Al_pu (Pu_field 0 rfl Tryz.underlying36 rfl rfl Tryz.sizeOf9 rfl) rfl rfl (by decide) (by kernel_rfl) ?_
        refine Al_pu (Pu_load1 rfl Tryz.isAgg9 rfl rfl) rfl rfl (by decide) (by kernel_rfl) ?_
        refine Al_gcall [(1001, 1001, 0), (1002, 1002, 0)] [] (rpos13_g rs cs v.key hcl) rfl rfl rfl (by decide) (by kernel_rfl) ⟨rfl, rfl, trivial⟩ rfl ⟨Sub.rfl, Sub.rfl, trivial⟩ (fun g33 => ?_)
        refine Al_pu (Pu_move (.inr rfl) (by conv => lhs; whnf)) rfl rfl (by decide) (by kernel_rfl) ?_
        refine Al_nil ?_
        refine Aw_seq ?_
        refine Aw_seq ?_
        refine Aw_region ?_
        refine Al_pu (Pu_move (.inl rfl) (by conv => lhs; whnf)) rfl rfl (by decide) (by kernel_rfl) ?_
        refine Al_pu (Pu_cmp rfl rfl rfl rfl) rfl rfl (by decide) (by kernel_rfl) ?_
        refine Al_nil ?_
        refine Aw_cond rfl (fun h35 => ?_) (fun h35 => ?_)
        · (try simp only [decide_eq_true_eq, decide_eq_false_iff_not, List.length_map] at h35)
          obtain ⟨i, hi, hp, hk, hlk⟩ : ∃ i, ∃ hi : i < cs.length, J.rpos cs v.key = (i : Int) ∧ cs[i].1 = v.key ∧ J.look cs v.key = some cs[i].2 := by
            rcases J.rpos_look cs v.key with ⟨h, _⟩ | h
            · omega
            · exact h
          have hgd : cs.getD i default = cs[i] := by simp [hi]
          have hset : J.setC cs v.key m = cs.set i ((cs.getD i default).1, m) := by rw [← hk, J.setC_old hr hi, hgd]
          refine Aw_seq ?_
          refine Aw_region ?_
          refine Al_pu (Pu_move (.inl rfl) (by conv => lhs; whnf)) rfl rfl (by decide) (by kernel_rfl) ?_
          refine Al_pu (Pu_nilb rfl rfl) rfl rfl (by decide) (by kernel_rfl) ?_
          refine Al_pu (Pu_fieldb 1 rfl Tryz.underlying31 rfl rfl Tryz.sizeOf29 rfl) rfl rfl (by decide) (by kernel_rfl) ?_
          refine Al_pu (Pu_loadb rfl Tryz.isAgg29 rfl rfl rfl) rfl rfl (by decide) (by kernel_rfl) ?_
          refine Al_pu (Pu_move (.inl rfl) (by conv => lhs; whnf)) rfl rfl (by decide) (by kernel_rfl) ?_
          refine Al_pu (Pu_move (.inl rfl) (by conv => lhs; whnf)) rfl rfl (by decide) (by kernel_rfl) ?_
          refine Al_pu (Pu_indexOw (j := i) rfl Tryz.underlying29 Tryz.sizeOf75 rfl rfl rfl hp (by rw [List.length_map]; omega)) rfl rfl (by decide) (by kernel_rfl) ?_
          refine Al_pu (Pu_fieldb 1 rfl Tryz.underlying75 rfl rfl Tryz.sizeOf47 rfl) rfl rfl (by decide) (by kernel_rfl) ?_
          refine Al_storeArr ((cs.set i ((cs.getD i default).1, (J.put (J.getC cs v.key) v).getD (J.getC cs v.key))).map chR) rfl rfl rfl (by kernel_rfl) Tryz.sizeOf47 rfl rfl rfl rfl rfl (by rw [List.length_map]; omega) (by simp) (J.ch_un _) (J.ch_set hi _) ?_
          refine Al_nil ?_
          refine Aw_seq ?_
          refine Aw_region ?_
          refine Al_pu (Pu_move (.inr rfl) (by conv => lhs; whnf)) rfl rfl (by decide) (by kernel_rfl) ?_
          refine Al_nil ?_
          refine Aw_ret ?_
          exact ⟨_, _, [(1003, 1002, 0)], rfl, Sub.bool (by rw [hyes]), ⟨rfl, obeq (by rw [hyes, hset, hgm]), trivial⟩, rfl⟩ -- ret 14
        · (try simp only [decide_eq_true_eq, decide_eq_false_iff_not, List.length_map] at h35)
          have hlk : J.look cs v.key = none := by
            rcases J.rpos_look cs v.key with ⟨_, h⟩ | ⟨i, _, h, _⟩
            · exact h
            · omega
          have hset := J.setC_ins cs v.key m hlk
          refine Aw_skip ?_
          refine Aw_seq ?_
          refine Aw_region ?_
          refine Al_pu (Pu_move (.inr rfl) (by conv => lhs; whnf)) rfl rfl (by decide) (by kernel_rfl) ?_
          refine Al_nil ?_
          refine Aw_seq ?_
          refine Aw_region ?_
          refine Al_pu (Pu_move (.inr rfl) (by conv => lhs; whnf)) rfl rfl (by decide) (by kernel_rfl) ?_
          refine Al_nil ?_
          refine Aw_seq ?_
          refine Aw_seq ?_
          refine Aw_region ?_
          refine Al_pu (Pu_move (.inr rfl) (by conv => lhs; whnf)) rfl rfl (by decide) (by kernel_rfl) ?_
          refine Al_nil ?_
          refine Aw_block ?_
          refine Aw_own (j := 8) (k := 8) (T := 75) (n := 2) rfl (fun g0 => ?_)
          refine Aw_loopk (ι := Nat × Nat) [0, 3, 5] [1001, 1002] (fun (k, g) => [(10, .d (iv k)), (8, .ow 8 g), (9, .d (bv (decide (cs.findIdx (J.aft v.key) < k))))]) (fun (k, g) => [(8, g, .arr 75 2 ((J.insI (J.aft v.key) (v.key, m) cs k).map chR))]) (fun (k, g) => k ≤ cs.length) (fun (k, g) => cs.length - k) ((0, g0)) (Nat.zero_le _) ⟨Sub.rfl, Sub.rfl, Sub.bool (by simp), trivial⟩ ⟨obeq (by rw [J.insI_zero]; rfl), trivial⟩ ?_
          rintro ⟨k, g⟩ hk0
          refine Aw_seq ?_
          refine Aw_seq ?_
          refine Aw_region ?_
          refine Al_pu (Pu_move (.inl rfl) (by conv => lhs; whnf)) rfl rfl (by decide) (by kernel_rfl) ?_
          refine Al_pu (Pu_move (.inl rfl) (by conv => lhs; whnf)) rfl rfl (by decide) (by kernel_rfl) ?_
          refine Al_pu (Pu_nilb rfl rfl) rfl rfl (by decide) (by kernel_rfl) ?_
          refine Al_pu (Pu_fieldb 1 rfl Tryz.underlying31 rfl rfl Tryz.sizeOf29 rfl) rfl rfl (by decide) (by kernel_rfl) ?_
          refine Al_pu (Pu_loadb rfl Tryz.isAgg29 rfl rfl rfl) rfl rfl (by decide) (by kernel_rfl) ?_
          refine Al_pu (Pu_lenOw rfl Tryz.underlying29 rfl rfl (List.length_map ..)) rfl rfl (by decide) (by kernel_rfl) ?_
          refine Al_pu (Pu_cmp rfl rfl rfl rfl) rfl rfl (by decide) (by kernel_rfl) ?_
          refine Al_nil ?_
          refine Aw_cond rfl (fun h50 => ?_) (fun h50 => ?_)
          · (try simp only [decide_eq_true_eq, decide_eq_false_iff_not, List.length_map] at h50)
            have hk : k < cs.length := by omega
            have hgd : cs.getD k default = cs[k] := by simp [hk]
            have hol : (J.insI (J.aft v.key) (v.key, m) cs k).length ≤ cs.length + 1 := J.insI_len
            refine Aw_skip ?_
            -- join 1: live [0, 3, 5, 8, 9, 10], turned [8, 9]
            refine Aw_seq ?_
            refine Aw_block ?_
            -- join 2: live [0, 3, 5, 8, 9, 10], turned [8, 9]
            refine Aw_seq ?_
            refine Aw_seq ?_
            refine Aw_draw 15 (by kernel_rfl) (by kernel_rfl) ?_
            refine Dr_pu (Pu_move (.inl rfl) (by conv => lhs; whnf)) rfl rfl ?_
            refine Dr_pu (Pu_not rfl rfl) rfl rfl ?_
            refine Dr_pu (Pu_move (.inl rfl) (by conv => lhs; whnf)) rfl rfl ?_
            refine Dr_st (St_gd [] rfl rfl rfl rfl trivial (fun hg56 => by exact Pu_move (.inl rfl) (by conv => lhs; whnf))) rfl ?_
            refine Dr_st (St_gd [56] rfl rfl rfl rfl ⟨⟨_, rfl⟩, trivial⟩ (fun hg57 => Pu_nilb rfl rfl)) rfl ?_
            refine Dr_st (St_gd [57] rfl rfl rfl rfl ⟨⟨_, rfl⟩, trivial⟩ (fun hg58 => Pu_fieldb 1 rfl Tryz.underlying31 rfl rfl Tryz.sizeOf29 rfl)) rfl ?_
            refine Dr_st (St_gd [58] rfl rfl rfl rfl ⟨⟨_, rfl⟩, trivial⟩ (fun hg59 => Pu_loadb rfl Tryz.isAgg29 rfl rfl rfl)) rfl ?_
            refine Dr_st (St_gd [] rfl rfl rfl rfl trivial (fun hg60 => by exact Pu_move (.inl rfl) (by conv => lhs; whnf))) rfl ?_
            refine Dr_st (St_gd [59, 60] rfl rfl rfl rfl ⟨⟨_, rfl⟩, ⟨_, rfl⟩, trivial⟩ (fun hg61 => by exact Pu_indexOw (j := k) rfl Tryz.underlying29 Tryz.sizeOf75 rfl rfl rfl rfl (by rw [List.length_map]; exact hk))) rfl ?_
            refine Dr_st (St_gd [61] rfl rfl rfl rfl ⟨⟨_, rfl⟩, trivial⟩ (fun hg62 => Pu_fieldb 0 rfl Tryz.underlying75 rfl rfl Tryz.sizeOf9 rfl)) rfl ?_
            refine Dr_st (St_gd [62] rfl rfl rfl rfl ⟨⟨_, rfl⟩, trivial⟩ (fun hg63 => Pu_loadArr rfl Tryz.isAgg9 rfl rfl (J.chKey (cs := cs) hk))) rfl ?_
            refine Dr_st (St_gd [] rfl rfl rfl rfl trivial (fun hg64 => Pu_field 0 rfl Tryz.underlying36 rfl rfl Tryz.sizeOf9 rfl)) rfl ?_
            refine Dr_st (St_gd [64] rfl rfl rfl rfl ⟨⟨_, rfl⟩, trivial⟩ (fun hg65 => Pu_load1 rfl Tryz.isAgg9 rfl rfl)) rfl ?_
            refine Dr_st (St_gd [63, 65] rfl rfl rfl rfl ⟨⟨_, rfl⟩, ⟨_, rfl⟩, trivial⟩ (fun hg66 => Pu_str rfl rfl rfl rfl)) rfl ?_
            refine Dr_pu (Pu_and rfl rfl rfl rfl) rfl rfl ?_
            refine Dr_nil ?_
            refine Al_nil ?_
            refine Aw_cond rfl (fun h67 => ?_) (fun h67 => ?_)
            · skip
              have hfk : cs.findIdx (J.aft v.key) = k := by
                simp only [Bool.and_eq_true, Bool.not_eq_true', decide_eq_false_iff_not] at h67
                exact J.fidx_eq hk (by rw [← hgd]; show (!_) = true; rw [h67.2]; rfl) h67.1
              have hst := J.insI_at (p := J.aft v.key) (x := (v.key, m)) hk hfk
              refine Aw_seq ?_
              refine Aw_region ?_
              refine Al_pu (Pu_move (.inl rfl) (by conv => lhs; whnf)) rfl rfl (by decide) (by kernel_rfl) ?_
              refine Al_pu (Pu_field 0 rfl Tryz.underlying36 rfl rfl Tryz.sizeOf9 rfl) rfl rfl (by decide) (by kernel_rfl) ?_
              refine Al_pu (Pu_load1 rfl Tryz.isAgg9 rfl rfl) rfl rfl (by decide) (by kernel_rfl) ?_
              refine Al_pu (Pu_move (.inl rfl) (by conv => lhs; whnf)) rfl rfl (by decide) (by kernel_rfl) ?_
              refine Al_pu (Pu_build (aa := [(0, _), (1, _)]) rfl Tryz.underlying75 Tryz.zeroValue75 (places75 Tryz.underlying75) (by kernel_rfl) ⟨rfl, rfl, rfl, rfl, rfl, rfl, trivial⟩ rfl) rfl rfl (by decide) (by kernel_rfl) ?_
              refine Al_pu (Pu_slice1 rfl Tryz.underlying29 Tryz.sizeOf75 Tryz.zeroValue75 rfl (by decide) (by decide) (by kernel_rfl) rfl rfl rfl) rfl rfl (by decide) (by kernel_rfl) ?_
              refine Al_append rfl rfl rfl (by decide) (by kernel_rfl) elem29 (by decide) Tryz.sizeOf75 rfl rfl rfl (by simp only [List.length_map, List.length_cons, List.length_nil]; omega) (by decide) (fun g74 => ?_)
              refine Al_pu (Pu_move (.inr rfl) (by conv => lhs; whnf)) rfl rfl (by decide) (by kernel_rfl) ?_
              refine Al_nil ?_
              refine Aw_region ?_
              refine Al_pu (Pu_move (.inr rfl) (by conv => lhs; whnf)) rfl rfl (by decide) (by kernel_rfl) ?_
              refine Al_nil ?_
              refine Aw_region ?_
              refine Al_pu (Pu_move (.inl rfl) (by conv => lhs; whnf)) rfl rfl (by decide) (by kernel_rfl) ?_
              refine Al_pu (Pu_move (.inl rfl) (by conv => lhs; whnf)) rfl rfl (by decide) (by kernel_rfl) ?_
              refine Al_pu (Pu_nilb rfl rfl) rfl rfl (by decide) (by kernel_rfl) ?_
              refine Al_pu (Pu_fieldb 1 rfl Tryz.underlying31 rfl rfl Tryz.sizeOf29 rfl) rfl rfl (by decide) (by kernel_rfl) ?_
              refine Al_pu (Pu_loadb rfl Tryz.isAgg29 rfl rfl rfl) rfl rfl (by decide) (by kernel_rfl) ?_
              refine Al_pu (Pu_move (.inl rfl) (by conv => lhs; whnf)) rfl rfl (by decide) (by kernel_rfl) ?_
              refine Al_pu (Pu_indexOw (j := k) rfl Tryz.underlying29 Tryz.sizeOf75 rfl rfl rfl rfl (by rw [List.length_map]; omega)) rfl rfl (by decide) (by kernel_rfl) ?_
              refine Al_pu (Pu_loadArrN rfl Tryz.isAgg75 Tryz.sizeOf75 rfl rfl (J.chAll (cs := cs) hk) rfl) rfl rfl (by decide) (by kernel_rfl) ?_
              refine Al_pu (Pu_slice1 rfl Tryz.underlying29 Tryz.sizeOf75 Tryz.zeroValue75 rfl (by decide) (by decide) (by kernel_rfl) rfl rfl rfl) rfl rfl (by decide) (by kernel_rfl) ?_
              refine Al_append rfl rfl rfl (by decide) (by kernel_rfl) elem29 (by decide) Tryz.sizeOf75 rfl rfl rfl (by simp only [List.length_map, List.length_cons, List.length_nil, List.length_append]; omega) (by decide) (fun g84 => ?_)
              refine Al_pu (Pu_move (.inr rfl) (by conv => lhs; whnf)) rfl rfl (by decide) (by kernel_rfl) ?_
              refine Al_nil ?_
              refine Aw_region ?_
              refine Al_pu (Pu_move (.inl rfl) (by conv => lhs; whnf)) rfl rfl (by decide) (by kernel_rfl) ?_
              refine Al_pu (Pu_add rfl rfl rfl (fun h1 h2 => by simp only [A.inI, A.maxI] at *; omega)) rfl rfl (by decide) (by kernel_rfl) ?_
              refine Al_pu (Pu_move (.inr rfl) (by conv => lhs; whnf)) rfl rfl (by decide) (by kernel_rfl) ?_
              refine Al_nil ?_
              exact ⟨(k + 1, g84), by omega, by simp only []; omega, Le.ov ⟨Sub.num (by omega), Sub.rfl, Sub.bool (by simp; omega), trivial⟩ ⟨Sub.rfl, Sub.rfl, Sub.rfl, trivial⟩ ⟨obeq (by rw [hst, List.map_append, List.map_append, ← hgd, ← hgm]; rfl), trivial⟩ ⟨rfl, rfl, trivial⟩⟩ -- loop 0 next.0
            · skip
              have hfk : cs.findIdx (J.aft v.key) ≠ k := fun e => by
                rw [e] at h67
                simp only [Nat.lt_irrefl, decide_false, Bool.not_false, Bool.true_and] at h67
                exact J.fidx_ne hk (by rw [← hgd]; exact h67) e
              have hst := J.insI_ne (p := J.aft v.key) (x := (v.key, m)) hk hfk
              refine Aw_skip ?_
              refine Aw_region ?_
              refine Al_pu (Pu_move (.inl rfl) (by conv => lhs; whnf)) rfl rfl (by decide) (by kernel_rfl) ?_
              refine Al_pu (Pu_move (.inl rfl) (by conv => lhs; whnf)) rfl rfl (by decide) (by kernel_rfl) ?_
              refine Al_pu (Pu_nilb rfl rfl) rfl rfl (by decide) (by kernel_rfl) ?_
              refine Al_pu (Pu_fieldb 1 rfl Tryz.underlying31 rfl rfl Tryz.sizeOf29 rfl) rfl rfl (by decide) (by kernel_rfl) ?_
              refine Al_pu (Pu_loadb rfl Tryz.isAgg29 rfl rfl rfl) rfl rfl (by decide) (by kernel_rfl) ?_
              refine Al_pu (Pu_move (.inl rfl) (by conv => lhs; whnf)) rfl rfl (by decide) (by kernel_rfl) ?_
              refine Al_pu (Pu_indexOw (j := k) rfl Tryz.underlying29 Tryz.sizeOf75 rfl rfl rfl rfl (by rw [List.length_map]; omega)) rfl rfl (by decide) (by kernel_rfl) ?_
              refine Al_pu (Pu_loadArrN rfl Tryz.isAgg75 Tryz.sizeOf75 rfl rfl (J.chAll (cs := cs) hk) rfl) rfl rfl (by decide) (by kernel_rfl) ?_
              refine Al_pu (Pu_slice1 rfl Tryz.underlying29 Tryz.sizeOf75 Tryz.zeroValue75 rfl (by decide) (by decide) (by kernel_rfl) rfl rfl rfl) rfl rfl (by decide) (by kernel_rfl) ?_
              refine Al_append rfl rfl rfl (by decide) (by kernel_rfl) elem29 (by decide) Tryz.sizeOf75 rfl rfl rfl (by simp only [List.length_map, List.length_cons, List.length_nil, List.length_append]; omega) (by decide) (fun g84 => ?_)
              refine Al_pu (Pu_move (.inr rfl) (by conv => lhs; whnf)) rfl rfl (by decide) (by kernel_rfl) ?_
              refine Al_nil ?_
              refine Aw_region ?_
              refine Al_pu (Pu_move (.inl rfl) (by conv => lhs; whnf)) rfl rfl (by decide) (by kernel_rfl) ?_
              refine Al_pu (Pu_add rfl rfl rfl (fun h1 h2 => by simp only [A.inI, A.maxI] at *; omega)) rfl rfl (by decide) (by kernel_rfl) ?_
              refine Al_pu (Pu_move (.inr rfl) (by conv => lhs; whnf)) rfl rfl (by decide) (by kernel_rfl) ?_
              refine Al_nil ?_
              exact ⟨(k + 1, g84), by omega, by simp only []; omega, Le.ov ⟨Sub.num (by omega), Sub.rfl, Sub.bool (decide_eq_decide.2 ⟨by omega, by omega⟩), trivial⟩ ⟨Sub.rfl, Sub.rfl, Sub.rfl, trivial⟩ ⟨obeq (by rw [hst, List.map_append, ← hgd]; rfl), trivial⟩ ⟨rfl, rfl, trivial⟩⟩ -- loop 0 next.1
          · (try simp only [decide_eq_true_eq, decide_eq_false_iff_not, List.length_map] at h50)
            have hkn : k = cs.length := by omega
            subst hkn
            have hol : (J.insI (J.aft v.key) (v.key, m) cs cs.length).length ≤ cs.length + 1 := J.insI_len
            refine Aw_exit ?_
            -- join 3: live [0, 8], turned [8]
            refine Aw_seq ?_
            refine Aw_seq ?_
            refine Aw_region ?_
            refine Al_pu (Pu_move (.inl rfl) (by conv => lhs; whnf)) rfl rfl (by decide) (by kernel_rfl) ?_
            refine Al_pu (Pu_not rfl rfl) rfl rfl (by decide) (by kernel_rfl) ?_
            refine Al_nil ?_
            refine Aw_cond rfl (fun h86 => ?_) (fun h86 => ?_)
            · (try simp only [decide_eq_true_eq, decide_eq_false_iff_not, List.length_map] at h86)
              rw [if_neg (by simpa using h86)] at hset
              refine Aw_region ?_
              refine Al_pu (Pu_move (.inl rfl) (by conv => lhs; whnf)) rfl rfl (by decide) (by kernel_rfl) ?_
              refine Al_pu (Pu_field 0 rfl Tryz.underlying36 rfl rfl Tryz.sizeOf9 rfl) rfl rfl (by decide) (by kernel_rfl) ?_
              refine Al_pu (Pu_load1 rfl Tryz.isAgg9 rfl rfl) rfl rfl (by decide) (by kernel_rfl) ?_
              refine Al_pu (Pu_move (.inl rfl) (by conv => lhs; whnf)) rfl rfl (by decide) (by kernel_rfl) ?_
              refine Al_pu (Pu_build (aa := [(0, _), (1, _)]) rfl Tryz.underlying75 Tryz.zeroValue75 (places75 Tryz.underlying75) (by kernel_rfl) ⟨rfl, rfl, rfl, rfl, rfl, rfl, trivial⟩ rfl) rfl rfl (by decide) (by kernel_rfl) ?_
              refine Al_pu (Pu_slice1 rfl Tryz.underlying29 Tryz.sizeOf75 Tryz.zeroValue75 rfl (by decide) (by decide) (by kernel_rfl) rfl rfl rfl) rfl rfl (by decide) (by kernel_rfl) ?_
              refine Al_append rfl rfl rfl (by decide) (by kernel_rfl) elem29 (by decide) Tryz.sizeOf75 rfl rfl rfl (by simp only [List.length_map, List.length_cons, List.length_nil]; omega) (by decide) (fun g93 => ?_)
              refine Al_pu (Pu_move (.inr rfl) (by conv => lhs; whnf)) rfl rfl (by decide) (by kernel_rfl) ?_
              refine Al_nil ?_
              refine Aw_seq ?_
              refine Aw_region ?_
              refine Al_pu (Pu_move (.inl rfl) (by conv => lhs; whnf)) rfl rfl (by decide) (by kernel_rfl) ?_
              refine Al_pu (Pu_move (.inl rfl) (by conv => lhs; whnf)) rfl rfl (by decide) (by kernel_rfl) ?_
              refine Al_pu (Pu_nilb rfl rfl) rfl rfl (by decide) (by kernel_rfl) ?_
              refine Al_pu (Pu_fieldb 1 rfl Tryz.underlying31 rfl rfl Tryz.sizeOf29 rfl) rfl rfl (by decide) (by kernel_rfl) ?_
              refine Al_store1 rfl rfl rfl (by kernel_rfl) Tryz.isAgg29 Tryz.sizeOf29 rfl rfl (Nat.le_of_ble_eq_true rfl) (by conv => lhs; whnf) rfl ?_
              refine Al_nil ?_
              refine Aw_seq ?_
              refine Aw_region ?_
              refine Al_pu (Pu_move (.inr rfl) (by conv => lhs; whnf)) rfl rfl (by decide) (by kernel_rfl) ?_
              refine Al_nil ?_
              refine Aw_ret ?_
              exact ⟨_, _, [(1003, 8, g93)], rfl, Sub.bool (by rw [hyes]), ⟨rfl, obeq (by rw [hyes, hset, List.map_append, ← hgm]; rfl), trivial⟩, rfl⟩ -- ret 15
            · (try simp only [decide_eq_true_eq, decide_eq_false_iff_not, List.length_map] at h86)
              rw [if_pos (by simpa using h86)] at hset
              refine Aw_skip ?_
              refine Aw_seq ?_
              refine Aw_region ?_
              refine Al_pu (Pu_move (.inl rfl) (by conv => lhs; whnf)) rfl rfl (by decide) (by kernel_rfl) ?_
              refine Al_pu (Pu_move (.inl rfl) (by conv => lhs; whnf)) rfl rfl (by decide) (by kernel_rfl) ?_
              refine Al_pu (Pu_nilb rfl rfl) rfl rfl (by decide) (by kernel_rfl) ?_
              refine Al_pu (Pu_fieldb 1 rfl Tryz.underlying31 rfl rfl Tryz.sizeOf29 rfl) rfl rfl (by decide) (by kernel_rfl) ?_
              refine Al_store1 rfl rfl rfl (by kernel_rfl) Tryz.isAgg29 Tryz.sizeOf29 rfl rfl (Nat.le_of_ble_eq_true rfl) (by conv => lhs; whnf) rfl ?_
              refine Al_nil ?_
              refine Aw_seq ?_
              refine Aw_region ?_
              refine Al_pu (Pu_move (.inr rfl) (by conv => lhs; whnf)) rfl rfl (by decide) (by kernel_rfl) ?_
              refine Al_nil ?_
              refine Aw_ret ?_
              exact ⟨_, _, [(1003, 8, g)], rfl, Sub.bool (by rw [hyes]), ⟨rfl, obeq (by rw [hyes, hset]), trivial⟩, rfl⟩ -- ret 16
namespace J
theorem cleanTo_len (cs : SC) (n s : Int) (pins : List Dep) (i : Nat) : (cleanTo cs n s pins i).length = cs.length := by
  have := congrArg List.length (cleanTo_keys cs n s pins i)
  simpa using this
theorem cleanTo_at (cs : SC) (n s : Int) (pins : List Dep) {i : Nat} (hi : i < cs.length) : (cleanTo cs n s pins i).getD i default = cs[i] := by
  unfold cleanTo
  rw [List.getD_eq_getElem?_getD, List.getElem?_append_right (by simp; omega)]
  simp [hi, Nat.min_eq_left (Nat.le_of_lt hi)]
theorem cleanTo_set (cs : SC) (n s : Int) (pins : List Dep) {i : Nat} (hi : i < cs.length) : (cleanTo cs n s pins i).set i (cs[i].1, clean cs[i].2 n s (pinsOf pins cs[i].1)) = cleanTo cs n s pins (i + 1) := by
  unfold cleanTo
  rw [List.take_succ_eq_append_getElem hi, List.map_append, List.set_append_right _ _ (by simp; omega)]
  simp [Nat.min_eq_left (Nat.le_of_lt hi)]
  rw [List.drop_eq_getElem_cons hi]; rfl
end J
theorem rclean13_g (rs : List Rng) (cs : SC) (n s : Int) (pins : List Dep) (hpl : pins.length ≤ 100000) (hs : J.Sm 1000 cs) (hch : J.Chns cs) : GCall Tryz.prog 9 [.bx 1001 0 0, .d (.row [iv n, iv s]), .d (.sl 3 (pins.map Dep.row))] (RH rs cs 1002) (some (RH rs (J.sclean cs n s pins) 1002, .d (.tup []))) := by
  refine GCall_enterL (fun _ _ => by kernel_rfl) Tryz.func9 rfl Tryz.ntmps9 (ReadsS.r0 Tryz.results9) (Nat.le_of_ble_eq_true rfl) (fun hok hokB M0 w0 hl => ?_)
  have hcl := hs.1
  refine Aw_seq ?_
  refine Aw_region ?_
  refine Al_pu (Pu_boxN rfl rfl) rfl rfl (by decide) (by kernel_rfl) ?_
  refine Al_nil ?_
  refine Aw_seq ?_
  refine Aw_region ?_
  refine Al_pu (Pu_move (.inr rfl) (by conv => lhs; whnf)) rfl rfl (by decide) (by kernel_rfl) ?_
  refine Al_nil ?_
  refine Aw_block ?_
  refine Aw_loopk (ι := Nat) [0, 2, 4] [1001] (fun i => [(6, .d (iv i))]) (fun i => [(1002, 0, .arr 75 2 ((J.cleanTo cs n s pins i).map chR))]) (fun i => i ≤ cs.length) (fun i => cs.length - i) (0) (Nat.zero_le _) ⟨Sub.rfl, trivial⟩ ⟨rfl, trivial⟩ ?_
  rintro i hk0
  refine Aw_seq ?_
  refine Aw_seq ?_
  refine Aw_region ?_
  refine Al_pu (Pu_move (.inl rfl) (by conv => lhs; whnf)) rfl rfl (by decide) (by kernel_rfl) ?_
  refine Al_pu (Pu_move (.inl rfl) (by conv => lhs; whnf)) rfl rfl (by decide) (by kernel_rfl) ?_
  refine Al_pu (Pu_nilb rfl rfl) rfl rfl (by decide) (by kernel_rfl) ?_
  refine Al_pu (Pu_fieldb 1 rfl Tryz.underlying31 rfl rfl Tryz.sizeOf29 rfl) rfl rfl (by decide) (by kernel_rfl) ?_
  refine Al_pu (Pu_loadb rfl Tryz.isAgg29 rfl rfl rfl) rfl rfl (by decide) (by kernel_rfl) ?_
  refine Al_pu (Pu_lenOw (m := cs.length) rfl Tryz.underlying29 rfl rfl (by rw [List.length_map]; exact J.cleanTo_len ..)) rfl rfl (by decide) (by kernel_rfl) ?_
  refine Al_pu (Pu_cmp rfl rfl rfl rfl) rfl rfl (by decide) (by kernel_rfl) ?_
  refine Al_nil ?_
  refine Aw_cond rfl (fun h15 => ?_) (fun h15 => ?_)
  · (try simp only [decide_eq_true_eq, decide_eq_false_iff_not, List.length_map] at h15)
    have hi : i < cs.length := by omega
    have hci : i < (J.cleanTo cs n s pins i).length := by rw [J.cleanTo_len]; exact hi
    have hat := J.cleanTo_at cs n s pins hi
    have hset := J.cleanTo_set cs n s pins hi
    have hlen2 : cs[i].2.length ≤ 1000 := (hs.2 _ (List.getElem_mem hi)).1
    have hc2 : J.Chn cs[i].2 := hch _ (List.getElem_mem hi)
    refine Aw_skip ?_
    -- join 0: live [0, 2, 4, 6], turned []
    refine Aw_seq ?_
    refine Aw_block ?_
    refine Aw_seq ?_
    refine Aw_region ?_
    refine Al_pu (Pu_move (.inr rfl) (by conv => lhs; whnf)) rfl rfl (by decide) (by kernel_rfl) ?_
    refine Al_nil ?_
    refine Aw_seq ?_
    refine Aw_seq ?_
    refine Aw_region ?_
    refine Al_pu (Pu_move (.inr rfl) (by conv => lhs; whnf)) rfl rfl (by decide) (by kernel_rfl) ?_
    refine Al_nil ?_
    refine Aw_block ?_
    refine Aw_own (j := 7) (k := 7) (T := 33) (n := 2) rfl (fun g0 => ?_)
    refine Aw_loopk (ι := Nat × Nat) [0, 2, 4, 6] [1001, 1002] (fun (j, g) => [(8, .d (iv j)), (7, .ow 7 g)]) (fun (j, g) => [(7, g, .arr 33 2 ((J.pinsOf (pins.take j) cs[i].1).map stA))]) (fun (j, g) => j ≤ pins.length) (fun (j, g) => pins.length - j) ((0, g0)) (Nat.zero_le _) ⟨Sub.rfl, Sub.rfl, trivial⟩ ⟨rfl, trivial⟩ ?_
    rintro ⟨j, g⟩ hk1
    refine Aw_seq ?_
    refine Aw_seq ?_
    refine Aw_region ?_
    refine Al_pu (Pu_move (.inl rfl) (by conv => lhs; whnf)) rfl rfl (by decide) (by kernel_rfl) ?_
    refine Al_pu (Pu_move (.inl rfl) (by conv => lhs; whnf)) rfl rfl (by decide) (by kernel_rfl) ?_
    refine Al_pu (Pu_len rfl Tryz.underlying34 rfl (by first | exact List.length_map .. | exact rfl)) rfl rfl (by decide) (by kernel_rfl) ?_
    refine Al_pu (Pu_cmp rfl rfl rfl rfl) rfl rfl (by decide) (by kernel_rfl) ?_
    refine Al_nil ?_
    refine Aw_cond rfl (fun h21 => ?_) (fun h21 => ?_)
    · (try simp only [decide_eq_true_eq, decide_eq_false_iff_not, List.length_map] at h21)
      have hj : j < pins.length := by omega
      have hps := J.pinsOf_succ hj cs[i].1
      have hpl2 : (J.pinsOf (pins.take j) cs[i].1).length ≤ 100000 := by
        unfold J.pinsOf
        have := List.length_filter_le (fun d : Dep => d.key.toList == cs[i].1.toList) (pins.take j)
        simp at *; omega
      refine Aw_skip ?_
      -- join 1: live [0, 2, 4, 6, 7, 8], turned [7]
      refine Aw_seq ?_
      refine Aw_block ?_
      -- join 2: live [0, 2, 4, 6, 7, 8, 37], turned [37]
      refine Aw_seq ?_
      refine Aw_drawP 13 1 (by kernel_rfl) (by kernel_rfl) rfl ?_
      refine Dr_pu (Pu_move (.inl rfl) (by conv => lhs; whnf)) rfl rfl ?_
      refine Dr_pu (Pu_move (.inl rfl) (by conv => lhs; whnf)) rfl rfl ?_
      refine Dr_pu (Pu_index rfl Tryz.underlying34 Tryz.sizeOf38 rfl rfl (rfl) (mapgetD (d := default) hj)) rfl rfl ?_
      refine Dr_pu (Pu_field 0 rfl Tryz.underlying38 rfl rfl Tryz.sizeOf9 rfl) rfl rfl ?_
      refine Dr_pu (Pu_load1 rfl Tryz.isAgg9 rfl rfl) rfl rfl ?_
      refine Dr_pu (Pu_move (.inl rfl) (by conv => lhs; whnf)) rfl rfl ?_
      refine Dr_pu (Pu_nilb rfl rfl) rfl rfl ?_
      refine Dr_pu (Pu_fieldb 1 rfl Tryz.underlying31 rfl rfl Tryz.sizeOf29 rfl) rfl rfl ?_
      refine Dr_pu (Pu_loadb rfl Tryz.isAgg29 rfl rfl rfl) rfl rfl ?_
      refine Dr_pu (Pu_move (.inl rfl) (by conv => lhs; whnf)) rfl rfl ?_
      refine Dr_pu (Pu_indexOw (j := i) rfl Tryz.underlying29 Tryz.sizeOf75 rfl rfl rfl rfl (by rw [List.length_map]; omega)) rfl rfl ?_
      refine Dr_pu (Pu_fieldb 0 rfl Tryz.underlying75 rfl rfl Tryz.sizeOf9 rfl) rfl rfl ?_
      refine Dr_pu (Pu_loadArr (c := tv cs[i].1) rfl Tryz.isAgg9 rfl rfl (by rw [← hat]; exact J.chKey hci)) rfl rfl ?_
      refine Dr_nil ?_
      refine Ad_one 13 rfl (by kernel_rfl) ?_
      refine Al_pu (Pu_str rfl rfl rfl rfl) rfl rfl (by decide) (by kernel_rfl) ?_
      refine Al_nil ?_
      refine Ad_done (by kernel_rfl) ?_
      refine Aw_cond rfl (fun h37 => ?_) (fun h37 => ?_)
      · skip
        refine Aw_region ?_
        refine Al_pu (Pu_move (.inl rfl) (by conv => lhs; whnf)) rfl rfl (by decide) (by kernel_rfl) ?_
        refine Al_pu (Pu_move (.inl rfl) (by conv => lhs; whnf)) rfl rfl (by decide) (by kernel_rfl) ?_
        refine Al_pu (Pu_move (.inl rfl) (by conv => lhs; whnf)) rfl rfl (by decide) (by kernel_rfl) ?_
        refine Al_pu (Pu_index rfl Tryz.underlying34 Tryz.sizeOf38 rfl rfl (rfl) (mapgetD (d := default) hj)) rfl rfl (by decide) (by kernel_rfl) ?_
        refine Al_pu (Pu_field 1 rfl Tryz.underlying38 rfl rfl Tryz.sizeOf33 rfl) rfl rfl (by decide) (by kernel_rfl) ?_
        refine Al_pu (Pu_loadN rfl Tryz.isAgg33 Tryz.sizeOf33 rfl (Nat.le_of_ble_eq_true rfl)) rfl rfl (by decide) (by kernel_rfl) ?_
        refine Al_pu (Pu_slice1 rfl Tryz.underlying71 Tryz.sizeOf33 Tryz.zeroValue33 rfl (by decide) (by decide) (by kernel_rfl) rfl rfl rfl) rfl rfl (by decide) (by kernel_rfl) ?_
        refine Al_append rfl rfl rfl (by decide) (by kernel_rfl) elem71 (by decide) Tryz.sizeOf33 rfl rfl rfl (by simp only [List.length_map, List.length_cons, List.length_nil]; omega) (by decide) (fun g45 => ?_)
        refine Al_pu (Pu_move (.inr rfl) (by conv => lhs; whnf)) rfl rfl (by decide) (by kernel_rfl) ?_
        refine Al_nil ?_
        refine Aw_region ?_
        refine Al_pu (Pu_move (.inl rfl) (by conv => lhs; whnf)) rfl rfl (by decide) (by kernel_rfl) ?_
        refine Al_pu (Pu_add rfl rfl rfl (fun h1 h2 => by simp only [A.inI, A.maxI] at *; omega)) rfl rfl (by decide) (by kernel_rfl) ?_
        refine Al_pu (Pu_move (.inr rfl) (by conv => lhs; whnf)) rfl rfl (by decide) (by kernel_rfl) ?_
        refine Al_nil ?_
        exact ⟨(j + 1, g45), by omega, by simp only []; omega, Le.ov ⟨Sub.num (by omega), Sub.rfl, trivial⟩ ⟨Sub.rfl, Sub.rfl, Sub.rfl, Sub.rfl, trivial⟩ ⟨obeq (by rw [hps, if_pos h37, List.map_append]; rfl), trivial⟩ ⟨rfl, rfl, trivial⟩⟩ -- loop 1 next.0
      · skip
        refine Aw_skip ?_
        refine Aw_region ?_
        refine Al_pu (Pu_move (.inl rfl) (by conv => lhs; whnf)) rfl rfl (by decide) (by kernel_rfl) ?_
        refine Al_pu (Pu_add rfl rfl rfl (fun h1 h2 => by simp only [A.inI, A.maxI] at *; omega)) rfl rfl (by decide) (by kernel_rfl) ?_
        refine Al_pu (Pu_move (.inr rfl) (by conv => lhs; whnf)) rfl rfl (by decide) (by kernel_rfl) ?_
        refine Al_nil ?_
        exact ⟨(j + 1, g), by omega, by simp only []; omega, Le.ov ⟨Sub.num (by omega), Sub.rfl, trivial⟩ ⟨Sub.rfl, Sub.rfl, Sub.rfl, Sub.rfl, trivial⟩ ⟨obeq (by rw [hps, if_neg (by rw [h37]; decide), List.append_nil]), trivial⟩ ⟨rfl, rfl, trivial⟩⟩ -- loop 1 next.1
    · (try simp only [decide_eq_true_eq, decide_eq_false_iff_not, List.length_map] at h21)
      have hjn : j = pins.length := by omega
      subst hjn
      refine Aw_exit ?_
      refine Aw_frzL hl (k := 7) [7] rfl ⟨rfl, ⟨_, rfl, fun _ _ h => h⟩, rfl, ⟨_, rfl, fun _ _ h => h⟩, trivial⟩ ⟨rfl, trivial⟩ ?_
      refine Aw_drawP 18 1 (by kernel_rfl) (by kernel_rfl) rfl ?_
      refine Dr_pu (Pu_move (.inl rfl) (by conv => lhs; whnf)) rfl rfl ?_
      refine Dr_pu (Pu_nilb rfl rfl) rfl rfl ?_
      refine Dr_pu (Pu_fieldb 1 rfl Tryz.underlying31 rfl rfl Tryz.sizeOf29 rfl) rfl rfl ?_
      refine Dr_pu (Pu_loadb rfl Tryz.isAgg29 rfl rfl rfl) rfl rfl ?_
      refine Dr_pu (Pu_move (.inl rfl) (by conv => lhs; whnf)) rfl rfl ?_
      refine Dr_pu (Pu_move (.inl rfl) (by conv => lhs; whnf)) rfl rfl ?_
      refine Dr_pu (Pu_nilb rfl rfl) rfl rfl ?_
      refine Dr_pu (Pu_fieldb 1 rfl Tryz.underlying31 rfl rfl Tryz.sizeOf29 rfl) rfl rfl ?_
      refine Dr_pu (Pu_loadb rfl Tryz.isAgg29 rfl rfl rfl) rfl rfl ?_
      refine Dr_pu (Pu_move (.inl rfl) (by conv => lhs; whnf)) rfl rfl ?_
      refine Dr_pu (Pu_indexOw (j := i) rfl Tryz.underlying29 Tryz.sizeOf75 rfl rfl rfl rfl (by rw [List.length_map]; omega)) rfl rfl ?_
      refine Dr_pu (Pu_fieldb 1 rfl Tryz.underlying75 rfl rfl Tryz.sizeOf47 rfl) rfl rfl ?_
      refine Dr_pu (Pu_loadArr (c := versA cs[i].2) rfl Tryz.isAgg47 rfl rfl (by rw [← hat]; exact J.chL hci)) rfl rfl ?_
      refine Dr_pu (Pu_loadN rfl Tryz.isAgg33 Tryz.sizeOf33 rfl (Nat.le_of_ble_eq_true rfl)) rfl rfl ?_
      refine Dr_pu (Pu_move (.inl rfl) (by conv => lhs; whnf)) rfl rfl ?_
      refine Dr_pu (Pu_call (rclean12_a cs[i].2 n s (J.pinsOf (pins.take pins.length) cs[i].1) hc2 (by omega)) rfl ⟨Sub.rfl, Sub.rfl, Sub.rfl, trivial⟩) rfl rfl ?_
      refine Dr_pu (Pu_indexOw (j := i) rfl Tryz.underlying29 Tryz.sizeOf75 rfl rfl rfl rfl (by rw [List.length_map]; omega)) rfl rfl ?_
      refine Dr_pu (Pu_fieldb 1 rfl Tryz.underlying75 rfl rfl Tryz.sizeOf47 rfl) rfl rfl ?_
      refine Dr_nil ?_
      refine Ad_one 18 rfl (by kernel_rfl) ?_
      refine Al_storeArr (((J.cleanTo cs n s pins i).set i (((J.cleanTo cs n s pins i).getD i default).1, J.clean cs[i].2 n s (J.pinsOf (pins.take pins.length) cs[i].1))).map chR) rfl rfl rfl (by kernel_rfl) Tryz.sizeOf47 rfl rfl rfl rfl rfl (by rw [List.length_map]; omega) (by simp) (J.ch_un _) (J.ch_set hci _) ?_
      refine Al_nil ?_
      refine Ad_done (by kernel_rfl) ?_
      refine Aw_region ?_
      refine Al_pu (Pu_move (.inl rfl) (by conv => lhs; whnf)) rfl rfl (by decide) (by kernel_rfl) ?_
      refine Al_pu (Pu_add rfl rfl rfl (fun h1 h2 => by simp only [A.inI, A.maxI] at *; omega)) rfl rfl (by decide) (by kernel_rfl) ?_
      refine Al_pu (Pu_move (.inr rfl) (by conv => lhs; whnf)) rfl rfl (by decide) (by kernel_rfl) ?_
      refine Al_nil ?_
      exact ⟨i + 1, by omega, by omega, Le.ov ⟨Sub.num (by omega), trivial⟩ ⟨Sub.rfl, Sub.rfl, Sub.rfl, trivial⟩ ⟨obeq (by rw [← hset, hat, List.take_length]), trivial⟩ ⟨rfl, trivial⟩⟩ -- loop 0 next.0
  · (try simp only [decide_eq_true_eq, decide_eq_false_iff_not, List.length_map] at h15)
    have hin : i = cs.length := by omega
    refine Aw_exit ?_
    exact ⟨_, _, [], rfl, rfl, ⟨rfl, obeq (by rw [hin, J.cleanTo_all]), trivial⟩, rfl⟩ -- ret 0
end Go.Proofs.YtkmjiaegbooplaaGreat
