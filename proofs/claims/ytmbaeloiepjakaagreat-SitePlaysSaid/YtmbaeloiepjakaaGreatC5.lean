/- What the proofs need in common, laid together (5 of 6): no condition. -/
import Derived.Test.YtmbaeloiepjakaaGreatC4
set_option linter.unusedSimpArgs false
set_option linter.unusedVariables false
set_option linter.constructorNameAsVariable false

section
set_option maxRecDepth 100000
namespace Go.Proofs.YtmbaeloiepjakaaGreat
open Go.RowKit A R
open A.RowT
namespace J
theorem frm_eq {l : List Ver} {n s : Int} {i : Nat} (hi : i < l.length) (h1 : notB n s l[i] = true) (h2 : ¬ frm l n s < i) : frm l n s = i := by
  unfold frm at *
  rcases Nat.lt_trichotomy (l.findIdx (notB n s)) i with h | h | h
  · exact (h2 h).elim
  · exact h
  · have := List.not_of_lt_findIdx h
    rw [h1] at this; simp at this
theorem frm_ne {l : List Ver} {n s : Int} {i : Nat} (hi : i < l.length) (h1 : notB n s l[i] = false) : frm l n s ≠ i := fun e => by
  have h : l.findIdx (notB n s) < l.length := by unfold frm at e; omega
  have h2 := List.findIdx_getElem (w := h)
  have h3 : l[l.findIdx (notB n s)] = l[i] := by congr 1
  rw [h3, h1] at h2; cases h2
theorem beq2_comm {a b c d : Int} (h : ((a == b) && (c == d)) = false) : ((b == a) && (d == c)) = false := by
  rw [BEq.comm (a := b), BEq.comm (a := d)]; exact h
/-- What ref12.Put has put together. -/
def outI (l : List Ver) (v : Ver) (i : Nat) : List Ver := if frm l v.n v.s < i then l.take (frm l v.n v.s) ++ v :: (l.take i).drop (frm l v.n v.s) else l.take i
theorem outI_zero (l : List Ver) (v : Ver) : outI l v 0 = [] := by unfold outI; rw [if_neg (by omega)]; rfl
theorem outI_at {l : List Ver} {v : Ver} {i : Nat} (hi : i < l.length) (h : frm l v.n v.s = i) : outI l v (i + 1) = outI l v i ++ [v] ++ [l[i]] := by
  unfold outI
  rw [if_pos (by omega), if_neg (by omega), h, List.take_succ_eq_append_getElem hi, List.drop_append, List.drop_of_length_le (by rw [List.length_take]; omega)]
  simp [show i - min i l.length = 0 from by omega]
theorem outI_ne {l : List Ver} {v : Ver} {i : Nat} (hi : i < l.length) (h : frm l v.n v.s ≠ i) : outI l v (i + 1) = outI l v i ++ [l[i]] := by
  unfold outI
  rcases Nat.lt_or_ge (frm l v.n v.s) i with h1 | h1
  · rw [if_pos (by omega), if_pos h1, List.take_succ_eq_append_getElem hi, List.drop_append_of_le_length (by simp; omega)]
    simp
  · rw [if_neg (by omega), if_neg (by omega), List.take_succ_eq_append_getElem hi]
theorem outI_len (l : List Ver) (v : Ver) (i : Nat) : (outI l v i).length ≤ l.length + 1 := by
  unfold outI
  split
  · simp; omega
  · simp; omega
theorem put_eq {l : List Ver} {v : Ver} (h1 : checkB v = true) (h2 : ∀ x, l[0]? = some x → x.key.toList = v.key.toList) (h3 : ∀ x ∈ l, isSt v.n v.s x = false) : put l v = some (if frm l v.n v.s < l.length then outI l v l.length else outI l v l.length ++ [v]) := by
  unfold put
  rw [if_pos ⟨h1, h2, fun x hx => h3 x (List.mem_of_getElem? hx)⟩]
  congr 1
  unfold outI
  split
  · rw [List.take_length]
  · rename_i h
    have := frm_le l v.n v.s
    rw [show frm l v.n v.s = l.length from by omega]
    simp
theorem put_st {l : List Ver} {v : Ver} (hc : Chn l) {i : Nat} (hi : i < l.length) (h : isSt v.n v.s l[i] = true) : put l v = none := by
  have hst : l[i].n = v.n ∧ l[i].s = v.s := by unfold isSt at h; simpa using h
  have hf : frm l v.n v.s = i := by
    refine frm_eq hi ?_ fun hlt => ?_
    · unfold notB; rw [hst.1, hst.2]; unfold D.lessB; simp
    · have hfl : l.findIdx (notB v.n v.s) < l.length := by unfold frm at hlt; omega
      have h2 := List.findIdx_getElem (w := hfl)
      have h3 : D.lessB l[l.findIdx (notB v.n v.s)].n l[l.findIdx (notB v.n v.s)].s l[i].n l[i].s = true := List.pairwise_iff_getElem.1 hc _ i hfl hi hlt
      rw [hst.1, hst.2] at h3
      have h5 : notB v.n v.s l[l.findIdx (notB v.n v.s)] = false := by
        show (!D.lessB _ _ _ _) = false
        rw [h3]; rfl
      rw [h5] at h2; cases h2
  unfold put
  rw [if_neg]
  rintro ⟨_, _, h4⟩
  have := h4 l[i] (by rw [hf, List.getElem?_eq_getElem hi])
  rw [h] at this; cases this
/-- The last one of those ahead of i that is not above. -/
def belI (l : List Ver) (n s : Int) (i : Nat) : Option Ver := ((l.take i).filter fun x => !D.lessB n s x.n x.s).getLast?
theorem belI_succ {l : List Ver} {n s : Int} {i : Nat} (hi : i < l.length) : belI l n s (i + 1) = if D.lessB n s l[i].n l[i].s then belI l n s i else some l[i] := by
  unfold belI
  rw [List.take_succ_eq_append_getElem hi, List.filter_append]
  cases h : D.lessB n s l[i].n l[i].s with
  | true => simp [h]
  | false => simp [h]
theorem told_last {l : List Ver} : ∀ {k : Nat}, k ≤ l.length → told l ((k : Int) - 1) = (l.take k).getLast?
  | 0, _ => by rw [told_no (.inl (by omega))]; rfl
  | k + 1, h => by
    rw [show (((k + 1 : Nat) : Int) - 1) = (k : Nat) from by omega, told_at (show k < l.length by omega), List.take_succ_eq_append_getElem (by omega), List.getLast?_concat]
theorem bel_below {l : List Ver} (n s : Int) (hc : Chn l) : belI l n s l.length = below l n s := by
  obtain ⟨f, hfr⟩ : ∃ f, f = frm l n s := ⟨_, rfl⟩
  have hfl : f ≤ l.length := by rw [hfr]; exact frm_le l n s
  have h1 : ∀ x ∈ l.take f, D.lessB x.n x.s n s = true := fun x hx => by
    obtain ⟨i, hi, rfl⟩ := List.mem_iff_getElem.1 hx
    have hi2 : i < f := by simp at hi; omega
    have h2 : notB n s (l[i]'(by omega)) = false := by
      have := List.not_of_lt_findIdx (p := notB n s) (xs := l) (i := i) (by unfold frm at hfr; omega)
      simpa using this
    rw [List.getElem_take]
    unfold notB at h2
    simpa using h2
  have f1 : (l.take f).filter (fun x => !D.lessB n s x.n x.s) = l.take f := List.filter_eq_self.2 fun x hx => by rw [less_asymm (h1 x hx)]; rfl
  have e : l.filter (fun x => !D.lessB n s x.n x.s) = l.take f ++ (l.drop f).filter (fun x => !D.lessB n s x.n x.s) := by
    conv => lhs; rw [← List.take_append_drop f l]
    rw [List.filter_append, f1]
  unfold belI
  rw [List.take_length, e]
  rcases Nat.lt_or_ge f l.length with hf | hf
  · have hd : l.drop f = l[f] :: l.drop (f + 1) := List.drop_eq_getElem_cons hf
    have hr : ∀ x ∈ l.drop (f + 1), D.lessB l[f].n l[f].s x.n x.s = true := by
      have h2 : Chn (l.drop f) := List.Pairwise.sublist (List.drop_sublist f l) hc
      rw [hd] at h2
      exact (List.pairwise_cons.1 h2).1
    have hnb : notB n s l[f] = true := by
      have h2 := List.findIdx_getElem (p := notB n s) (xs := l) (w := by unfold frm at hfr; omega)
      have h3 : l[l.findIdx (notB n s)]'(by unfold frm at hfr; omega) = l[f] := by congr 1; exact hfr.symm
      rw [h3] at h2; exact h2
    have hat : atc l n s = if isSt n s l[f] then some l[f] else none := by
      unfold atc
      rw [← hfr, List.getElem?_eq_getElem hf, Option.filter_some]
    rw [hd, List.filter_cons]
    unfold below
    rw [hat]
    cases hst : isSt n s l[f] with
    | true =>
      have he : l[f].n = n ∧ l[f].s = s := by unfold isSt at hst; simpa using hst
      have hno : D.lessB n s l[f].n l[f].s = false := by rw [he.1, he.2]; unfold D.lessB; simp
      have hnil : (l.drop (f + 1)).filter (fun x => !D.lessB n s x.n x.s) = [] := List.filter_eq_nil_iff.2 fun x hx => by
        have := hr x hx
        rw [he.1, he.2] at this
        rw [this]; decide
      rw [hno, hnil]
      simp only [Bool.not_false, if_true]
      exact List.getLast?_concat ..
    | false =>
      have hls : D.lessB n s l[f].n l[f].s = true := less_tri (by unfold notB at hnb; simpa using hnb) hst
      have hnil : (l.drop (f + 1)).filter (fun x => !D.lessB n s x.n x.s) = [] := List.filter_eq_nil_iff.2 fun x hx => by
        rw [less_trans hls (hr x hx)]; decide
      rw [hls, hnil, ← hfr]
      simp only [Bool.not_true, Bool.false_eq_true, if_false, List.append_nil]
      exact (told_last hfl).symm
  · have hat : atc l n s = none := by
      unfold atc
      rw [← hfr, List.getElem?_eq_none hf]; rfl
    unfold below
    rw [hat, ← hfr, List.drop_of_length_le hf]
    simp only [List.filter_nil, List.append_nil]
    exact (told_last hfl).symm
end J
theorem rpcheck_a (p : List Dep) : ACall Tryz.prog 92 [.sl 3 (p.map Dep.row)] (bv (J.pastB p)) := by
  refine ACall_enter (fun _ _ => by kernel_rfl) Tryz.func92 rfl Tryz.ntmps92 Tryz.results92 (Nat.le_of_ble_eq_true rfl) (fun hok M0 w0 hnl => ?_)
  have hlen := (hok _ (List.mem_cons_self ..)).len
  rw [List.length_map] at hlen
  refine Aw_seq (Aw_region ?_)
  refine Al_p Pu_mvr ?_
  refine Al_nil (Aw_seq (Aw_seq (Aw_region ?_)))
  refine Al_p Pu_mvr ?_
  refine Al_nil (Aw_block ?_)
  refine Aw_loopk (ι := Nat) [0] [] (fun k => [(3, .d (iv k))]) (fun k => []) (fun k => k ≤ p.length ∧ ∀ i, i < k → J.okAt p i = true) (fun k => p.length - k) (0) (⟨Nat.zero_le _, by intros; omega⟩) ⟨Sub.rfl, trivial⟩ trivial ?_
  rintro k ⟨hk0, hno⟩
  refine Aw_seq (Aw_seq (Aw_region ?_))
  refine Al_p Pu_mvl ?_
  refine Al_p Pu_mvl ?_
  refine Al_p (Pu_len rfl Tryz.underlying32 rfl (by first | exact List.length_map .. | exact rfl)) ?_
  refine Al_p (Pu_cmp rfl rfl rfl rfl) ?_
  refine Al_nil ?_
  refine Aw_cond rfl (fun h9 => ?_) (fun h9 => ?_)
  · (try simp only [decide_eq_true_eq, decide_eq_false_iff_not, List.length_map] at h9)
    have hk : k < p.length := by omega
    refine Aw_skip (Aw_seq (Aw_block (Aw_seq (Aw_region ?_))))
    refine Al_p Pu_mvl ?_
    refine Al_p Pu_mvl ?_
    refine Al_p (Pu_index rfl Tryz.underlying32 Tryz.sizeOf59 rfl rfl (rfl) (mapgetD (d := default) hk)) ?_
    refine Al_p (Pu_field 0 rfl Tryz.underlying59 rfl rfl Tryz.sizeOf9 rfl) ?_
    refine Al_p (Pu_load1 rfl Tryz.isAgg9 rfl rfl) ?_
    refine Al_p (Pu_call (rcheck_a _) rfl ⟨Sub.rfl, trivial⟩) ?_
    refine Al_p Pu_mvr ?_
    refine Al_nil (Aw_seq (Aw_region ?_))
    refine Al_p Pu_mvl ?_
    refine Al_p Pu_mvl ?_
    refine Al_p (Pu_index rfl Tryz.underlying32 Tryz.sizeOf59 rfl rfl (rfl) (mapgetD (d := default) hk)) ?_
    refine Al_p (Pu_field 1 rfl Tryz.underlying59 rfl rfl Tryz.sizeOf31 rfl) ?_
    refine Al_p (Pu_loadN rfl Tryz.isAgg31 Tryz.sizeOf31 rfl (Nat.le_of_ble_eq_true rfl)) ?_
    refine Al_p (Pu_call (rstcheck_a _ _) rfl ⟨Sub.rfl, trivial⟩) ?_
    refine Al_p Pu_mvr ?_
    refine Al_nil (Aw_seq ?_)
    refine Aw_draw 24 (by kernel_rfl) (by kernel_rfl) ?_
    refine Dr_p Pu_mvl ?_
    refine Dr_p (Pu_not rfl rfl) ?_
    refine Dr_p Pu_mvl ?_
    refine Dr_st (St_gd [] rfl rfl rfl rfl trivial (fun hg27 => by exact Pu_move (.inl rfl) (by conv => lhs; whnf))) rfl ?_
    refine Dr_st (St_gd [27] rfl rfl rfl rfl ⟨⟨_, rfl⟩, trivial⟩ (fun hg28 => Pu_not rfl rfl)) rfl ?_
    refine Dr_p (Pu_or rfl rfl rfl rfl) ?_
    refine Dr_p Pu_mvl ?_
    refine Dr_st (St_gd [] rfl rfl rfl rfl trivial (fun hg31 => by exact Pu_move (.inl rfl) (by conv => lhs; whnf))) rfl ?_
    refine Dr_st (St_gd [31] rfl rfl rfl rfl ⟨⟨_, rfl⟩, trivial⟩ (fun hg32 => Pu_cmp rfl rfl rfl rfl)) rfl ?_
    refine Dr_st (St_gd [32] rfl rfl rfl rfl ⟨⟨_, rfl⟩, trivial⟩ (fun hg33 => by exact Pu_move (.inl rfl) (by conv => lhs; whnf))) rfl ?_
    refine Dr_st (St_gd2 [] rfl rfl rfl rfl trivial (fun hp34 hg34 => by exact Pu_move (.inl rfl) (by conv => lhs; whnf))) rfl ?_
    refine Dr_st (St_gd2 [] rfl rfl rfl rfl trivial (fun hp35 hg35 => by exact Pu_move (.inl rfl) (by conv => lhs; whnf))) rfl ?_
    refine Dr_st (St_gd2 [35] rfl rfl rfl rfl ⟨⟨_, rfl⟩, trivial⟩ (fun hp36 hg36 => by exact Pu_sub rfl rfl rfl (fun h1 h2 => by simp only [A.inI, A.maxI] at *; omega))) rfl ?_
    refine Dr_st (St_gd2 [34, 36] rfl rfl rfl rfl ⟨⟨_, rfl⟩, ⟨_, rfl⟩, trivial⟩ (fun hp37 hg37 => by exact Pu_index rfl Tryz.underlying32 Tryz.sizeOf59 rfl rfl ((show ((k : Int) - 1) = ((k - 1 : Nat) : Int) from by have := of_decide_eq_true hg37; omega)) (mapgetD (d := default) (show k - 1 < p.length by omega)))) rfl ?_
    refine Dr_st (St_gd2 [37] rfl rfl rfl rfl ⟨⟨_, rfl⟩, trivial⟩ (fun hp38 hg38 => Pu_field 0 rfl Tryz.underlying59 rfl rfl Tryz.sizeOf9 rfl)) rfl ?_
    refine Dr_st (St_gd2 [38] rfl rfl rfl rfl ⟨⟨_, rfl⟩, trivial⟩ (fun hp39 hg39 => Pu_load1 rfl Tryz.isAgg9 rfl rfl)) rfl ?_
    refine Dr_st (St_gd2 [] rfl rfl rfl rfl trivial (fun hp40 hg40 => by exact Pu_move (.inl rfl) (by conv => lhs; whnf))) rfl ?_
    refine Dr_st (St_gd2 [] rfl rfl rfl rfl trivial (fun hp41 hg41 => by exact Pu_move (.inl rfl) (by conv => lhs; whnf))) rfl ?_
    refine Dr_st (St_gd2 [40, 41] rfl rfl rfl rfl ⟨⟨_, rfl⟩, ⟨_, rfl⟩, trivial⟩ (fun hp42 hg42 => Pu_index rfl Tryz.underlying32 Tryz.sizeOf59 rfl rfl (rfl) (mapgetD (d := default) hk))) rfl ?_
    refine Dr_st (St_gd2 [42] rfl rfl rfl rfl ⟨⟨_, rfl⟩, trivial⟩ (fun hp43 hg43 => Pu_field 0 rfl Tryz.underlying59 rfl rfl Tryz.sizeOf9 rfl)) rfl ?_
    refine Dr_st (St_gd2 [43] rfl rfl rfl rfl ⟨⟨_, rfl⟩, trivial⟩ (fun hp44 hg44 => Pu_load1 rfl Tryz.isAgg9 rfl rfl)) rfl ?_
    refine Dr_st (St_gd2 [39, 44] rfl rfl rfl rfl ⟨⟨_, rfl⟩, ⟨_, rfl⟩, trivial⟩ (fun hp45 hg45 => Pu_str rfl rfl rfl rfl)) rfl ?_
    refine Dr_st (St_gd [33] rfl rfl rfl rfl ⟨⟨_, rfl⟩, trivial⟩ (fun hg46 => Pu_andG rfl rfl (fun h => ⟨hg46, h⟩) rfl rfl)) rfl ?_
    refine Dr_p (Pu_or rfl rfl rfl rfl) ?_
    refine Dr_nil (Al_nil ?_)
    refine Aw_cond rfl (fun h47 => ?_) (fun h47 => ?_)
    · skip
      have hf : J.okAt p k = false := by
        unfold J.okAt D.okB
        rcases Nat.eq_zero_or_pos k with h0 | h0
        · subst h0
          cases h1 : K.checkB (p.getD 0 default).key with
          | false => rfl
          | true => cases h2 : V.stampB (p.getD 0 default).n (p.getD 0 default).s with
            | false => rfl
            | true => rw [h1, h2] at h47; simp at h47
        · rw [show decide (k = 0) = false from by simp; omega, Bool.false_or]
          simp only [Bool.or_eq_true, Bool.not_eq_true', Bool.and_eq_true, decide_eq_true_eq] at h47
          rcases h47 with (h | h) | h
          · rw [h]; rfl
          · rw [h]; simp
          · rw [h.2, Bool.and_false]
      refine Aw_seq (Aw_region ?_)
      refine Al_p Pu_mvr ?_
      refine Al_nil ?_
      refine Aw_ret ?_
      exact Sub.bool (J.past_no hk hf).symm -- ret 0
    · skip
      have hf : J.okAt p k = true := by
        unfold J.okAt D.okB
        rcases Nat.eq_zero_or_pos k with h0 | h0
        · subst h0
          simpa using h47
        · rw [show decide (k = 0) = false from by simp; omega, Bool.false_or]
          simp only [Bool.or_eq_false_iff, Bool.not_eq_false', Bool.and_eq_false_iff, decide_eq_false_iff_not] at h47
          obtain ⟨⟨h1, h3⟩, h2⟩ := h47
          rw [h1, h3, Bool.true_and]
          rcases h2 with h | h
          · omega
          · simpa using h
      refine Aw_skip (Aw_region ?_)
      refine Al_p Pu_mvl ?_
      refine Al_p (Pu_add rfl rfl rfl (fun h1 h2 => by simp only [A.inI, A.maxI] at *; omega)) ?_
      refine Al_p Pu_mvr ?_
      refine Al_nil ?_
      exact ⟨k + 1, ⟨by omega, fun i hi => by
        rcases Nat.lt_succ_iff_lt_or_eq.1 hi with h | rfl
        · exact hno i h
        · exact hf⟩, by omega, Le.ov ⟨Sub.num (by omega), trivial⟩ ⟨Sub.rfl, trivial⟩ trivial trivial⟩ -- loop 0 next.0
  · (try simp only [decide_eq_true_eq, decide_eq_false_iff_not, List.length_map] at h9)
    have hk : k = p.length := by omega
    refine Aw_exit (Aw_seq (Aw_region ?_))
    refine Al_p Pu_mvl ?_
    refine Al_p (Pu_len rfl Tryz.underlying32 rfl (by first | exact List.length_map .. | exact rfl)) ?_
    refine Al_p (Pu_cmp rfl rfl rfl rfl) ?_
    refine Al_p Pu_mvr ?_
    refine Al_nil ?_
    refine Aw_ret ?_
    exact Sub.bool (J.past_all (by subst hk; exact hno)).symm -- ret 1
theorem rvcheck_a (v : Ver) : ACall Tryz.prog 58 [.row v.row] (bv (J.checkB v)) := by
  refine ACall_enter (fun _ _ => by kernel_rfl) Tryz.func58 rfl Tryz.ntmps58 Tryz.results58 (Nat.le_of_ble_eq_true rfl) (fun hok M0 w0 hnl => ?_)
  refine Aw_seq (Aw_region ?_)
  refine Al_p (Pu_boxN rfl rfl) ?_
  refine Al_p Pu_mvr ?_
  refine Al_nil (Aw_seq (Aw_region ?_))
  refine Al_p (Pu_field 0 rfl Tryz.underlying34 rfl rfl Tryz.sizeOf9 rfl) ?_
  refine Al_p (Pu_load1 rfl Tryz.isAgg9 rfl rfl) ?_
  refine Al_p (Pu_call (rcheck_a _) rfl ⟨Sub.rfl, trivial⟩) ?_
  refine Al_p Pu_mvr ?_
  refine Al_nil (Aw_seq (Aw_region ?_))
  refine Al_p (Pu_field 3 rfl Tryz.underlying34 rfl rfl Tryz.sizeOf31 rfl) ?_
  refine Al_p (Pu_loadN rfl Tryz.isAgg31 Tryz.sizeOf31 rfl (Nat.le_of_ble_eq_true rfl)) ?_
  refine Al_p (Pu_call (rstcheck_a _ _) rfl ⟨Sub.rfl, trivial⟩) ?_
  refine Al_p Pu_mvr ?_
  refine Al_nil (Aw_seq (Aw_region ?_))
  refine Al_p (Pu_field 5 rfl Tryz.underlying34 rfl rfl Tryz.sizeOf32 rfl) ?_
  refine Al_p (Pu_load1 rfl Tryz.isAgg32 rfl rfl) ?_
  refine Al_p (Pu_call (rpcheck_a v.past) rfl ⟨Sub.rfl, trivial⟩) ?_
  refine Al_p Pu_mvr ?_
  refine Al_nil (Aw_seq (Aw_region ?_))
  refine Al_p Pu_mvl ?_
  refine Al_p Pu_mvl ?_
  refine Al_st (St_gd [] rfl rfl rfl rfl trivial (fun hg17 => by exact Pu_move (.inl rfl) (by conv => lhs; whnf))) rfl (by decide) (by kernel_rfl) (by intro j b oj dj h1 h2 h3; cases h1; cases h2; cases h3; decide) ?_
  refine Al_p (Pu_and rfl rfl rfl rfl) ?_
  refine Al_p Pu_mvl ?_
  refine Al_st (St_gd [] rfl rfl rfl rfl trivial (fun hg20 => by exact Pu_move (.inl rfl) (by conv => lhs; whnf))) rfl (by decide) (by kernel_rfl) (by intro j b oj dj h1 h2 h3; cases h1; cases h2; cases h3; decide) ?_
  refine Al_p (Pu_and rfl rfl rfl rfl) ?_
  refine Al_p Pu_mvl ?_
  refine Al_st (St_gd [] rfl rfl rfl rfl trivial (fun hg23 => Pu_field 1 rfl Tryz.underlying34 rfl rfl Tryz.sizeOf9 rfl)) rfl (by decide) (by kernel_rfl) (by intro j b oj dj h1 h2 h3; cases h1; cases h2; cases h3; decide) ?_
  refine Al_st (St_gd [23] rfl rfl rfl rfl ⟨⟨_, rfl⟩, trivial⟩ (fun hg24 => Pu_load1 rfl Tryz.isAgg9 rfl rfl)) rfl (by decide) (by kernel_rfl) (by intro j b oj dj h1 h2 h3; cases h1; cases h2; cases h3; decide) ?_
  refine Al_st (St_gd [24] rfl rfl rfl rfl ⟨⟨_, rfl⟩, trivial⟩ (fun hg25 => Pu_lenS rfl Tryz.underlying9 rfl)) rfl (by decide) (by kernel_rfl) (by intro j b oj dj h1 h2 h3; cases h1; cases h2; cases h3; decide) ?_
  refine Al_st (St_gd [25] rfl rfl rfl rfl ⟨⟨_, rfl⟩, trivial⟩ (fun hg26 => Pu_cmp rfl rfl rfl rfl)) rfl (by decide) (by kernel_rfl) (by intro j b oj dj h1 h2 h3; cases h1; cases h2; cases h3; decide) ?_
  refine Al_p (Pu_and rfl rfl rfl rfl) ?_
  refine Al_p Pu_mvl ?_
  refine Al_st (St_gd [] rfl rfl rfl rfl trivial (fun hg29 => Pu_field 2 rfl Tryz.underlying34 rfl rfl Tryz.sizeOf4 rfl)) rfl (by decide) (by kernel_rfl) (by intro j b oj dj h1 h2 h3; cases h1; cases h2; cases h3; decide) ?_
  refine Al_st (St_gd [29] rfl rfl rfl rfl ⟨⟨_, rfl⟩, trivial⟩ (fun hg30 => Pu_load1 rfl Tryz.isAgg4 rfl rfl)) rfl (by decide) (by kernel_rfl) (by intro j b oj dj h1 h2 h3; cases h1; cases h2; cases h3; decide) ?_
  refine Al_st (St_gd [30] rfl rfl rfl rfl ⟨⟨_, rfl⟩, trivial⟩ (fun hg31 => Pu_not rfl rfl)) rfl (by decide) (by kernel_rfl) (by intro j b oj dj h1 h2 h3; cases h1; cases h2; cases h3; decide) ?_
  refine Al_st (St_gd [31] rfl rfl rfl rfl ⟨⟨_, rfl⟩, trivial⟩ (fun hg32 => by exact Pu_move (.inl rfl) (by conv => lhs; whnf))) rfl (by decide) (by kernel_rfl) (by intro j b oj dj h1 h2 h3; cases h1; cases h2; cases h3; decide) ?_
  refine Al_st (St_gd2 [] rfl rfl rfl rfl trivial (fun hp33 hg33 => Pu_field 1 rfl Tryz.underlying34 rfl rfl Tryz.sizeOf9 rfl)) rfl (by decide) (by kernel_rfl) (by intro j b oj dj h1 h2 h3; cases h1; cases h2; cases h3; decide) ?_
  refine Al_st (St_gd2 [33] rfl rfl rfl rfl ⟨⟨_, rfl⟩, trivial⟩ (fun hp34 hg34 => Pu_load1 rfl Tryz.isAgg9 rfl rfl)) rfl (by decide) (by kernel_rfl) (by intro j b oj dj h1 h2 h3; cases h1; cases h2; cases h3; decide) ?_
  refine Al_st (St_gd2 [34] rfl rfl rfl rfl ⟨⟨_, rfl⟩, trivial⟩ (fun hp35 hg35 => Pu_str rfl rfl rfl rfl)) rfl (by decide) (by kernel_rfl) (by intro j b oj dj h1 h2 h3; cases h1; cases h2; cases h3; decide) ?_
  refine Al_st (St_gd [32] rfl rfl rfl rfl ⟨⟨_, rfl⟩, trivial⟩ (fun hg36 => Pu_orG rfl rfl rfl (fun h => ⟨hg36, h⟩) rfl)) rfl (by decide) (by kernel_rfl) (by intro j b oj dj h1 h2 h3; cases h1; cases h2; cases h3; decide) ?_
  refine Al_p (Pu_and rfl rfl rfl rfl) ?_
  refine Al_p Pu_mvr ?_
  refine Al_nil ?_
  refine Aw_ret ?_
  exact Sub.bool (by unfold J.checkB; simp only [Bool.and_assoc]) -- ret 0
theorem rhead12_a (l : List Ver) : ACall Tryz.prog 71 [versA l] (verA (J.head l)) := by
  refine ACall_enterG (fun _ _ => by kernel_rfl) Tryz.func71 rfl Tryz.ntmps71 (Reads.cN1 Tryz.results71 Tryz.isAgg34 Tryz.sizeOf34) (Nat.le_of_ble_eq_true rfl) (fun hok M0 w0 hnl => ?_)
  have hlen := (hok _ (List.mem_cons_self ..)).len
  rw [List.length_map] at hlen
  refine Aw_seq (Aw_region ?_)
  refine Al_alloc rfl rfl rfl (by decide) Tryz.zeroValue34 rfl (by kernel_rfl) (fun g2 => ?_)
  refine Al_p Pu_mvr ?_
  refine Al_nil (Aw_seq (Aw_seq (Aw_region ?_)))
  refine Al_p Pu_mvl ?_
  refine Al_p (Pu_len rfl Tryz.underlying65 rfl (by first | exact List.length_map .. | exact rfl)) ?_
  refine Al_p (Pu_cmp rfl rfl rfl rfl) ?_
  refine Al_nil ?_
  refine Aw_cond rfl (fun h6 => ?_) (fun h6 => ?_)
  · (try simp only [decide_eq_true_eq, decide_eq_false_iff_not, List.length_map] at h6)
    have hl : l = [] := List.eq_nil_of_length_eq_zero (by omega)
    subst hl
    refine Aw_seq (Aw_region ?_)
    refine Al_p (Pu_build (aa := []) rfl Tryz.underlying34 Tryz.zeroValue34 (places34 Tryz.underlying34) (by kernel_rfl) trivial rfl) ?_
    refine Al_storeN rfl rfl rfl (by kernel_rfl) Tryz.isAgg34 Tryz.sizeOf34 rfl rfl rfl rfl (Nat.le_of_ble_eq_true rfl) ?_
    refine Al_p Pu_mvr ?_
    refine Al_nil ?_
    refine Aw_boxle (k := 2) ((default : Ver).row.map .d) rfl ⟨Sub.rfl, Sub.rfl, Sub.rfl, Sub.rfl, Sub.rfl, Sub.nil, trivial⟩ ?_
    refine Aw_ret ?_
    exact ⟨_, _, _, _, _, [_, _, _, _, _, _], _, rfl, rfl, rfl, rfl, Sub.rfl, rfl⟩ -- ret 0
  · (try simp only [decide_eq_true_eq, decide_eq_false_iff_not, List.length_map] at h6)
    have hk : l.length - 1 < l.length := by omega
    have hh : J.head l = some (l.getD (l.length - 1) default) := by
      unfold J.head
      rw [show ((l.length : Int) - 1) = ((l.length - 1 : Nat) : Int) from by omega, J.told_at hk, List.getD_eq_getElem?_getD, List.getElem?_eq_getElem hk]; rfl
    refine Aw_skip (Aw_seq (Aw_region ?_))
    refine Al_p Pu_mvl ?_
    refine Al_p Pu_mvl ?_
    refine Al_p (Pu_len rfl Tryz.underlying65 rfl (by first | exact List.length_map .. | exact rfl)) ?_
    refine Al_p (Pu_sub rfl rfl rfl (fun h1 h2 => by simp only [A.inI, A.maxI] at *; omega)) ?_
    refine Al_p (Pu_index rfl Tryz.underlying65 Tryz.sizeOf34 rfl rfl ((show ((l.length : Int) - 1) = ((l.length - 1 : Nat) : Int) from by omega)) (mapgetD (d := default) hk)) ?_
    refine Al_p (Pu_loadN rfl Tryz.isAgg34 Tryz.sizeOf34 rfl (Nat.le_of_ble_eq_true rfl)) ?_
    refine Al_storeN rfl rfl rfl (by kernel_rfl) Tryz.isAgg34 Tryz.sizeOf34 rfl rfl rfl rfl (Nat.le_of_ble_eq_true rfl) ?_
    refine Al_p Pu_mvr ?_
    refine Al_nil ?_
    refine Aw_ret ?_
    exact ⟨_, _, _, _, _, [_, _, _, _, _, _], _, rfl, rfl, rfl, rfl, Sub.rfl, by rw [hh]; rfl⟩ -- ret 1
theorem rat12_a (l : List Ver) (n s : Int) (hc : J.Chn l) : ACall Tryz.prog 60 [versA l, .row [iv n, iv s]] (verA (J.atc l n s)) := by
  refine ACall_enterG (fun _ _ => by kernel_rfl) Tryz.func60 rfl Tryz.ntmps60 (Reads.cN1 Tryz.results60 Tryz.isAgg34 Tryz.sizeOf34) (Nat.le_of_ble_eq_true rfl) (fun hok M0 w0 hnl => ?_)
  have hlen := (hok _ (List.mem_cons_self ..)).len
  rw [List.length_map] at hlen
  refine Aw_seq (Aw_region ?_)
  refine Al_p (Pu_boxN rfl rfl) ?_
  refine Al_alloc rfl rfl rfl (by decide) Tryz.zeroValue34 rfl (by kernel_rfl) (fun g4 => ?_)
  refine Al_p Pu_mvr ?_
  refine Al_nil (Aw_seq (Aw_seq (Aw_region ?_)))
  refine Al_p Pu_mvr ?_
  refine Al_nil (Aw_block ?_)
  refine Aw_loopk (ι := Nat) [0, 3, 4] [3, 4] (fun k => [(6, .d (iv k))]) (fun k => []) (fun k => k ≤ l.length ∧ ∀ i, i < k → J.isSt n s (l.getD i default) = false) (fun k => l.length - k) (0) (⟨Nat.zero_le _, by intros; omega⟩) ⟨Sub.rfl, trivial⟩ trivial ?_
  rintro k ⟨hk0, hno⟩
  refine Aw_seq (Aw_seq (Aw_region ?_))
  refine Al_p Pu_mvl ?_
  refine Al_p Pu_mvl ?_
  refine Al_p (Pu_len rfl Tryz.underlying65 rfl (by first | exact List.length_map .. | exact rfl)) ?_
  refine Al_p (Pu_cmp rfl rfl rfl rfl) ?_
  refine Al_nil ?_
  refine Aw_cond rfl (fun h10 => ?_) (fun h10 => ?_)
  · (try simp only [decide_eq_true_eq, decide_eq_false_iff_not, List.length_map] at h10)
    have hk : k < l.length := by omega
    refine Aw_skip (Aw_seq (Aw_block (Aw_seq ?_)))
    refine Aw_draw 7 (by kernel_rfl) (by kernel_rfl) ?_
    refine Dr_p Pu_mvl ?_
    refine Dr_p Pu_mvl ?_
    refine Dr_p (Pu_index rfl Tryz.underlying65 Tryz.sizeOf34 rfl rfl (rfl) (mapgetD (d := default) hk)) ?_
    refine Dr_p (Pu_field 3 rfl Tryz.underlying34 rfl rfl Tryz.sizeOf31 rfl) ?_
    refine Dr_p (Pu_loadN rfl Tryz.isAgg31 Tryz.sizeOf31 rfl (Nat.le_of_ble_eq_true rfl)) ?_
    refine Dr_p (Pu_loadN rfl Tryz.isAgg31 Tryz.sizeOf31 rfl (Nat.le_of_ble_eq_true rfl)) ?_
    refine Dr_p (Pu_eqrow [.int .i64 _, .int .i64 _] [.int .i64 _, .int .i64 _] (fun w => eqv31 _ _ _ _ _ _ w) rfl rfl rfl) ?_
    refine Dr_nil (Al_nil ?_)
    refine Aw_cond rfl (fun h19 => ?_) (fun h19 => ?_)
    · skip
      have hyes : J.atc l n s = some (l.getD k default) := by
        rw [J.atc_find n s hc, List.find?_eq_some_iff_getElem]
        refine ⟨h19, k, hk, ?_, fun j hj => ?_⟩
        · simp [hk]
        · have := hno j hj
          rw [List.getD_eq_getElem?_getD, List.getElem?_eq_getElem (by omega), Option.getD_some] at this
          rw [this]; rfl
      refine Aw_seq (Aw_region ?_)
      refine Al_p Pu_mvl ?_
      refine Al_p Pu_mvl ?_
      refine Al_p (Pu_index rfl Tryz.underlying65 Tryz.sizeOf34 rfl rfl (rfl) (mapgetD (d := default) hk)) ?_
      refine Al_p (Pu_loadN rfl Tryz.isAgg34 Tryz.sizeOf34 rfl (Nat.le_of_ble_eq_true rfl)) ?_
      refine Al_storeN rfl rfl rfl (by kernel_rfl) Tryz.isAgg34 Tryz.sizeOf34 rfl rfl rfl rfl (Nat.le_of_ble_eq_true rfl) ?_
      refine Al_p Pu_mvr ?_
      refine Al_nil ?_
      refine Aw_ret ?_
      exact ⟨_, _, _, _, _, [_, _, _, _, _, _], _, rfl, rfl, rfl, rfl, Sub.rfl, by rw [hyes]; rfl⟩ -- ret 0
    · skip
      refine Aw_skip (Aw_region ?_)
      refine Al_p Pu_mvl ?_
      refine Al_p (Pu_add rfl rfl rfl (fun h1 h2 => by simp only [A.inI, A.maxI] at *; omega)) ?_
      refine Al_p Pu_mvr ?_
      refine Al_nil ?_
      exact ⟨k + 1, ⟨by omega, fun i hi => by
        rcases Nat.lt_succ_iff_lt_or_eq.1 hi with h | rfl
        · exact hno i h
        · exact h19⟩, by omega, Le.ov ⟨Sub.num (by omega), trivial⟩ ⟨Sub.rfl, Sub.rfl, Sub.rfl, trivial⟩ trivial ⟨rfl, rfl, trivial⟩⟩ -- loop 0 next.0
  · (try simp only [decide_eq_true_eq, decide_eq_false_iff_not, List.length_map] at h10)
    have hno2 : J.atc l n s = none := by
      rw [J.atc_find n s hc, List.find?_eq_none]
      intro x hx
      obtain ⟨i, hi, rfl⟩ := List.mem_iff_getElem.1 hx
      have := hno i (by omega)
      rw [List.getD_eq_getElem?_getD, List.getElem?_eq_getElem hi, Option.getD_some] at this
      rw [this]; decide
    refine Aw_exit (Aw_seq (Aw_region ?_))
    refine Al_p (Pu_build (aa := []) rfl Tryz.underlying34 Tryz.zeroValue34 (places34 Tryz.underlying34) (by kernel_rfl) trivial rfl) ?_
    refine Al_storeN rfl rfl rfl (by kernel_rfl) Tryz.isAgg34 Tryz.sizeOf34 rfl rfl rfl rfl (Nat.le_of_ble_eq_true rfl) ?_
    refine Al_p Pu_mvr ?_
    refine Al_nil ?_
    refine Aw_boxle (k := 4) ((default : Ver).row.map .d) rfl ⟨Sub.rfl, Sub.rfl, Sub.rfl, Sub.rfl, Sub.rfl, Sub.nil, trivial⟩ ?_
    refine Aw_ret ?_
    exact ⟨_, _, _, _, _, [_, _, _, _, _, _], _, rfl, rfl, rfl, rfl, Sub.rfl, by rw [hno2]; rfl⟩ -- ret 1
theorem rbelow12_a (l : List Ver) (n s : Int) (hc : J.Chn l) : ACall Tryz.prog 117 [versA l, .row [iv n, iv s]] (verA (J.below l n s)) := by
  refine ACall_enterG (fun _ _ => by kernel_rfl) Tryz.func117 rfl Tryz.ntmps117 (Reads.cN1 Tryz.results117 Tryz.isAgg34 Tryz.sizeOf34) (Nat.le_of_ble_eq_true rfl) (fun hok M0 w0 hnl => ?_)
  have hlen := (hok _ (List.mem_cons_self ..)).len
  rw [List.length_map] at hlen
  refine Aw_seq (Aw_region ?_)
  refine Al_p (Pu_boxN rfl rfl) ?_
  refine Al_alloc rfl rfl rfl (by decide) Tryz.zeroValue34 rfl (by kernel_rfl) (fun g4 => ?_)
  refine Al_p Pu_mvr ?_
  refine Al_nil (Aw_seq (Aw_region ?_))
  refine Al_p (Pu_build (aa := []) rfl Tryz.underlying34 Tryz.zeroValue34 (places34 Tryz.underlying34) (by kernel_rfl) trivial rfl) ?_
  refine Al_alloc rfl rfl rfl (by decide) Tryz.zeroValue34 rfl (by kernel_rfl) (fun g6 => ?_)
  refine Al_storeN rfl rfl rfl (by kernel_rfl) Tryz.isAgg34 Tryz.sizeOf34 rfl rfl rfl rfl (Nat.le_of_ble_eq_true rfl) ?_
  refine Al_nil (Aw_seq (Aw_region ?_))
  refine Al_p Pu_mvr ?_
  refine Al_nil (Aw_seq (Aw_seq (Aw_region ?_)))
  refine Al_p Pu_mvr ?_
  refine Al_nil (Aw_block ?_)
  refine Aw_boxle (k := 6) ((default : Ver).row.map .d) rfl ⟨Sub.rfl, Sub.rfl, Sub.rfl, Sub.rfl, Sub.rfl, Sub.nil, trivial⟩ ?_
  refine Aw_loopk (ι := Nat) [0, 3, 4, 6] [3, 4] (fun k => [(8, .d (iv k)), (7, .d (bv (J.belI l n s k).isSome))]) (fun k => [(6, g6, .box 34 (((J.belI l n s k).getD default).row.map .d))]) (fun k => k ≤ l.length) (fun k => l.length - k) (0) (Nat.zero_le _) ⟨Sub.rfl, Sub.rfl, trivial⟩ ⟨rfl, trivial⟩ ?_
  rintro k hk0
  refine Aw_seq (Aw_seq (Aw_region ?_))
  refine Al_p Pu_mvl ?_
  refine Al_p Pu_mvl ?_
  refine Al_p (Pu_len rfl Tryz.underlying65 rfl (by first | exact List.length_map .. | exact rfl)) ?_
  refine Al_p (Pu_cmp rfl rfl rfl rfl) ?_
  refine Al_nil ?_
  refine Aw_cond rfl (fun h13 => ?_) (fun h13 => ?_)
  · (try simp only [decide_eq_true_eq, decide_eq_false_iff_not, List.length_map] at h13)
    have hk : k < l.length := by omega
    have hbs := J.belI_succ (n := n) (s := s) hk
    have hgd : l.getD k default = l[k] := by simp [hk]
    refine Aw_skip ?_
    -- join 0: live [0, 3, 4, 6, 7, 8], turned [7]
    refine Aw_seq (Aw_block (Aw_seq ?_))
    refine Aw_draw 8 (by kernel_rfl) (by kernel_rfl) ?_
    refine Dr_p (Pu_loadN rfl Tryz.isAgg31 Tryz.sizeOf31 rfl (Nat.le_of_ble_eq_true rfl)) ?_
    refine Dr_p Pu_mvl ?_
    refine Dr_p Pu_mvl ?_
    refine Dr_p (Pu_index rfl Tryz.underlying65 Tryz.sizeOf34 rfl rfl (rfl) (mapgetD (d := default) hk)) ?_
    refine Dr_p (Pu_field 3 rfl Tryz.underlying34 rfl rfl Tryz.sizeOf31 rfl) ?_
    refine Dr_p (Pu_loadN rfl Tryz.isAgg31 Tryz.sizeOf31 rfl (Nat.le_of_ble_eq_true rfl)) ?_
    refine Dr_p (Pu_call (rless_a n s _ _) rfl ⟨Sub.rfl, Sub.rfl, trivial⟩) ?_
    refine Dr_p (Pu_not rfl rfl) ?_
    refine Dr_nil (Al_nil ?_)
    refine Aw_cond rfl (fun h23 => ?_) (fun h23 => ?_)
    · skip
      rw [hgd] at h23
      rw [if_neg (by simpa using h23)] at hbs
      refine Aw_seq (Aw_region ?_)
      refine Al_p Pu_mvl ?_
      refine Al_p Pu_mvl ?_
      refine Al_p (Pu_index rfl Tryz.underlying65 Tryz.sizeOf34 rfl rfl (rfl) (mapgetD (d := default) hk)) ?_
      refine Al_p (Pu_loadN rfl Tryz.isAgg34 Tryz.sizeOf34 rfl (Nat.le_of_ble_eq_true rfl)) ?_
      refine Al_storeN rfl rfl rfl (by kernel_rfl) Tryz.isAgg34 Tryz.sizeOf34 rfl rfl rfl rfl (Nat.le_of_ble_eq_true rfl) ?_
      refine Al_nil (Aw_region ?_)
      refine Al_p Pu_mvr ?_
      refine Al_nil (Aw_region ?_)
      refine Al_p Pu_mvl ?_
      refine Al_p (Pu_add rfl rfl rfl (fun h1 h2 => by simp only [A.inI, A.maxI] at *; omega)) ?_
      refine Al_p Pu_mvr ?_
      refine Al_nil ?_
      exact ⟨k + 1, by omega, by omega, Le.ov ⟨Sub.num (by omega), Sub.bool (by rw [hbs]; rfl), trivial⟩ ⟨Sub.rfl, Sub.rfl, Sub.rfl, Sub.rfl, trivial⟩ ⟨J.bxeq (by rw [hbs, ← hgd]; rfl), trivial⟩ ⟨rfl, rfl, trivial⟩⟩ -- loop 0 next.0
    · skip
      rw [hgd] at h23
      rw [if_pos (by simpa using h23)] at hbs
      refine Aw_skip (Aw_region ?_)
      refine Al_p Pu_mvl ?_
      refine Al_p (Pu_add rfl rfl rfl (fun h1 h2 => by simp only [A.inI, A.maxI] at *; omega)) ?_
      refine Al_p Pu_mvr ?_
      refine Al_nil ?_
      exact ⟨k + 1, by omega, by omega, Le.ov ⟨Sub.num (by omega), Sub.bool (by rw [hbs]), trivial⟩ ⟨Sub.rfl, Sub.rfl, Sub.rfl, Sub.rfl, trivial⟩ ⟨J.bxeq (by rw [hbs]), trivial⟩ ⟨rfl, rfl, trivial⟩⟩ -- loop 0 next.1
  · (try simp only [decide_eq_true_eq, decide_eq_false_iff_not, List.length_map] at h13)
    have hkn : k = l.length := by omega
    refine Aw_exit (Aw_seq (Aw_region ?_))
    refine Al_p (Pu_loadbN (r := [_, _, _, _, _, _]) rfl Tryz.isAgg34 Tryz.sizeOf34 rfl rfl rfl rfl) ?_
    refine Al_p Pu_mvl ?_
    refine Al_storeN rfl rfl rfl (by kernel_rfl) Tryz.isAgg34 Tryz.sizeOf34 rfl rfl rfl rfl (Nat.le_of_ble_eq_true rfl) ?_
    refine Al_p Pu_mvr ?_
    refine Al_nil ?_
    refine Aw_ret ?_
    exact ⟨_, _, _, _, _, [_, _, _, _, _, _], _, rfl, rfl, rfl, rfl, Sub.rfl, by rw [hkn, J.bel_below n s hc]; rfl⟩ -- ret 0
theorem rkeeps12_a (l : List Ver) (n s : Int) (pins : List (Int × Int)) (v : Ver) (hc : J.Chn l) : ACall Tryz.prog 99 [versA l, .row [iv n, iv s], .sl 2 (pins.map stA), .row v.row] (bv (J.keeps l n s pins v)) := by
  refine ACall_enter (fun _ _ => by kernel_rfl) Tryz.func99 rfl Tryz.ntmps99 Tryz.results99 (Nat.le_of_ble_eq_true rfl) (fun hok M0 w0 hnl => ?_)
  have hlen := (hok (.sl 2 (pins.map stA)) (by simp)).len
  rw [List.length_map] at hlen
  refine Aw_seq (Aw_region ?_)
  refine Al_p (Pu_boxN rfl rfl) ?_
  refine Al_p (Pu_boxN rfl rfl) ?_
  refine Al_p Pu_mvr ?_
  refine Al_nil (Aw_seq (Aw_seq (Aw_region ?_)))
  refine Al_p Pu_mvr ?_
  refine Al_nil (Aw_block ?_)
  refine Aw_loopk (ι := Nat) [0, 2, 5, 7] [5, 7] (fun k => [(9, .d (iv k))]) (fun k => []) (fun k => k ≤ pins.length ∧ ∀ i, i < k → ((v.n == (pins.getD i default).1) && (v.s == (pins.getD i default).2)) = false) (fun k => pins.length - k) (0) (⟨Nat.zero_le _, by intros; omega⟩) ⟨Sub.rfl, trivial⟩ trivial ?_
  rintro k ⟨hk0, hno⟩
  refine Aw_seq (Aw_seq (Aw_region ?_))
  refine Al_p Pu_mvl ?_
  refine Al_p Pu_mvl ?_
  refine Al_p (Pu_len rfl Tryz.underlying101 rfl (by first | exact List.length_map .. | exact rfl)) ?_
  refine Al_p (Pu_cmp rfl rfl rfl rfl) ?_
  refine Al_nil ?_
  refine Aw_cond rfl (fun h17 => ?_) (fun h17 => ?_)
  · (try simp only [decide_eq_true_eq, decide_eq_false_iff_not, List.length_map] at h17)
    have hk : k < pins.length := by omega
    refine Aw_skip (Aw_seq (Aw_block (Aw_seq ?_)))
    refine Aw_draw 7 (by kernel_rfl) (by kernel_rfl) ?_
    refine Dr_p Pu_mvl ?_
    refine Dr_p Pu_mvl ?_
    refine Dr_p (Pu_index rfl Tryz.underlying101 Tryz.sizeOf31 rfl rfl (rfl) (mapgetD (d := default) hk)) ?_
    refine Dr_p (Pu_loadN rfl Tryz.isAgg31 Tryz.sizeOf31 rfl (Nat.le_of_ble_eq_true rfl)) ?_
    refine Dr_p (Pu_field 3 rfl Tryz.underlying34 rfl rfl Tryz.sizeOf31 rfl) ?_
    refine Dr_p (Pu_loadN rfl Tryz.isAgg31 Tryz.sizeOf31 rfl (Nat.le_of_ble_eq_true rfl)) ?_
    refine Dr_p (Pu_eqrow [.int .i64 _, .int .i64 _] [.int .i64 _, .int .i64 _] (fun w => eqv31 _ _ _ _ _ _ w) rfl rfl rfl) ?_
    refine Dr_nil (Al_nil ?_)
    refine Aw_cond rfl (fun h26 => ?_) (fun h26 => ?_)
    · skip
      have hyes : J.keeps l n s pins v = true := by
        unfold J.keeps
        have : (pins.any fun p => (v.n == p.1) && (v.s == p.2)) = true := List.any_eq_true.2 ⟨pins[k], List.getElem_mem hk, by
          have h2 : pins.getD k default = pins[k] := by simp [hk]
          rw [h2] at h26
          simp only [Bool.and_eq_true, beq_iff_eq] at h26 ⊢
          exact ⟨h26.1.symm, h26.2.symm⟩⟩
        rw [this]; rfl
      refine Aw_seq (Aw_region ?_)
      refine Al_p Pu_mvr ?_
      refine Al_nil ?_
      refine Aw_ret ?_
      exact Sub.bool hyes.symm -- ret 0
    · skip
      refine Aw_skip (Aw_region ?_)
      refine Al_p Pu_mvl ?_
      refine Al_p (Pu_add rfl rfl rfl (fun h1 h2 => by simp only [A.inI, A.maxI] at *; omega)) ?_
      refine Al_p Pu_mvr ?_
      refine Al_nil ?_
      exact ⟨k + 1, ⟨by omega, fun i hi => by
        rcases Nat.lt_succ_iff_lt_or_eq.1 hi with h | rfl
        · exact hno i h
        · rw [Bool.and_eq_false_iff] at h26 ⊢
          rcases h26 with h | h
          · exact .inl (by rw [beq_eq_false_iff_ne] at h ⊢; exact fun e => h e.symm)
          · exact .inr (by rw [beq_eq_false_iff_ne] at h ⊢; exact fun e => h e.symm)⟩, by omega, Le.ov ⟨Sub.num (by omega), trivial⟩ ⟨Sub.rfl, Sub.rfl, Sub.rfl, Sub.rfl, trivial⟩ trivial ⟨rfl, rfl, trivial⟩⟩ -- loop 0 next.0
  · (try simp only [decide_eq_true_eq, decide_eq_false_iff_not, List.length_map] at h17)
    have hany : (pins.any fun p => (v.n == p.1) && (v.s == p.2)) = false := by
      rw [List.any_eq_false]
      intro x hx
      obtain ⟨i, hi, rfl⟩ := List.mem_iff_getElem.1 hx
      have := hno i (by omega)
      rw [List.getD_eq_getElem?_getD, List.getElem?_eq_getElem hi, Option.getD_some] at this
      rw [this]; decide
    obtain ⟨oh, hoh⟩ : ∃ o, o = J.head l := ⟨_, rfl⟩
    obtain ⟨ob, hob⟩ : ∃ o, o = J.below l n s := ⟨_, rfl⟩
    have ch := rhead12_a l
    have cb := rbelow12_a l n s hc
    rw [← hoh] at ch
    rw [← hob] at cb
    refine Aw_exit (Aw_seq (Aw_region ?_))
    refine Al_p Pu_mvl ?_
    refine Al_p (Pu_call (ch) rfl ⟨Sub.rfl, trivial⟩) ?_
    refine Al_p Pu_mvl ?_
    refine Al_p (Pu_extract rfl rfl rfl) ?_
    refine Al_p (Pu_extract rfl rfl rfl) ?_
    refine Al_alloc rfl rfl rfl (by decide) Tryz.zeroValue34 rfl (by kernel_rfl) (fun g10 => ?_)
    refine Al_storeN rfl rfl rfl (by kernel_rfl) Tryz.isAgg34 Tryz.sizeOf34 rfl rfl rfl rfl (Nat.le_of_ble_eq_true rfl) ?_
    refine Al_p Pu_mvr ?_
    refine Al_nil (Aw_seq (Aw_region ?_))
    refine Al_p Pu_mvl ?_
    refine Al_p (Pu_loadN rfl Tryz.isAgg31 Tryz.sizeOf31 rfl (Nat.le_of_ble_eq_true rfl)) ?_
    refine Al_p (Pu_call (cb) rfl ⟨Sub.rfl, Sub.rfl, trivial⟩) ?_
    refine Al_p Pu_mvl ?_
    refine Al_p (Pu_extract rfl rfl rfl) ?_
    refine Al_p (Pu_extract rfl rfl rfl) ?_
    refine Al_alloc rfl rfl rfl (by decide) Tryz.zeroValue34 rfl (by kernel_rfl) (fun g12 => ?_)
    refine Al_storeN rfl rfl rfl (by kernel_rfl) Tryz.isAgg34 Tryz.sizeOf34 rfl rfl rfl rfl (Nat.le_of_ble_eq_true rfl) ?_
    refine Al_p Pu_mvr ?_
    refine Al_nil (Aw_seq (Aw_region ?_))
    refine Al_p Pu_mvl ?_
    refine Al_p Pu_mvl ?_
    refine Al_st (St_gd [] rfl rfl rfl rfl trivial (fun hg40 => Pu_loadbN (r := [_, _, _, _, _, _]) rfl Tryz.isAgg34 Tryz.sizeOf34 rfl rfl rfl rfl)) rfl (by decide) (by kernel_rfl) (by intro j b oj dj h1 h2 h3; cases h1; cases h2; cases h3; decide) ?_
    refine Al_st (St_gd [] rfl rfl rfl rfl trivial (fun hg41 => Pu_loadN rfl Tryz.isAgg34 Tryz.sizeOf34 rfl (Nat.le_of_ble_eq_true rfl))) rfl (by decide) (by kernel_rfl) (by intro j b oj dj h1 h2 h3; cases h1; cases h2; cases h3; decide) ?_
    refine Al_st (St_gd [40, 41] rfl rfl rfl rfl ⟨⟨_, rfl⟩, ⟨_, rfl⟩, trivial⟩ (fun hg42 => Pu_call (rvsame_a (oh.getD default) v) rfl ⟨Sub.rfl, Sub.rfl, trivial⟩)) rfl (by decide) (by kernel_rfl) (by intro j b oj dj h1 h2 h3; cases h1; cases h2; cases h3; decide) ?_
    refine Al_p (Pu_and rfl rfl rfl rfl) ?_
    refine Al_p Pu_mvl ?_
    refine Al_st (St_gd [] rfl rfl rfl rfl trivial (fun hg45 => by exact Pu_move (.inl rfl) (by conv => lhs; whnf))) rfl (by decide) (by kernel_rfl) (by intro j b oj dj h1 h2 h3; cases h1; cases h2; cases h3; decide) ?_
    refine Al_st (St_gd [45] rfl rfl rfl rfl ⟨⟨_, rfl⟩, trivial⟩ (fun hg46 => by exact Pu_move (.inl rfl) (by conv => lhs; whnf))) rfl (by decide) (by kernel_rfl) (by intro j b oj dj h1 h2 h3; cases h1; cases h2; cases h3; decide) ?_
    refine Al_st (St_gd2 [] rfl rfl rfl rfl trivial (fun hp47 hg47 => Pu_loadbN (r := [_, _, _, _, _, _]) rfl Tryz.isAgg34 Tryz.sizeOf34 rfl rfl rfl rfl)) rfl (by decide) (by kernel_rfl) (by intro j b oj dj h1 h2 h3; cases h1; cases h2; cases h3; decide) ?_
    refine Al_st (St_gd2 [] rfl rfl rfl rfl trivial (fun hp48 hg48 => Pu_loadN rfl Tryz.isAgg34 Tryz.sizeOf34 rfl (Nat.le_of_ble_eq_true rfl))) rfl (by decide) (by kernel_rfl) (by intro j b oj dj h1 h2 h3; cases h1; cases h2; cases h3; decide) ?_
    refine Al_st (St_gd2 [47, 48] rfl rfl rfl rfl ⟨⟨_, rfl⟩, ⟨_, rfl⟩, trivial⟩ (fun hp49 hg49 => Pu_call (rvsame_a (ob.getD default) v) rfl ⟨Sub.rfl, Sub.rfl, trivial⟩)) rfl (by decide) (by kernel_rfl) (by intro j b oj dj h1 h2 h3; cases h1; cases h2; cases h3; decide) ?_
    refine Al_st (St_gd [46] rfl rfl rfl rfl ⟨⟨_, rfl⟩, trivial⟩ (fun hg50 => Pu_andG rfl rfl (fun h => ⟨hg50, h⟩) rfl rfl)) rfl (by decide) (by kernel_rfl) (by intro j b oj dj h1 h2 h3; cases h1; cases h2; cases h3; decide) ?_
    refine Al_p (Pu_or rfl rfl rfl rfl) ?_
    refine Al_p Pu_mvl ?_
    refine Al_st (St_gd [] rfl rfl rfl rfl trivial (fun hg53 => Pu_field 3 rfl Tryz.underlying34 rfl rfl Tryz.sizeOf31 rfl)) rfl (by decide) (by kernel_rfl) (by intro j b oj dj h1 h2 h3; cases h1; cases h2; cases h3; decide) ?_
    refine Al_st (St_gd [53] rfl rfl rfl rfl ⟨⟨_, rfl⟩, trivial⟩ (fun hg54 => Pu_loadN rfl Tryz.isAgg31 Tryz.sizeOf31 rfl (Nat.le_of_ble_eq_true rfl))) rfl (by decide) (by kernel_rfl) (by intro j b oj dj h1 h2 h3; cases h1; cases h2; cases h3; decide) ?_
    refine Al_st (St_gd [] rfl rfl rfl rfl trivial (fun hg55 => Pu_loadN rfl Tryz.isAgg31 Tryz.sizeOf31 rfl (Nat.le_of_ble_eq_true rfl))) rfl (by decide) (by kernel_rfl) (by intro j b oj dj h1 h2 h3; cases h1; cases h2; cases h3; decide) ?_
    refine Al_st (St_gd [54, 55] rfl rfl rfl rfl ⟨⟨_, rfl⟩, ⟨_, rfl⟩, trivial⟩ (fun hg56 => Pu_call (rless_a _ _ _ _) rfl ⟨Sub.rfl, Sub.rfl, trivial⟩)) rfl (by decide) (by kernel_rfl) (by intro j b oj dj h1 h2 h3; cases h1; cases h2; cases h3; decide) ?_
    refine Al_st (St_gd [56] rfl rfl rfl rfl ⟨⟨_, rfl⟩, trivial⟩ (fun hg57 => Pu_not rfl rfl)) rfl (by decide) (by kernel_rfl) (by intro j b oj dj h1 h2 h3; cases h1; cases h2; cases h3; decide) ?_
    refine Al_p (Pu_or rfl rfl rfl rfl) ?_
    refine Al_p Pu_mvr ?_
    refine Al_nil ?_
    refine Aw_ret ?_
    exact Sub.bool (by
      unfold J.keeps J.isO
      rw [hany, hoh, hob]
      generalize (!D.lessB v.n v.s n s) = a
      generalize ((J.head l).isSome && decide ((J.head l).getD default = v)) = b
      generalize ((J.below l n s).isSome && decide ((J.below l n s).getD default = v)) = c
      cases a <;> cases b <;> cases c <;> rfl) -- ret 1
theorem rclean12_a (l : List Ver) (n s : Int) (pins : List (Int × Int)) (hc : J.Chn l) (hl : l.length ≤ 1000000) : ACall Tryz.prog 69 [versA l, .row [iv n, iv s], .sl 2 (pins.map stA)] (versA (J.clean l n s pins)) := by
  refine ACall_enter (fun _ _ => by kernel_rfl) Tryz.func69 rfl Tryz.ntmps69 Tryz.results69 (Nat.le_of_ble_eq_true rfl) (fun hok M0 w0 hnl => ?_)
  refine Aw_seq (Aw_region ?_)
  refine Al_p (Pu_boxN rfl rfl) ?_
  refine Al_p Pu_mvr ?_
  refine Al_nil (Aw_seq (Aw_region ?_))
  refine Al_p Pu_mvr ?_
  refine Al_nil (Aw_seq (Aw_seq (Aw_region ?_)))
  refine Al_p Pu_mvr ?_
  refine Al_nil (Aw_block ?_)
  refine Aw_own (j := 7) (k := 7) (T := 34) (n := 6) rfl (fun g0 => ?_)
  refine Aw_loopk (ι := Nat × Nat) [0, 2, 4] [4] (fun (k, g) => [(8, .d (iv k)), (7, .ow 7 g)]) (fun (k, g) => [(7, g, .arr 34 6 (((l.take k).filter (J.keeps l n s pins)).map Ver.row))]) (fun (k, g) => k ≤ l.length) (fun (k, g) => l.length - k) ((0, g0)) (Nat.zero_le _) ⟨Sub.rfl, Sub.rfl, trivial⟩ ⟨rfl, trivial⟩ ?_
  rintro ⟨k, g⟩ hk0
  refine Aw_seq (Aw_seq (Aw_region ?_))
  refine Al_p Pu_mvl ?_
  refine Al_p Pu_mvl ?_
  refine Al_p (Pu_len rfl Tryz.underlying65 rfl (by first | exact List.length_map .. | exact rfl)) ?_
  refine Al_p (Pu_cmp rfl rfl rfl rfl) ?_
  refine Al_nil ?_
  refine Aw_cond rfl (fun h13 => ?_) (fun h13 => ?_)
  · (try simp only [decide_eq_true_eq, decide_eq_false_iff_not, List.length_map] at h13)
    have hk : k < l.length := by omega
    have hgd : l.getD k default = l[k] := by simp [hk]
    have hfl : ((l.take k).filter (J.keeps l n s pins)).length ≤ 1000000 := Nat.le_trans (List.length_filter_le ..) (by simp; omega)
    refine Aw_skip ?_
    -- join 0: live [0, 2, 4, 7, 8], turned [7]
    refine Aw_seq (Aw_block (Aw_seq ?_))
    refine Aw_draw 8 (by kernel_rfl) (by kernel_rfl) ?_
    refine Dr_p Pu_mvl ?_
    refine Dr_p (Pu_loadN rfl Tryz.isAgg31 Tryz.sizeOf31 rfl (Nat.le_of_ble_eq_true rfl)) ?_
    refine Dr_p Pu_mvl ?_
    refine Dr_p Pu_mvl ?_
    refine Dr_p Pu_mvl ?_
    refine Dr_p (Pu_index rfl Tryz.underlying65 Tryz.sizeOf34 rfl rfl (rfl) (mapgetD (d := default) hk)) ?_
    refine Dr_p (Pu_loadN rfl Tryz.isAgg34 Tryz.sizeOf34 rfl (Nat.le_of_ble_eq_true rfl)) ?_
    refine Dr_p (Pu_call (rkeeps12_a l n s pins (l.getD k default) hc) rfl ⟨Sub.rfl, Sub.rfl, Sub.rfl, Sub.rfl, trivial⟩) ?_
    refine Dr_nil ?_
    refine Al_p Pu_mvr ?_
    refine Al_nil (Aw_seq (Aw_region ?_))
    refine Al_p Pu_mvl ?_
    refine Al_nil ?_
    refine Aw_cond rfl (fun h24 => ?_) (fun h24 => ?_)
    · skip
      refine Aw_region ?_
      refine Al_p Pu_mvl ?_
      refine Al_p Pu_mvl ?_
      refine Al_p Pu_mvl ?_
      refine Al_p (Pu_index rfl Tryz.underlying65 Tryz.sizeOf34 rfl rfl (rfl) (mapgetD (d := default) hk)) ?_
      refine Al_p (Pu_loadN rfl Tryz.isAgg34 Tryz.sizeOf34 rfl (Nat.le_of_ble_eq_true rfl)) ?_
      refine Al_p (Pu_slice1 rfl Tryz.underlying65 Tryz.sizeOf34 Tryz.zeroValue34 rfl (by decide) (by decide) (by kernel_rfl) rfl rfl rfl) ?_
      refine Al_append rfl rfl rfl (by decide) (by kernel_rfl) elem65 (by decide) Tryz.sizeOf34 rfl rfl rfl (by simp only [List.length_map, List.length_cons, List.length_nil]; omega) (by decide) (fun g31 => ?_)
      refine Al_p Pu_mvr ?_
      refine Al_nil (Aw_region ?_)
      refine Al_p Pu_mvl ?_
      refine Al_p (Pu_add rfl rfl rfl (fun h1 h2 => by simp only [A.inI, A.maxI] at *; omega)) ?_
      refine Al_p Pu_mvr ?_
      refine Al_nil ?_
      exact ⟨(k + 1, g31), by omega, by simp only []; omega, Le.ov ⟨Sub.num (by omega), Sub.rfl, trivial⟩ ⟨Sub.rfl, Sub.rfl, Sub.rfl, trivial⟩ ⟨obeq (by rw [List.take_succ_eq_append_getElem hk, List.filter_append, List.filter_cons, if_pos (by rw [← hgd]; exact h24), List.filter_nil, List.map_append, ← hgd]; rfl), trivial⟩ ⟨rfl, trivial⟩⟩ -- loop 0 next.0
    · skip
      refine Aw_skip (Aw_region ?_)
      refine Al_p Pu_mvl ?_
      refine Al_p (Pu_add rfl rfl rfl (fun h1 h2 => by simp only [A.inI, A.maxI] at *; omega)) ?_
      refine Al_p Pu_mvr ?_
      refine Al_nil ?_
      exact ⟨(k + 1, g), by omega, by simp only []; omega, Le.ov ⟨Sub.num (by omega), Sub.rfl, trivial⟩ ⟨Sub.rfl, Sub.rfl, Sub.rfl, trivial⟩ ⟨obeq (by rw [List.take_succ_eq_append_getElem hk, List.filter_append, List.filter_cons, if_neg (by rw [← hgd, h24]; decide), List.filter_nil, List.append_nil]), trivial⟩ ⟨rfl, trivial⟩⟩ -- loop 0 next.1
  · (try simp only [decide_eq_true_eq, decide_eq_false_iff_not, List.length_map] at h13)
    have hkn : k = l.length := by omega
    refine Aw_exit (Aw_seq ?_)
    refine Aw_frz hnl (k := 7) [7] rfl ⟨rfl, trivial⟩ ?_
    refine Aw_region ?_
    refine Al_p Pu_mvl ?_
    refine Al_p Pu_mvr ?_
    refine Al_nil ?_
    refine Aw_ret ?_
    exact Sub.d (by rw [hkn, List.take_length]; rfl) -- ret 0
theorem rput12_a (l : List Ver) (v : Ver) (hc : J.Chn l) (hl : l.length ≤ 1000000) : ACall Tryz.prog 95 [versA l, .row v.row] (.tup [versA ((J.put l v).getD l), bv (J.put l v).isSome]) := by
  refine ACall_enter2 (fun _ _ => by kernel_rfl) Tryz.func95 rfl Tryz.ntmps95 Tryz.results95 (Nat.le_of_ble_eq_true rfl) (fun hok M0 w0 hnl => ?_)
  refine Aw_seq (Aw_region ?_)
  refine Al_p (Pu_boxN rfl rfl) ?_
  refine Al_p Pu_mvr ?_
  refine Al_p Pu_mvr ?_
  refine Al_nil (Aw_seq (Aw_region ?_))
  refine Al_p (Pu_loadN rfl Tryz.isAgg34 Tryz.sizeOf34 rfl (Nat.le_of_ble_eq_true rfl)) ?_
  refine Al_p (Pu_call (rvcheck_a v) rfl ⟨Sub.rfl, trivial⟩) ?_
  refine Al_p Pu_mvr ?_
  refine Al_nil (Aw_seq (Aw_seq ?_))
  refine Aw_draw 16 (by kernel_rfl) (by kernel_rfl) ?_
  refine Dr_p Pu_mvl ?_
  refine Dr_p (Pu_not rfl rfl) ?_
  refine Dr_p Pu_mvl ?_
  refine Dr_st (St_gd [] rfl rfl rfl rfl trivial (fun hg15 => by exact Pu_move (.inl rfl) (by conv => lhs; whnf))) rfl ?_
  refine Dr_st (St_gd [15] rfl rfl rfl rfl ⟨⟨_, rfl⟩, trivial⟩ (fun hg16 => by exact Pu_len rfl Tryz.underlying65 rfl (by first | exact List.length_map .. | exact rfl))) rfl ?_
  refine Dr_st (St_gd [16] rfl rfl rfl rfl ⟨⟨_, rfl⟩, trivial⟩ (fun hg17 => Pu_cmp rfl rfl rfl rfl)) rfl ?_
  refine Dr_st (St_gd [17] rfl rfl rfl rfl ⟨⟨_, rfl⟩, trivial⟩ (fun hg18 => by exact Pu_move (.inl rfl) (by conv => lhs; whnf))) rfl ?_
  refine Dr_st (St_gd2 [] rfl rfl rfl rfl trivial (fun hp19 hg19 => by exact Pu_move (.inl rfl) (by conv => lhs; whnf))) rfl ?_
  refine Dr_st (St_gd2 [19] rfl rfl rfl rfl ⟨⟨_, rfl⟩, trivial⟩ (fun hp20 hg20 => by exact Pu_index rfl Tryz.underlying65 Tryz.sizeOf34 rfl rfl (rfl) (mapgetD (d := default) (show 0 < l.length by have := of_decide_eq_true hg20; omega)))) rfl ?_
  refine Dr_st (St_gd2 [20] rfl rfl rfl rfl ⟨⟨_, rfl⟩, trivial⟩ (fun hp21 hg21 => Pu_field 0 rfl Tryz.underlying34 rfl rfl Tryz.sizeOf9 rfl)) rfl ?_
  refine Dr_st (St_gd2 [21] rfl rfl rfl rfl ⟨⟨_, rfl⟩, trivial⟩ (fun hp22 hg22 => Pu_load1 rfl Tryz.isAgg9 rfl rfl)) rfl ?_
  refine Dr_st (St_gd2 [] rfl rfl rfl rfl trivial (fun hp23 hg23 => Pu_field 0 rfl Tryz.underlying34 rfl rfl Tryz.sizeOf9 rfl)) rfl ?_
  refine Dr_st (St_gd2 [23] rfl rfl rfl rfl ⟨⟨_, rfl⟩, trivial⟩ (fun hp24 hg24 => Pu_load1 rfl Tryz.isAgg9 rfl rfl)) rfl ?_
  refine Dr_st (St_gd2 [22, 24] rfl rfl rfl rfl ⟨⟨_, rfl⟩, ⟨_, rfl⟩, trivial⟩ (fun hp25 hg25 => Pu_str rfl rfl rfl rfl)) rfl ?_
  refine Dr_st (St_gd [18] rfl rfl rfl rfl ⟨⟨_, rfl⟩, trivial⟩ (fun hg26 => Pu_andG rfl rfl (fun h => ⟨hg26, h⟩) rfl rfl)) rfl ?_
  refine Dr_p (Pu_or rfl rfl rfl rfl) ?_
  refine Dr_nil (Al_nil ?_)
  refine Aw_cond rfl (fun h27 => ?_) (fun h27 => ?_)
  · skip
    have hno : J.put l v = none := by
      unfold J.put
      rw [if_neg]
      rintro ⟨h1, h2, _⟩
      rw [h1] at h27
      simp only [Bool.not_true, Bool.false_or, Bool.and_eq_true, decide_eq_true_eq] at h27
      have hk : 0 < l.length := by omega
      have := h2 (l.getD 0 default) (by simp [hk])
      rw [this] at h27
      simp at h27
    refine Aw_seq (Aw_region ?_)
    refine Al_p Pu_mvl ?_
    refine Al_p Pu_mvr ?_
    refine Al_p Pu_mvr ?_
    refine Al_nil ?_
    refine Aw_ret ?_
    exact ⟨Sub.d (by rw [hno]; rfl), Sub.bool (by rw [hno]; rfl)⟩ -- ret 0
  · skip
    have hck : J.checkB v = true := by
      cases h : J.checkB v with
      | true => rfl
      | false => rw [h] at h27; simp at h27
    have hke : ∀ x, l[0]? = some x → x.key.toList = v.key.toList := fun x hx => by
      rw [hck] at h27
      obtain ⟨hk, rfl⟩ := List.getElem?_eq_some_iff.1 hx
      simp only [Bool.not_true, Bool.false_or, Bool.and_eq_false_iff, decide_eq_false_iff_not] at h27
      rcases h27 with h | h
      · omega
      · rw [show l.getD 0 default = l[0] from by simp [hk]] at h
        simpa using h
    refine Aw_skip (Aw_seq (Aw_region ?_))
    refine Al_p Pu_mvr ?_
    refine Al_nil (Aw_seq (Aw_region ?_))
    refine Al_p Pu_mvr ?_
    refine Al_nil (Aw_seq (Aw_seq (Aw_region ?_)))
    refine Al_p Pu_mvr ?_
    refine Al_nil (Aw_block ?_)
    refine Aw_own (j := 7) (k := 7) (T := 34) (n := 6) rfl (fun g0 => ?_)
    refine Aw_loopk (ι := Nat × Nat) [0, 3] [3] (fun (k, g) => [(9, .d (iv k)), (7, .ow 7 g), (8, .d (bv (decide (J.frm l v.n v.s < k))))]) (fun (k, g) => [(7, g, .arr 34 6 ((J.outI l v k).map Ver.row))]) (fun (k, g) => k ≤ l.length ∧ ∀ i, i < k → J.isSt v.n v.s (l.getD i default) = false) (fun (k, g) => l.length - k) ((0, g0)) (⟨Nat.zero_le _, by intros; omega⟩) ⟨Sub.rfl, Sub.rfl, Sub.bool (by simp), trivial⟩ ⟨obeq (by rw [J.outI_zero]; rfl), trivial⟩ ?_
    rintro ⟨k, g⟩ ⟨hk0, hno⟩
    refine Aw_seq (Aw_seq (Aw_region ?_))
    refine Al_p Pu_mvl ?_
    refine Al_p Pu_mvl ?_
    refine Al_p (Pu_len rfl Tryz.underlying65 rfl (by first | exact List.length_map .. | exact rfl)) ?_
    refine Al_p (Pu_cmp rfl rfl rfl rfl) ?_
    refine Al_nil ?_
    refine Aw_cond rfl (fun h32 => ?_) (fun h32 => ?_)
    · (try simp only [decide_eq_true_eq, decide_eq_false_iff_not, List.length_map] at h32)
      have hk : k < l.length := by omega
      have hgd : l.getD k default = l[k] := by simp [hk]
      have hol := J.outI_len l v k
      refine Aw_skip ?_
      -- join 0: live [0, 3, 7, 8, 9], turned [7, 8]
      refine Aw_seq (Aw_block (Aw_seq (Aw_seq ?_)))
      refine Aw_draw 8 (by kernel_rfl) (by kernel_rfl) ?_
      refine Dr_p Pu_mvl ?_
      refine Dr_p Pu_mvl ?_
      refine Dr_p (Pu_index rfl Tryz.underlying65 Tryz.sizeOf34 rfl rfl (rfl) (mapgetD (d := default) hk)) ?_
      refine Dr_p (Pu_field 3 rfl Tryz.underlying34 rfl rfl Tryz.sizeOf31 rfl) ?_
      refine Dr_p (Pu_loadN rfl Tryz.isAgg31 Tryz.sizeOf31 rfl (Nat.le_of_ble_eq_true rfl)) ?_
      refine Dr_p (Pu_field 3 rfl Tryz.underlying34 rfl rfl Tryz.sizeOf31 rfl) ?_
      refine Dr_p (Pu_loadN rfl Tryz.isAgg31 Tryz.sizeOf31 rfl (Nat.le_of_ble_eq_true rfl)) ?_
      refine Dr_p (Pu_eqrow [.int .i64 _, .int .i64 _] [.int .i64 _, .int .i64 _] (fun w => eqv31 _ _ _ _ _ _ w) rfl rfl rfl) ?_
      refine Dr_nil (Al_nil ?_)
      refine Aw_cond rfl (fun h42 => ?_) (fun h42 => ?_)
      · skip
        have hnone : J.put l v = none := J.put_st hc hk (by rw [← hgd]; exact h42)
        refine Aw_seq (Aw_region ?_)
        refine Al_p Pu_mvl ?_
        refine Al_p Pu_mvr ?_
        refine Al_p Pu_mvr ?_
        refine Al_nil ?_
        refine Aw_ret ?_
        exact ⟨Sub.d (by rw [hnone]; rfl), Sub.bool (by rw [hnone]; rfl)⟩ -- ret 1
      · skip
        refine Aw_skip ?_
        -- join 1: live [0, 3, 7, 8, 9], turned [7, 8]
        refine Aw_seq (Aw_seq ?_)
        refine Aw_draw 12 (by kernel_rfl) (by kernel_rfl) ?_
        refine Dr_p Pu_mvl ?_
        refine Dr_p (Pu_not rfl rfl) ?_
        refine Dr_p Pu_mvl ?_
        refine Dr_st (St_gd [] rfl rfl rfl rfl trivial (fun hg47 => Pu_field 3 rfl Tryz.underlying34 rfl rfl Tryz.sizeOf31 rfl)) rfl ?_
        refine Dr_st (St_gd [47] rfl rfl rfl rfl ⟨⟨_, rfl⟩, trivial⟩ (fun hg48 => Pu_loadN rfl Tryz.isAgg31 Tryz.sizeOf31 rfl (Nat.le_of_ble_eq_true rfl))) rfl ?_
        refine Dr_st (St_gd [] rfl rfl rfl rfl trivial (fun hg49 => by exact Pu_move (.inl rfl) (by conv => lhs; whnf))) rfl ?_
        refine Dr_st (St_gd [] rfl rfl rfl rfl trivial (fun hg50 => by exact Pu_move (.inl rfl) (by conv => lhs; whnf))) rfl ?_
        refine Dr_st (St_gd [49, 50] rfl rfl rfl rfl ⟨⟨_, rfl⟩, ⟨_, rfl⟩, trivial⟩ (fun hg51 => Pu_index rfl Tryz.underlying65 Tryz.sizeOf34 rfl rfl (rfl) (mapgetD (d := default) hk))) rfl ?_
        refine Dr_st (St_gd [51] rfl rfl rfl rfl ⟨⟨_, rfl⟩, trivial⟩ (fun hg52 => Pu_field 3 rfl Tryz.underlying34 rfl rfl Tryz.sizeOf31 rfl)) rfl ?_
        refine Dr_st (St_gd [52] rfl rfl rfl rfl ⟨⟨_, rfl⟩, trivial⟩ (fun hg53 => Pu_loadN rfl Tryz.isAgg31 Tryz.sizeOf31 rfl (Nat.le_of_ble_eq_true rfl))) rfl ?_
        refine Dr_st (St_gd [48, 53] rfl rfl rfl rfl ⟨⟨_, rfl⟩, ⟨_, rfl⟩, trivial⟩ (fun hg54 => Pu_call (rless_a _ _ _ _) rfl ⟨Sub.rfl, Sub.rfl, trivial⟩)) rfl ?_
        refine Dr_p (Pu_and rfl rfl rfl rfl) ?_
        refine Dr_nil (Al_nil ?_)
        refine Aw_cond rfl (fun h55 => ?_) (fun h55 => ?_)
        · skip
          have hfk : J.frm l v.n v.s = k := by
            simp only [Bool.and_eq_true, Bool.not_eq_true', decide_eq_false_iff_not] at h55
            exact J.frm_eq hk (by rw [hgd] at h55; show (!D.lessB _ _ _ _) = true; rw [J.less_asymm h55.2]; rfl) h55.1
          have hst := J.outI_at hk hfk
          refine Aw_seq (Aw_region ?_)
          refine Al_p Pu_mvl ?_
          refine Al_p (Pu_loadN rfl Tryz.isAgg34 Tryz.sizeOf34 rfl (Nat.le_of_ble_eq_true rfl)) ?_
          refine Al_p (Pu_slice1 rfl Tryz.underlying65 Tryz.sizeOf34 Tryz.zeroValue34 rfl (by decide) (by decide) (by kernel_rfl) rfl rfl rfl) ?_
          refine Al_append rfl rfl rfl (by decide) (by kernel_rfl) elem65 (by decide) Tryz.sizeOf34 rfl rfl rfl (by simp only [List.length_map, List.length_cons, List.length_nil]; omega) (by decide) (fun g59 => ?_)
          refine Al_p Pu_mvr ?_
          refine Al_nil (Aw_region ?_)
          refine Al_p Pu_mvr ?_
          refine Al_nil (Aw_region ?_)
          refine Al_p Pu_mvl ?_
          refine Al_p Pu_mvl ?_
          refine Al_p Pu_mvl ?_
          refine Al_p (Pu_index rfl Tryz.underlying65 Tryz.sizeOf34 rfl rfl (rfl) (mapgetD (d := default) hk)) ?_
          refine Al_p (Pu_loadN rfl Tryz.isAgg34 Tryz.sizeOf34 rfl (Nat.le_of_ble_eq_true rfl)) ?_
          refine Al_p (Pu_slice1 rfl Tryz.underlying65 Tryz.sizeOf34 Tryz.zeroValue34 rfl (by decide) (by decide) (by kernel_rfl) rfl rfl rfl) ?_
          refine Al_append rfl rfl rfl (by decide) (by kernel_rfl) elem65 (by decide) Tryz.sizeOf34 rfl rfl rfl (by simp only [List.length_map, List.length_cons, List.length_nil, List.length_append]; omega) (by decide) (fun g66 => ?_)
          refine Al_p Pu_mvr ?_
          refine Al_nil (Aw_region ?_)
          refine Al_p Pu_mvl ?_
          refine Al_p (Pu_add rfl rfl rfl (fun h1 h2 => by simp only [A.inI, A.maxI] at *; omega)) ?_
          refine Al_p Pu_mvr ?_
          refine Al_nil ?_
          exact ⟨(k + 1, g66), ⟨by omega, fun i hi => by
            rcases Nat.lt_succ_iff_lt_or_eq.1 hi with h | rfl
            · exact hno i h
            · exact h42⟩, by simp only []; omega, Le.ov ⟨Sub.num (by omega), Sub.rfl, Sub.bool (by simp; omega), trivial⟩ ⟨Sub.rfl, Sub.rfl, trivial⟩ ⟨obeq (by rw [hst, List.map_append, List.map_append, ← hgd]; rfl), trivial⟩ ⟨rfl, trivial⟩⟩ -- loop 0 next.0
        · skip
          have hfk : J.frm l v.n v.s ≠ k := fun e => by
            rw [e, hgd] at h55
            simp only [Nat.lt_irrefl, decide_false, Bool.not_false, Bool.true_and] at h55
            rw [hgd] at h42
            have h2 := J.less_tri h55 (J.beq2_comm h42)
            exact J.frm_ne hk (by show (!D.lessB _ _ _ _) = false; rw [h2]; rfl) e
          have hst := J.outI_ne hk hfk
          refine Aw_skip (Aw_region ?_)
          refine Al_p Pu_mvl ?_
          refine Al_p Pu_mvl ?_
          refine Al_p Pu_mvl ?_
          refine Al_p (Pu_index rfl Tryz.underlying65 Tryz.sizeOf34 rfl rfl (rfl) (mapgetD (d := default) hk)) ?_
          refine Al_p (Pu_loadN rfl Tryz.isAgg34 Tryz.sizeOf34 rfl (Nat.le_of_ble_eq_true rfl)) ?_
          refine Al_p (Pu_slice1 rfl Tryz.underlying65 Tryz.sizeOf34 Tryz.zeroValue34 rfl (by decide) (by decide) (by kernel_rfl) rfl rfl rfl) ?_
          refine Al_append rfl rfl rfl (by decide) (by kernel_rfl) elem65 (by decide) Tryz.sizeOf34 rfl rfl rfl (by simp only [List.length_map, List.length_cons, List.length_nil, List.length_append]; omega) (by decide) (fun g66 => ?_)
          refine Al_p Pu_mvr ?_
          refine Al_nil (Aw_region ?_)
          refine Al_p Pu_mvl ?_
          refine Al_p (Pu_add rfl rfl rfl (fun h1 h2 => by simp only [A.inI, A.maxI] at *; omega)) ?_
          refine Al_p Pu_mvr ?_
          refine Al_nil ?_
          exact ⟨(k + 1, g66), ⟨by omega, fun i hi => by
            rcases Nat.lt_succ_iff_lt_or_eq.1 hi with h | rfl
            · exact hno i h
            · exact h42⟩, by simp only []; omega, Le.ov ⟨Sub.num (by omega), Sub.rfl, Sub.bool (decide_eq_decide.2 ⟨by omega, by omega⟩), trivial⟩ ⟨Sub.rfl, Sub.rfl, trivial⟩ ⟨obeq (by rw [hst, List.map_append, ← hgd]; rfl), trivial⟩ ⟨rfl, trivial⟩⟩ -- loop 0 next.1
    · (try simp only [decide_eq_true_eq, decide_eq_false_iff_not, List.length_map] at h32)
      have hkn : k = l.length := by omega
      have hpe := J.put_eq hck hke (fun x hx => by
        obtain ⟨i, hi, rfl⟩ := List.mem_iff_getElem.1 hx
        have := hno i (by omega)
        rw [List.getD_eq_getElem?_getD, List.getElem?_eq_getElem hi, Option.getD_some] at this
        exact this)
      have hol := J.outI_len l v k
      refine Aw_exit ?_
      -- join 2: live [7], turned [7]
      refine Aw_seq (Aw_seq (Aw_region ?_))
      refine Al_p Pu_mvl ?_
      refine Al_p (Pu_not rfl rfl) ?_
      refine Al_nil ?_
      refine Aw_cond rfl (fun h68 => ?_) (fun h68 => ?_)
      · (try simp only [decide_eq_true_eq, decide_eq_false_iff_not, List.length_map] at h68)
        rw [if_neg (by simpa [hkn] using h68)] at hpe
        refine Aw_region ?_
        refine Al_p Pu_mvl ?_
        refine Al_p (Pu_loadN rfl Tryz.isAgg34 Tryz.sizeOf34 rfl (Nat.le_of_ble_eq_true rfl)) ?_
        refine Al_p (Pu_slice1 rfl Tryz.underlying65 Tryz.sizeOf34 Tryz.zeroValue34 rfl (by decide) (by decide) (by kernel_rfl) rfl rfl rfl) ?_
        refine Al_append rfl rfl rfl (by decide) (by kernel_rfl) elem65 (by decide) Tryz.sizeOf34 rfl rfl rfl (by simp only [List.length_map, List.length_cons, List.length_nil]; omega) (by decide) (fun g72 => ?_)
        refine Al_p Pu_mvr ?_
        refine Al_nil (Aw_seq ?_)
        refine Aw_frz hnl (k := 7) [7] rfl ⟨rfl, trivial⟩ ?_
        refine Aw_region ?_
        refine Al_p Pu_mvl ?_
        refine Al_p Pu_mvr ?_
        refine Al_p Pu_mvr ?_
        refine Al_nil ?_
        refine Aw_ret ?_
        exact ⟨Sub.d (by rw [hpe, hkn, Option.getD_some]; show _ = AV.sl 6 ((J.outI l v l.length ++ [v]).map Ver.row); rw [List.map_append]; rfl), Sub.bool (by rw [hpe]; rfl)⟩ -- ret 2
      · (try simp only [decide_eq_true_eq, decide_eq_false_iff_not, List.length_map] at h68)
        rw [if_pos (by simpa [hkn] using h68)] at hpe
        refine Aw_skip (Aw_seq ?_)
        refine Aw_frz hnl (k := 7) [7] rfl ⟨rfl, trivial⟩ ?_
        refine Aw_region ?_
        refine Al_p Pu_mvl ?_
        refine Al_p Pu_mvr ?_
        refine Al_p Pu_mvr ?_
        refine Al_nil ?_
        refine Aw_ret ?_
        exact ⟨Sub.d (by rw [hpe, hkn]; rfl), Sub.bool (by rw [hpe]; rfl)⟩ -- ret 3
end Go.Proofs.YtmbaeloiepjakaaGreat
end

section
set_option maxRecDepth 100000
namespace Go.Proofs.YtmbaeloiepjakaaGreat
open Go.RowKit A R
open A.RowT
abbrev chR (p : ByteArray × List Ver) : List AV := [tv p.1, versA p.2]
abbrev RH (rs : List Rng) (cs : SC) (o : Nat) : Obs := [(1001, .box 76 [.d (rngA rs), .ow o 0]), (o, .arr 108 2 (cs.map chR))]
namespace J
theorem ch_un (cs : SC) : ∀ r ∈ cs.map chR, r.length = 2 := fun r hr => by obtain ⟨x, _, rfl⟩ := List.mem_map.1 hr; rfl
theorem ch_drop {cs : SC} {j : Nat} (hj : j < cs.length) : (cs.map chR).flatten.drop (j * 2) = tv (cs.getD j default).1 :: versA (cs.getD j default).2 :: (cs.map chR).flatten.drop ((j + 1) * 2) := by
  rw [← flat_drop (ch_un cs), ← flat_drop (ch_un cs), List.drop_eq_getElem_cons (l := cs.map chR) (by simpa using hj)]
  simp [hj]
theorem chKey {cs : SC} {j : Nat} (hj : j < cs.length) : (cs.map chR).flatten[j * 2 + 0]? = some (tv (cs.getD j default).1) := by
  have := congrArg (·[0]?) (ch_drop hj)
  simpa [List.getElem?_drop] using this
theorem chL {cs : SC} {j : Nat} (hj : j < cs.length) : (cs.map chR).flatten[j * 2 + 1]? = some (versA (cs.getD j default).2) := by
  have := congrArg (·[1]?) (ch_drop hj)
  simpa [List.getElem?_drop] using this
theorem chAll {cs : SC} {j : Nat} (hj : j < cs.length) : ((cs.map chR).flatten.drop (j * 2)).take 2 = chR (cs.getD j default) := by
  rw [ch_drop hj]; rfl
theorem ch_set {cs : SC} {j : Nat} (hj : j < cs.length) (l : List Ver) : ((cs.set j ((cs.getD j default).1, l)).map chR).flatten = (cs.map chR).flatten.take (j * 2 + 1) ++ [versA l] ++ (cs.map chR).flatten.drop (j * 2 + 1 + 1) := by
  have h1 : (cs.map chR).flatten.take (j * 2 + 1) = (cs.map chR).flatten.take (j * 2) ++ [tv (cs.getD j default).1] := by
    rw [List.take_add, ch_drop hj]; rfl
  have h2 : (cs.map chR).flatten.drop (j * 2 + 1 + 1) = (cs.map chR).flatten.drop ((j + 1) * 2) := by congr 1; omega
  rw [h1, h2, ← flat_take (ch_un cs), ← flat_drop (ch_un cs), List.set_eq_take_append_cons_drop, if_pos hj]
  simp
theorem getC_at {cs : SC} (h : RiseC cs) {k : Nat} (hk : k < cs.length) : getC cs cs[k].1 = cs[k].2 := by
  unfold getC; rw [look_mem h (List.getElem_mem hk)]; rfl
/-- The place of a key's chain. -/
def rpos (cs : SC) (k : ByteArray) : Int := S.find (fun p => p.1.toList == k.toList) cs
theorem rpos_look : ∀ (cs : SC) (k : ByteArray), (rpos cs k < 0 ∧ look cs k = none) ∨ ∃ i, ∃ hi : i < cs.length, rpos cs k = (i : Int) ∧ cs[i].1 = k ∧ look cs k = some cs[i].2 := fun cs k => by
  by_cases h : S.find (fun p : ByteArray × List Ver => p.1.toList == k.toList) cs = -1
  · refine .inl ⟨by unfold rpos; omega, ?_⟩
    have h1 := S.find_neg h
    refine look_none fun p hp e => ?_
    have h2 : p ∈ cs.filter fun x => !(x.1.toList == k.toList) := by rw [h1]; exact hp
    have h3 := (List.mem_filter.1 h2).2
    rw [e] at h3
    simp at h3
  · obtain ⟨i, hi, h1, h2, h3⟩ := S.find_pos h
    have hk : cs[i].1 = k := by rw [str_eqB] at h2; exact of_decide_eq_true h2
    refine .inr ⟨i, hi, h1, hk, ?_⟩
    unfold look
    have hf : cs.find? (fun p => decide (p.1 = k)) = some cs[i] := by
      rw [List.find?_eq_some_iff_getElem]
      refine ⟨by simpa using hk, i, hi, rfl, fun j hj => ?_⟩
      have := h3 j (by omega) hj
      simp only [Bool.not_eq_true', decide_eq_false_iff_not]
      intro e
      rw [e] at this
      simp at this
    rw [hf]; rfl
end J
theorem RH_in (rs : List Rng) (cs : SC) : ObsIn [1001, 1002] (RH rs cs 1002) := ⟨rfl, trivial, trivial⟩
theorem rpos13_g (rs : List Rng) (cs : SC) (key : ByteArray) (hcl : cs.length ≤ 1000) : GCall Tryz.prog 73 [.bx 1001 0 0, .d (tv key)] (RH rs cs 1002) (some (RH rs cs 1002, .d (iv (J.rpos cs key)))) := by
  refine GCall_enterL (fun _ _ => by kernel_rfl) Tryz.func73 rfl Tryz.ntmps73 (ReadsS.r1 Tryz.results73) (Nat.le_of_ble_eq_true rfl) (fun hok hokB M0 w0 hl => ?_)
  refine Aw_seq (Aw_region ?_)
  refine Al_p Pu_mvr ?_
  refine Al_nil (Aw_seq (Aw_seq (Aw_region ?_)))
  refine Al_p Pu_mvr ?_
  refine Al_nil (Aw_block ?_)
  refine Aw_loopk (ι := Nat) [0, 1] [1001, 1002] (fun k => [(5, .d (iv k))]) (fun k => []) (fun k => k ≤ cs.length ∧ ∀ j (h : j < cs.length), j < k → (cs[j].1.toList == key.toList) = false) (fun k => cs.length - k) (0) (⟨Nat.zero_le _, by intros; omega⟩) ⟨Sub.rfl, trivial⟩ trivial ?_
  rintro k ⟨hk0, hno⟩
  refine Aw_seq (Aw_seq (Aw_region ?_))
  refine Al_p Pu_mvl ?_
  refine Al_p Pu_mvl ?_
  refine Al_p (Pu_nilb rfl rfl) ?_
  refine Al_p (Pu_fieldb 1 rfl Tryz.underlying76 rfl rfl Tryz.sizeOf74 rfl) ?_
  refine Al_p (Pu_loadb rfl Tryz.isAgg74 rfl rfl rfl) ?_
  refine Al_p (Pu_lenOw rfl Tryz.underlying74 rfl rfl (List.length_map ..)) ?_
  refine Al_p (Pu_cmp rfl rfl rfl rfl) ?_
  refine Al_nil ?_
  refine Aw_cond rfl (fun h12 => ?_) (fun h12 => ?_)
  · (try simp only [decide_eq_true_eq, decide_eq_false_iff_not, List.length_map] at h12)
    have hk : k < cs.length := by omega
    have hgd : cs.getD k default = cs[k] := by simp [hk]
    refine Aw_skip (Aw_seq (Aw_block (Aw_seq (Aw_region ?_))))
    refine Al_p Pu_mvl ?_
    refine Al_p (Pu_nilb rfl rfl) ?_
    refine Al_p (Pu_fieldb 1 rfl Tryz.underlying76 rfl rfl Tryz.sizeOf74 rfl) ?_
    refine Al_p (Pu_loadb rfl Tryz.isAgg74 rfl rfl rfl) ?_
    refine Al_p Pu_mvl ?_
    refine Al_p (Pu_indexOw (j := k) rfl Tryz.underlying74 Tryz.sizeOf108 rfl rfl rfl rfl (by rw [List.length_map]; omega)) ?_
    refine Al_p (Pu_fieldb 0 rfl Tryz.underlying108 rfl rfl Tryz.sizeOf9 rfl) ?_
    refine Al_p (Pu_loadArr rfl Tryz.isAgg9 rfl rfl (J.chKey (cs := cs) hk)) ?_
    refine Al_p Pu_mvl ?_
    refine Al_p (Pu_str rfl rfl rfl rfl) ?_
    refine Al_nil ?_
    refine Aw_cond rfl (fun h24 => ?_) (fun h24 => ?_)
    · skip
      rw [hgd] at h24
      refine Aw_seq (Aw_region ?_)
      refine Al_p Pu_mvl ?_
      refine Al_p Pu_mvr ?_
      refine Al_nil ?_
      refine Aw_ret ?_
      exact ⟨_, _, [], rfl, Sub.num (S.find_at hk h24 hno), ⟨rfl, rfl, trivial⟩, rfl⟩ -- ret 0
    · skip
      have h24' : (cs[k].1.toList == key.toList) = false := by rw [← hgd]; exact h24
      refine Aw_skip (Aw_region ?_)
      refine Al_p Pu_mvl ?_
      refine Al_p (Pu_add rfl rfl rfl (fun h1 h2 => by simp only [A.inI, A.maxI] at *; omega)) ?_
      refine Al_p Pu_mvr ?_
      refine Al_nil ?_
      exact ⟨k + 1, ⟨by omega, fun j hj hjk => by
        by_cases e : j = k
        · subst e; exact h24'
        · exact hno j hj (by omega)⟩, by omega, Le.ov ⟨Sub.num (by omega), trivial⟩ ⟨Sub.rfl, Sub.rfl, trivial⟩ trivial ⟨rfl, rfl, trivial⟩⟩ -- loop 0 next.0
  · (try simp only [decide_eq_true_eq, decide_eq_false_iff_not, List.length_map] at h12)
    obtain rfl : k = cs.length := by omega
    refine Aw_exit (Aw_seq (Aw_region ?_))
    refine Al_p Pu_mvr ?_
    refine Al_nil ?_
    refine Aw_ret ?_
    exact ⟨_, _, [], rfl, Sub.num (S.find_no hno), ⟨rfl, rfl, trivial⟩, rfl⟩ -- ret 1
theorem rof13_g (rs : List Rng) (cs : SC) (key : ByteArray) (hcl : cs.length ≤ 1000) : GCall Tryz.prog 40 [.bx 1001 0 0, .d (tv key)] (RH rs cs 1002) (some (RH rs cs 1002, .d (versA (J.getC cs key)))) := by
  refine GCall_enterL (fun _ _ => by kernel_rfl) Tryz.func40 rfl Tryz.ntmps40 (ReadsS.r1 Tryz.results40) (Nat.le_of_ble_eq_true rfl) (fun hok hokB M0 w0 hl => ?_)
  refine Aw_seq (Aw_region ?_)
  refine Al_p Pu_mvr ?_
  refine Al_nil (Aw_seq (Aw_region ?_))
  refine Al_p Pu_mvl ?_
  refine Al_p Pu_mvl ?_
  refine Al_p (Pu_gcall [(1001, 1001, 0), (1002, 1002, 0)] (rpos13_g rs cs key hcl) (RH_in ..) rfl ⟨rfl, rfl, trivial⟩ rfl ⟨Sub.rfl, Sub.rfl, trivial⟩) ?_
  refine Al_p Pu_mvr ?_
  refine Al_nil (Aw_seq (Aw_seq (Aw_region ?_)))
  refine Al_p Pu_mvl ?_
  refine Al_p (Pu_cmp rfl rfl rfl rfl) ?_
  refine Al_nil ?_
  refine Aw_cond rfl (fun h10 => ?_) (fun h10 => ?_)
  · (try simp only [decide_eq_true_eq, decide_eq_false_iff_not, List.length_map] at h10)
    have hno : J.getC cs key = [] := by
      rcases J.rpos_look cs key with ⟨_, h⟩ | ⟨i, hi, h, _⟩
      · unfold J.getC; rw [h]; rfl
      · omega
    refine Aw_seq (Aw_region ?_)
    refine Al_p Pu_mvr ?_
    refine Al_nil ?_
    refine Aw_ret ?_
    exact ⟨_, _, [], rfl, by rw [hno]; exact Sub.nil, ⟨rfl, rfl, trivial⟩, rfl⟩ -- ret 0
  · (try simp only [decide_eq_true_eq, decide_eq_false_iff_not, List.length_map] at h10)
    obtain ⟨i, hi, hp, hk, hlk⟩ : ∃ i, ∃ hi : i < cs.length, J.rpos cs key = (i : Int) ∧ cs[i].1 = key ∧ J.look cs key = some cs[i].2 := by
      rcases J.rpos_look cs key with ⟨h, _⟩ | h
      · omega
      · exact h
    have hgc : J.getC cs key = (cs.getD i default).2 := by unfold J.getC; rw [hlk]; simp [hi]
    refine Aw_skip (Aw_seq (Aw_region ?_))
    refine Al_p Pu_mvl ?_
    refine Al_p (Pu_nilb rfl rfl) ?_
    refine Al_p (Pu_fieldb 1 rfl Tryz.underlying76 rfl rfl Tryz.sizeOf74 rfl) ?_
    refine Al_p (Pu_loadb rfl Tryz.isAgg74 rfl rfl rfl) ?_
    refine Al_p Pu_mvl ?_
    refine Al_p (Pu_indexOw (j := i) rfl Tryz.underlying74 Tryz.sizeOf108 rfl rfl rfl hp (by rw [List.length_map]; omega)) ?_
    refine Al_p (Pu_fieldb 1 rfl Tryz.underlying108 rfl rfl Tryz.sizeOf65 rfl) ?_
    refine Al_p (Pu_loadArr rfl Tryz.isAgg65 rfl rfl (J.chL (cs := cs) hi)) ?_
    refine Al_p Pu_mvr ?_
    refine Al_nil ?_
    refine Aw_ret ?_
    exact ⟨_, _, [], rfl, Sub.d (by rw [hgc]), ⟨rfl, rfl, trivial⟩, rfl⟩ -- ret 1
theorem rhave13_g (rs : List Rng) (cs : SC) (hcl : cs.length ≤ 1000) (hr : J.RiseC cs) : GCall Tryz.prog 37 [.bx 1001 0 0] (RH rs cs 1002) (some (RH rs cs 1002, .d (.sl 3 ((J.have' cs).map Dep.row)))) := by
  refine GCall_enterL (fun _ _ => by kernel_rfl) Tryz.func37 rfl Tryz.ntmps37 (ReadsS.r1 Tryz.results37) (Nat.le_of_ble_eq_true rfl) (fun hok hokB M0 w0 hl => ?_)
  refine Aw_seq (Aw_region ?_)
  refine Al_p Pu_mvr ?_
  refine Al_nil (Aw_seq (Aw_region ?_))
  refine Al_p Pu_mvr ?_
  refine Al_nil (Aw_seq (Aw_seq (Aw_region ?_)))
  refine Al_p Pu_mvr ?_
  refine Al_nil (Aw_block ?_)
  refine Aw_own (j := 3) (k := 3) (T := 59) (n := 3) rfl (fun g0 => ?_)
  refine Aw_loopk (ι := Nat × Nat) [0] [1001, 1002] (fun (k, g) => [(4, .d (iv k)), (3, .ow 3 g)]) (fun (k, g) => [(3, g, .arr 59 3 (((J.have' cs).take k).map Dep.row))]) (fun (k, g) => k ≤ cs.length) (fun (k, g) => cs.length - k) ((0, g0)) (Nat.zero_le _) ⟨Sub.rfl, Sub.rfl, trivial⟩ ⟨rfl, trivial⟩ ?_
  rintro ⟨k, g⟩ hk0
  refine Aw_seq (Aw_seq (Aw_region ?_))
  refine Al_p Pu_mvl ?_
  refine Al_p Pu_mvl ?_
  refine Al_p (Pu_nilb rfl rfl) ?_
  refine Al_p (Pu_fieldb 1 rfl Tryz.underlying76 rfl rfl Tryz.sizeOf74 rfl) ?_
  refine Al_p (Pu_loadb rfl Tryz.isAgg74 rfl rfl rfl) ?_
  refine Al_p (Pu_lenOw rfl Tryz.underlying74 rfl rfl (List.length_map ..)) ?_
  refine Al_p (Pu_cmp rfl rfl rfl rfl) ?_
  refine Al_nil ?_
  refine Aw_cond rfl (fun h13 => ?_) (fun h13 => ?_)
  · (try simp only [decide_eq_true_eq, decide_eq_false_iff_not, List.length_map] at h13)
    have hk : k < cs.length := by omega
    have htk := J.take_have cs hk
    have hgd : cs.getD k default = cs[k] := by simp [hk]
    have hkd : (J.keysC cs).getD k default = (cs.getD k default).1 := by unfold J.keysC; simp [hk]
    have hsh : J.shead cs ((J.keysC cs).getD k default) = J.head (cs.getD k default).2 := by
      unfold J.shead
      rw [hkd, hgd, J.getC_at hr hk]
    have ch := rhead12_a (cs.getD k default).2
    rw [← hsh] at ch
    refine Aw_skip ?_
    -- join 0: live [0, 3, 4], turned [3]
    refine Aw_seq (Aw_block (Aw_seq (Aw_region ?_)))
    refine Al_p Pu_mvl ?_
    refine Al_p (Pu_nilb rfl rfl) ?_
    refine Al_p (Pu_fieldb 1 rfl Tryz.underlying76 rfl rfl Tryz.sizeOf74 rfl) ?_
    refine Al_p (Pu_loadb rfl Tryz.isAgg74 rfl rfl rfl) ?_
    refine Al_p Pu_mvl ?_
    refine Al_p (Pu_indexOw (j := k) rfl Tryz.underlying74 Tryz.sizeOf108 rfl rfl rfl rfl (by rw [List.length_map]; omega)) ?_
    refine Al_p (Pu_fieldb 1 rfl Tryz.underlying108 rfl rfl Tryz.sizeOf65 rfl) ?_
    refine Al_p (Pu_loadArr rfl Tryz.isAgg65 rfl rfl (J.chL (cs := cs) hk)) ?_
    refine Al_p (Pu_call (ch) rfl ⟨Sub.rfl, trivial⟩) ?_
    refine Al_p Pu_mvl ?_
    refine Al_p (Pu_extract rfl rfl rfl) ?_
    refine Al_p (Pu_extract rfl rfl rfl) ?_
    refine Al_alloc rfl rfl rfl (by decide) Tryz.zeroValue34 rfl (by kernel_rfl) (fun g5 => ?_)
    refine Al_storeN rfl rfl rfl (by kernel_rfl) Tryz.isAgg34 Tryz.sizeOf34 rfl rfl rfl rfl (Nat.le_of_ble_eq_true rfl) ?_
    refine Al_p Pu_mvr ?_
    refine Al_nil ?_
    refine Aw_drawP 13 2 (by kernel_rfl) (by kernel_rfl) rfl ?_
    refine Dr_p Pu_mvl ?_
    refine Dr_p Pu_mvl ?_
    refine Dr_p (Pu_nilb rfl rfl) ?_
    refine Dr_p (Pu_fieldb 1 rfl Tryz.underlying76 rfl rfl Tryz.sizeOf74 rfl) ?_
    refine Dr_p (Pu_loadb rfl Tryz.isAgg74 rfl rfl rfl) ?_
    refine Dr_p Pu_mvl ?_
    refine Dr_p (Pu_indexOw (j := k) rfl Tryz.underlying74 Tryz.sizeOf108 rfl rfl rfl rfl (by rw [List.length_map]; omega)) ?_
    refine Dr_p (Pu_fieldb 0 rfl Tryz.underlying108 rfl rfl Tryz.sizeOf9 rfl) ?_
    refine Dr_p (Pu_loadArr (c := tv ((J.keysC cs).getD k default)) rfl Tryz.isAgg9 rfl rfl (by rw [hkd]; exact J.chKey (cs := cs) hk)) ?_
    refine Dr_p (Pu_fieldb 3 rfl Tryz.underlying34 rfl rfl Tryz.sizeOf31 rfl) ?_
    refine Dr_p (Pu_loadbN (r := [_, _]) rfl Tryz.isAgg31 Tryz.sizeOf31 rfl rfl rfl rfl) ?_
    refine Dr_p (Pu_build (aa := [(0, _), (1, _)]) rfl Tryz.underlying59 Tryz.zeroValue59 (places59 Tryz.underlying59) (by kernel_rfl) ⟨rfl, rfl, rfl, rfl, rfl, rfl, trivial⟩ rfl) ?_
    refine Dr_p (Pu_slice1 rfl Tryz.underlying32 Tryz.sizeOf59 Tryz.zeroValue59 rfl (by decide) (by decide) (by kernel_rfl) rfl rfl rfl) ?_
    refine Dr_nil ?_
    refine Ad_one 13 rfl (by kernel_rfl) ?_
    refine Al_append rfl rfl rfl (by decide) (by kernel_rfl) elem32 (by decide) Tryz.sizeOf59 rfl rfl rfl (by simp; omega) (by decide) (fun g41 => ?_)
    refine Al_nil ?_
    refine Ad_take 14 rfl (PuI_move (.inr rfl) (by conv => lhs; whnf)) rfl rfl (by decide) (by kernel_rfl) (by kernel_rfl) (by kernel_rfl) (by kernel_rfl) (fun _ _ h => h) ?_
    refine Ad_done (by kernel_rfl) ?_
    refine Aw_region ?_
    refine Al_p Pu_mvl ?_
    refine Al_p (Pu_add rfl rfl rfl (fun h1 h2 => by simp only [A.inI, A.maxI] at *; omega)) ?_
    refine Al_p Pu_mvr ?_
    refine Al_nil ?_
    exact ⟨(k + 1, g41), by omega, by simp only []; omega, Le.ov ⟨Sub.num (by omega), Sub.rfl, trivial⟩ ⟨Sub.rfl, trivial⟩ ⟨obeq (by rw [htk, List.map_append]; rfl), trivial⟩ ⟨rfl, rfl, trivial⟩⟩ -- loop 0 next.0
  · (try simp only [decide_eq_true_eq, decide_eq_false_iff_not, List.length_map] at h13)
    have hkn : k = cs.length := by omega
    have htk : (J.have' cs).take k = J.have' cs := List.take_of_length_le (by subst hkn; unfold J.have' J.keysC; simp)
    refine Aw_exit (Aw_seq (Aw_region ?_))
    refine Al_p Pu_mvl ?_
    refine Al_p Pu_mvr ?_
    refine Al_nil ?_
    refine Aw_frzL hl (k := 3) [2] rfl ⟨rfl, ⟨_, rfl, fun _ _ h => h⟩, rfl, ⟨_, rfl, fun _ _ h => h⟩, trivial⟩ ⟨rfl, trivial⟩ ?_
    refine Aw_ret ?_
    exact ⟨_, _, [], rfl, Sub.d (by rw [htk]), ⟨rfl, rfl, trivial⟩, rfl⟩ -- ret 0
namespace J
/-- A row into which x is put ahead of the first one of p; what stands of it when i are taken. -/
def insI {α : Type} (p : α → Bool) (x : α) (l : List α) (i : Nat) : List α := if l.findIdx p < i then l.take (l.findIdx p) ++ x :: (l.take i).drop (l.findIdx p) else l.take i
section
variable {α : Type} {p : α → Bool} {x : α} {l : List α} {i : Nat}
theorem insI_zero : insI p x l 0 = [] := by unfold insI; rw [if_neg (by omega)]; rfl
theorem insI_at (hi : i < l.length) (h : l.findIdx p = i) : insI p x l (i + 1) = insI p x l i ++ [x] ++ [l[i]] := by
  unfold insI
  rw [if_pos (by omega), if_neg (by omega), h, List.take_succ_eq_append_getElem hi, List.drop_append, List.drop_of_length_le (by rw [List.length_take]; omega)]
  simp [show i - min i l.length = 0 from by omega]
theorem insI_ne (hi : i < l.length) (h : l.findIdx p ≠ i) : insI p x l (i + 1) = insI p x l i ++ [l[i]] := by
  unfold insI
  rcases Nat.lt_or_ge (l.findIdx p) i with h1 | h1
  · rw [if_pos (by omega), if_pos h1, List.take_succ_eq_append_getElem hi, List.drop_append_of_le_length (by simp; omega)]
    simp
  · rw [if_neg (by omega), if_neg (by omega), List.take_succ_eq_append_getElem hi]
theorem insI_len : (insI p x l i).length ≤ l.length + 1 := by
  unfold insI
  split
  · simp; omega
  · simp; omega
theorem fidx_eq (hi : i < l.length) (h1 : p l[i] = true) (h2 : ¬ l.findIdx p < i) : l.findIdx p = i := by
  rcases Nat.lt_trichotomy (l.findIdx p) i with h | h | h
  · exact (h2 h).elim
  · exact h
  · have := List.not_of_lt_findIdx h
    rw [h1] at this; simp at this
theorem fidx_ne (hi : i < l.length) (h1 : p l[i] = false) : l.findIdx p ≠ i := fun e => by
  have h : l.findIdx p < l.length := by omega
  have h2 := List.findIdx_getElem (w := h)
  have h3 : l[l.findIdx p] = l[i] := by congr 1
  rw [h3, h1] at h2; cases h2
end
abbrev aft (k : ByteArray) (q : ByteArray × List Ver) : Bool := !(Op.bytesLess q.1.toList k.toList || q.1.toList == k.toList)
theorem aft_eq (k : ByteArray) (q : ByteArray × List Ver) : aft k q = Op.bytesLess k.toList q.1.toList := by
  unfold aft
  cases h : Op.bytesLess k.toList q.1.toList with
  | true =>
    have h1 : Op.bytesLess q.1.toList k.toList = false := by
      cases h2 : Op.bytesLess q.1.toList k.toList with
      | false => rfl
      | true => have := K.bl_trans _ _ _ h h2; rw [K.bl_irrefl] at this; cases this
    have h2 : (q.1.toList == k.toList) = false := by
      rw [beq_eq_false_iff_ne]
      intro e
      rw [e, K.bl_irrefl] at h; cases h
    rw [h1, h2]; rfl
  | false =>
    cases h2 : Op.bytesLess q.1.toList k.toList with
    | true => rfl
    | false => rw [K.bl_tri _ _ h2 h]; simp
theorem setC_ins : ∀ (cs : SC) (k : ByteArray) (l : List Ver), look cs k = none → setC cs k l = if cs.findIdx (aft k) < cs.length then insI (aft k) (k, l) cs cs.length else insI (aft k) (k, l) cs cs.length ++ [(k, l)] := by
  intro cs k l h
  have hm : ∀ (cs : SC), look cs k = none → setC cs k l = cs.take (cs.findIdx (aft k)) ++ (k, l) :: cs.drop (cs.findIdx (aft k)) := by
    intro cs
    induction cs with
    | nil => intro _; rfl
    | cons q r ih =>
      intro h
      rw [look_cons] at h
      have hne : q.1 ≠ k := fun e => by rw [if_pos e] at h; cases h
      rw [if_neg hne] at h
      rw [setC, if_neg hne, List.findIdx_cons]
      cases hb : Op.bytesLess k.toList q.1.toList with
      | true => rw [if_pos rfl, aft_eq, hb]; rfl
      | false => rw [if_neg (by decide), aft_eq, hb, ih h]; rfl
  rw [hm cs h]
  unfold insI
  have hle : cs.findIdx (aft k) ≤ cs.length := List.findIdx_le_length
  rcases Nat.lt_or_ge (cs.findIdx (aft k)) cs.length with h1 | h1
  · rw [if_pos h1, if_pos h1, List.take_length]
  · rw [if_neg (by omega), if_neg (by omega), show cs.findIdx (aft k) = cs.length from by omega]
    simp
theorem setC_old {cs : SC} (h : RiseC cs) {i : Nat} (hi : i < cs.length) (l : List Ver) : setC cs cs[i].1 l = cs.set i (cs[i].1, l) := by
  refine look_ext (rise_set cs _ l h) ?_ fun c => ?_
  · unfold RiseC
    rw [List.map_set]
    have : (cs.map (·.1)).set i cs[i].1 = cs.map (·.1) := by
      apply List.ext_getElem?
      intro j
      rw [List.getElem?_set]
      split
      · rename_i e; subst e; split
        · simp [hi]
        · rename_i h2; simp at h2; omega
      · rfl
    rw [this]; exact h
  · rw [look_set cs _ l c h]
    have hr2 : RiseC (cs.set i (cs[i].1, l)) := by
      unfold RiseC
      rw [List.map_set]
      have : (cs.map (·.1)).set i cs[i].1 = cs.map (·.1) := by
        apply List.ext_getElem?
        intro j
        rw [List.getElem?_set]
        split
        · rename_i e; subst e; split
          · simp [hi]
          · rename_i h2; simp at h2; omega
        · rfl
      rw [this]; exact h
    by_cases hc : c = cs[i].1
    · rw [if_pos hc, hc]
      have hm : (cs[i].1, l) ∈ cs.set i (cs[i].1, l) := List.mem_iff_getElem.2 ⟨i, by simpa using hi, by simp⟩
      exact (look_mem hr2 hm).symm
    · rw [if_neg hc]
      rcases rpos_look cs c with ⟨_, hn⟩ | ⟨j, hj, _, hjk, hs⟩
      · rw [hn]
        symm
        refine look_none fun q hq e => ?_
        obtain ⟨j, hj, hq2⟩ := List.mem_iff_getElem.1 hq
        rw [List.getElem_set] at hq2
        split at hq2
        · subst hq2; exact hc e.symm
        · have h5 := look_mem h (List.getElem_mem (by simpa using hj : j < cs.length))
          rw [hq2, e, hn] at h5
          cases h5
      · rw [hs]
        have hij : i ≠ j := fun e => by subst e; exact hc hjk.symm
        have hm : cs[j] ∈ cs.set i (cs[i].1, l) := List.mem_iff_getElem.2 ⟨j, by simpa using hj, by rw [List.getElem_set, if_neg hij]⟩
        have := look_mem hr2 hm
        rw [hjk] at this
        exact this.symm
end J
theorem rmove13_g (rs rs' : List Rng) (cs : SC) (hcl : cs.length ≤ 1000) (hrl : rs'.length ≤ 1000000) : GCall Tryz.prog 67 [.bx 1001 0 0, .d (rngA rs')] (RH rs cs 1002) (some (RH rs' (J.smove cs rs') 1003, .d (.tup []))) := by
  refine GCall_enterL (fun _ _ => by kernel_rfl) Tryz.func67 rfl Tryz.ntmps67 (ReadsS.r0 Tryz.results67) (Nat.le_of_ble_eq_true rfl) (fun hok hokB M0 w0 hl => ?_)
  refine Aw_seq (Aw_region ?_)
  refine Al_p Pu_mvr ?_
  refine Al_nil (Aw_seq (Aw_seq (Aw_region ?_)))
  refine Al_p Pu_mvr ?_
  refine Al_nil (Aw_block ?_)
  refine Aw_own (j := 4) (k := 4) (T := 108) (n := 2) rfl (fun g0 => ?_)
  refine Aw_loopk (ι := Nat × Nat) [0, 1] [1001, 1002] (fun (k, g) => [(5, .d (iv k)), (4, .ow 4 g)]) (fun (k, g) => [(4, g, .arr 108 2 (((cs.take k).filter fun p => decide (0 ≤ findR rs' p.1)).map chR))]) (fun (k, g) => k ≤ cs.length) (fun (k, g) => cs.length - k) ((0, g0)) (Nat.zero_le _) ⟨Sub.rfl, Sub.rfl, trivial⟩ ⟨rfl, trivial⟩ ?_
  rintro ⟨k, g⟩ hk0
  refine Aw_seq (Aw_seq (Aw_region ?_))
  refine Al_p Pu_mvl ?_
  refine Al_p Pu_mvl ?_
  refine Al_p (Pu_nilb rfl rfl) ?_
  refine Al_p (Pu_fieldb 1 rfl Tryz.underlying76 rfl rfl Tryz.sizeOf74 rfl) ?_
  refine Al_p (Pu_loadb rfl Tryz.isAgg74 rfl rfl rfl) ?_
  refine Al_p (Pu_lenOw rfl Tryz.underlying74 rfl rfl (List.length_map ..)) ?_
  refine Al_p (Pu_cmp rfl rfl rfl rfl) ?_
  refine Al_nil ?_
  refine Aw_cond rfl (fun h12 => ?_) (fun h12 => ?_)
  · (try simp only [decide_eq_true_eq, decide_eq_false_iff_not, List.length_map] at h12)
    have hk : k < cs.length := by omega
    have hgd : cs.getD k default = cs[k] := by simp [hk]
    have hfl : ((cs.take k).filter fun p => decide (0 ≤ findR rs' p.1)).length ≤ 1000 := Nat.le_trans (List.length_filter_le ..) (by simp; omega)
    refine Aw_skip ?_
    -- join 0: live [0, 1, 4, 5], turned [4]
    refine Aw_seq (Aw_block (Aw_seq (Aw_region ?_)))
    refine Al_p Pu_mvl ?_
    refine Al_p Pu_mvl ?_
    refine Al_p (Pu_nilb rfl rfl) ?_
    refine Al_p (Pu_fieldb 1 rfl Tryz.underlying76 rfl rfl Tryz.sizeOf74 rfl) ?_
    refine Al_p (Pu_loadb rfl Tryz.isAgg74 rfl rfl rfl) ?_
    refine Al_p Pu_mvl ?_
    refine Al_p (Pu_indexOw (j := k) rfl Tryz.underlying74 Tryz.sizeOf108 rfl rfl rfl rfl (by rw [List.length_map]; omega)) ?_
    refine Al_p (Pu_fieldb 0 rfl Tryz.underlying108 rfl rfl Tryz.sizeOf9 rfl) ?_
    refine Al_p (Pu_loadArr rfl Tryz.isAgg9 rfl rfl (J.chKey (cs := cs) hk)) ?_
    refine Al_p (Pu_call (rfind_a rs' (cs.getD k default).1 hrl) rfl ⟨Sub.rfl, Sub.rfl, trivial⟩) ?_
    refine Al_p (Pu_cmp rfl rfl rfl rfl) ?_
    refine Al_nil ?_
    refine Aw_cond rfl (fun h25 => ?_) (fun h25 => ?_)
    · (try simp only [decide_eq_true_eq, decide_eq_false_iff_not, List.length_map] at h25)
      refine Aw_region ?_
      refine Al_p Pu_mvl ?_
      refine Al_p Pu_mvl ?_
      refine Al_p (Pu_nilb rfl rfl) ?_
      refine Al_p (Pu_fieldb 1 rfl Tryz.underlying76 rfl rfl Tryz.sizeOf74 rfl) ?_
      refine Al_p (Pu_loadb rfl Tryz.isAgg74 rfl rfl rfl) ?_
      refine Al_p Pu_mvl ?_
      refine Al_p (Pu_indexOw (j := k) rfl Tryz.underlying74 Tryz.sizeOf108 rfl rfl rfl rfl (by rw [List.length_map]; omega)) ?_
      refine Al_p (Pu_loadArrN rfl Tryz.isAgg108 Tryz.sizeOf108 rfl rfl (J.chAll (cs := cs) hk) rfl) ?_
      refine Al_p (Pu_slice1 rfl Tryz.underlying74 Tryz.sizeOf108 Tryz.zeroValue108 rfl (by decide) (by decide) (by kernel_rfl) rfl rfl rfl) ?_
      refine Al_append rfl rfl rfl (by decide) (by kernel_rfl) elem74 (by decide) Tryz.sizeOf108 rfl rfl rfl (by simp only [List.length_map, List.length_cons, List.length_nil]; omega) (by decide) (fun g35 => ?_)
      refine Al_p Pu_mvr ?_
      refine Al_nil (Aw_region ?_)
      refine Al_p Pu_mvl ?_
      refine Al_p (Pu_add rfl rfl rfl (fun h1 h2 => by simp only [A.inI, A.maxI] at *; omega)) ?_
      refine Al_p Pu_mvr ?_
      refine Al_nil ?_
      exact ⟨(k + 1, g35), by omega, by simp only []; omega, Le.ov ⟨Sub.num (by omega), Sub.rfl, trivial⟩ ⟨Sub.rfl, Sub.rfl, trivial⟩ ⟨obeq (by rw [List.take_succ_eq_append_getElem hk, List.filter_append, List.filter_cons, if_pos (by rw [← hgd]; simpa using h25), List.filter_nil, List.map_append, ← hgd]; rfl), trivial⟩ ⟨rfl, rfl, trivial⟩⟩ -- loop 0 next.0
    · (try simp only [decide_eq_true_eq, decide_eq_false_iff_not, List.length_map] at h25)
      refine Aw_skip (Aw_region ?_)
      refine Al_p Pu_mvl ?_
      refine Al_p (Pu_add rfl rfl rfl (fun h1 h2 => by simp only [A.inI, A.maxI] at *; omega)) ?_
      refine Al_p Pu_mvr ?_
      refine Al_nil ?_
      exact ⟨(k + 1, g), by omega, by simp only []; omega, Le.ov ⟨Sub.num (by omega), Sub.rfl, trivial⟩ ⟨Sub.rfl, Sub.rfl, trivial⟩ ⟨obeq (by rw [List.take_succ_eq_append_getElem hk, List.filter_append, List.filter_cons, if_neg (by rw [← hgd]; intro h; have := of_decide_eq_true h; omega), List.filter_nil, List.append_nil]), trivial⟩ ⟨rfl, rfl, trivial⟩⟩ -- loop 0 next.1
  · (try simp only [decide_eq_true_eq, decide_eq_false_iff_not, List.length_map] at h12)
    have hkn : k = cs.length := by omega
    refine Aw_exit (Aw_seq (Aw_region ?_))
    refine Al_p Pu_mvl ?_
    refine Al_p Pu_mvl ?_
    refine Al_p (Pu_nilb rfl rfl) ?_
    refine Al_p (Pu_fieldb 0 rfl Tryz.underlying76 rfl rfl Tryz.sizeOf26 rfl) ?_
    refine Al_store1 rfl rfl rfl (by kernel_rfl) Tryz.isAgg26 Tryz.sizeOf26 rfl rfl (Nat.le_of_ble_eq_true rfl) (by conv => lhs; whnf) rfl ?_
    refine Al_nil (Aw_region ?_)
    refine Al_p Pu_mvl ?_
    refine Al_p Pu_mvl ?_
    refine Al_p (Pu_nilb rfl rfl) ?_
    refine Al_p (Pu_fieldb 1 rfl Tryz.underlying76 rfl rfl Tryz.sizeOf74 rfl) ?_
    refine Al_store1 rfl rfl rfl (by kernel_rfl) Tryz.isAgg74 Tryz.sizeOf74 rfl rfl (Nat.le_of_ble_eq_true rfl) (by conv => lhs; whnf) rfl ?_
    refine Al_nil ?_
    exact ⟨_, _, [(1003, 4, g)], rfl, rfl, ⟨rfl, obeq (by rw [hkn, List.take_length]; rfl), trivial⟩, rfl⟩ -- ret 0
theorem rput13_g (rs : List Rng) (cs : SC) (v : Ver) (hrl : rs.length ≤ 1000000) (hr : J.RiseC cs) (hs : J.Sm 1000 cs) (hch : J.Chns cs) : GCall Tryz.prog 64 [.bx 1001 0 0, .d (.row v.row)] (RH rs cs 1002) (some (RH rs (J.sput rs cs v).1 1003, .d (bv (J.sput rs cs v).2))) := by
  refine GCall_enterL (fun _ _ => by kernel_rfl) Tryz.func64 rfl Tryz.ntmps64 (ReadsS.r1 Tryz.results64) (Nat.le_of_ble_eq_true rfl) (fun hok hokB M0 w0 hl => ?_)
  have hcl := hs.1
  have hfi := rfind_a rs v.key hrl
  have hpu := rput12_a (J.getC cs v.key) v (hch.get v.key) (Nat.le_trans (hs.get v.key) (by decide))
  refine Aw_seq (Aw_region ?_)
  refine Al_p (Pu_boxN rfl rfl) ?_
  refine Al_p Pu_mvr ?_
  refine Al_nil (Aw_seq (Aw_seq ?_))
  refine Aw_draw 8 (by kernel_rfl) (by kernel_rfl) ?_
  refine Dr_p Pu_mvl ?_
  refine Dr_p (Pu_nilb rfl rfl) ?_
  refine Dr_p (Pu_fieldb 0 rfl Tryz.underlying76 rfl rfl Tryz.sizeOf26 rfl) ?_
  refine Dr_p (Pu_loadb rfl Tryz.isAgg26 rfl rfl rfl) ?_
  refine Dr_p (Pu_field 0 rfl Tryz.underlying34 rfl rfl Tryz.sizeOf9 rfl) ?_
  refine Dr_p (Pu_load1 rfl Tryz.isAgg9 rfl rfl) ?_
  refine Dr_p (Pu_call (hfi) rfl ⟨Sub.rfl, Sub.rfl, trivial⟩) ?_
  refine Dr_p (Pu_cmp rfl rfl rfl rfl) ?_
  refine Dr_nil (Al_nil ?_)
  refine Aw_cond rfl (fun h18 => ?_) (fun h18 => ?_)
  · (try simp only [decide_eq_true_eq, decide_eq_false_iff_not, List.length_map] at h18)
    have hno : J.sput rs cs v = (cs, false) := by
      unfold J.sput
      rw [if_pos h18]
    refine Aw_seq (Aw_region ?_)
    refine Al_p Pu_mvr ?_
    refine Al_nil ?_
    refine Aw_ret ?_
    exact ⟨_, _, [(1003, 1002, 0)], rfl, Sub.bool (by rw [hno]), ⟨rfl, obeq (by rw [hno]), trivial⟩, rfl⟩ -- ret 0
  · (try simp only [decide_eq_true_eq, decide_eq_false_iff_not, List.length_map] at h18)
    have hfn : ¬ findR rs v.key < 0 := by omega
    refine Aw_skip (Aw_seq ?_)
    refine Aw_draw 10 (by kernel_rfl) (by kernel_rfl) ?_
    refine Dr_p Pu_mvl ?_
    refine Dr_p (Pu_field 0 rfl Tryz.underlying34 rfl rfl Tryz.sizeOf9 rfl) ?_
    refine Dr_p (Pu_load1 rfl Tryz.isAgg9 rfl rfl) ?_
    refine Dr_p (Pu_gcall [(1001, 1001, 0), (1002, 1002, 0)] (rof13_g rs cs v.key hcl) (RH_in ..) rfl ⟨rfl, rfl, trivial⟩ rfl ⟨Sub.rfl, Sub.rfl, trivial⟩) ?_
    refine Dr_p (Pu_loadN rfl Tryz.isAgg34 Tryz.sizeOf34 rfl (Nat.le_of_ble_eq_true rfl)) ?_
    refine Dr_p (Pu_call (hpu) rfl ⟨Sub.rfl, Sub.rfl, trivial⟩) ?_
    refine Dr_p Pu_mvl ?_
    refine Dr_p (Pu_extract rfl rfl rfl) ?_
    refine Dr_p (Pu_extract rfl rfl rfl) ?_
    refine Dr_p Pu_mvr ?_
    refine Dr_nil ?_
    refine Al_p Pu_mvr ?_
    refine Al_nil (Aw_seq (Aw_seq (Aw_region ?_)))
    refine Al_p Pu_mvl ?_
    refine Al_p (Pu_not rfl rfl) ?_
    refine Al_nil ?_
    refine Aw_cond rfl (fun h29 => ?_) (fun h29 => ?_)
    · skip
      have hyes : J.sput rs cs v = (cs, false) := by
        unfold J.sput
        rw [if_neg hfn]
        cases hp : J.put (J.getC cs v.key) v with
        | none => rfl
        | some l => rw [hp] at h29; cases h29
      refine Aw_seq (Aw_region ?_)
      refine Al_p Pu_mvr ?_
      refine Al_nil ?_
      refine Aw_ret ?_
      exact ⟨_, _, [(1003, 1002, 0)], rfl, Sub.bool (by rw [hyes]), ⟨rfl, obeq (by rw [hyes]), trivial⟩, rfl⟩ -- ret 1
    · skip
      obtain ⟨m, hm⟩ : ∃ m, J.put (J.getC cs v.key) v = some m := by
        cases hp : J.put (J.getC cs v.key) v with
        | none => rw [hp] at h29; cases h29
        | some l => exact ⟨l, rfl⟩
      have hyes : J.sput rs cs v = (J.setC cs v.key m, true) := by
        unfold J.sput
        rw [if_neg hfn, hm]
      have hgm : (J.put (J.getC cs v.key) v).getD (J.getC cs v.key) = m := by rw [hm]; rfl
      refine Aw_skip (Aw_seq (Aw_region ?_))
      refine Al_p Pu_mvl ?_
      refine Al_p (Pu_field 0 rfl Tryz.underlying34 rfl rfl Tryz.sizeOf9 rfl) ?_
      refine Al_p (Pu_load1 rfl Tryz.isAgg9 rfl rfl) ?_
      refine Al_p (Pu_gcall [(1001, 1001, 0), (1002, 1002, 0)] (rpos13_g rs cs v.key hcl) (RH_in ..) rfl ⟨rfl, rfl, trivial⟩ rfl ⟨Sub.rfl, Sub.rfl, trivial⟩) ?_
      refine Al_p Pu_mvr ?_
      refine Al_nil (Aw_seq (Aw_seq (Aw_region ?_)))
      refine Al_p Pu_mvl ?_
      refine Al_p (Pu_cmp rfl rfl rfl rfl) ?_
      refine Al_nil ?_
      refine Aw_cond rfl (fun h35 => ?_) (fun h35 => ?_)
      · (try simp only [decide_eq_true_eq, decide_eq_false_iff_not, List.length_map] at h35)
        obtain ⟨i, hi, hp, hk, hlk⟩ : ∃ i, ∃ hi : i < cs.length, J.rpos cs v.key = (i : Int) ∧ cs[i].1 = v.key ∧ J.look cs v.key = some cs[i].2 := by
          rcases J.rpos_look cs v.key with ⟨h, _⟩ | h
          · omega
          · exact h
        have hgd : cs.getD i default = cs[i] := by simp [hi]
        have hset : J.setC cs v.key m = cs.set i ((cs.getD i default).1, m) := by rw [← hk, J.setC_old hr hi, hgd]
        refine Aw_seq (Aw_region ?_)
        refine Al_p Pu_mvl ?_
        refine Al_p (Pu_nilb rfl rfl) ?_
        refine Al_p (Pu_fieldb 1 rfl Tryz.underlying76 rfl rfl Tryz.sizeOf74 rfl) ?_
        refine Al_p (Pu_loadb rfl Tryz.isAgg74 rfl rfl rfl) ?_
        refine Al_p Pu_mvl ?_
        refine Al_p Pu_mvl ?_
        refine Al_p (Pu_indexOw (j := i) rfl Tryz.underlying74 Tryz.sizeOf108 rfl rfl rfl hp (by rw [List.length_map]; omega)) ?_
        refine Al_p (Pu_fieldb 1 rfl Tryz.underlying108 rfl rfl Tryz.sizeOf65 rfl) ?_
        refine Al_storeArr ((cs.set i ((cs.getD i default).1, (J.put (J.getC cs v.key) v).getD (J.getC cs v.key))).map chR) rfl rfl rfl (by kernel_rfl) Tryz.sizeOf65 rfl rfl rfl rfl rfl (by rw [List.length_map]; omega) (by simp) (J.ch_un _) (J.ch_set hi _) ?_
        refine Al_nil (Aw_seq (Aw_region ?_))
        refine Al_p Pu_mvr ?_
        refine Al_nil ?_
        refine Aw_ret ?_
        exact ⟨_, _, [(1003, 1002, 0)], rfl, Sub.bool (by rw [hyes]), ⟨rfl, obeq (by rw [hyes, hset, hgm]), trivial⟩, rfl⟩ -- ret 2
      · (try simp only [decide_eq_true_eq, decide_eq_false_iff_not, List.length_map] at h35)
        have hlk : J.look cs v.key = none := by
          rcases J.rpos_look cs v.key with ⟨_, h⟩ | ⟨i, _, h, _⟩
          · exact h
          · omega
        have hset := J.setC_ins cs v.key m hlk
        refine Aw_skip (Aw_seq (Aw_region ?_))
        refine Al_p Pu_mvr ?_
        refine Al_nil (Aw_seq (Aw_region ?_))
        refine Al_p Pu_mvr ?_
        refine Al_nil (Aw_seq (Aw_seq (Aw_region ?_)))
        refine Al_p Pu_mvr ?_
        refine Al_nil (Aw_block ?_)
        refine Aw_own (j := 8) (k := 8) (T := 108) (n := 2) rfl (fun g0 => ?_)
        refine Aw_loopk (ι := Nat × Nat) [0, 3, 5] [1001, 1002] (fun (k, g) => [(10, .d (iv k)), (8, .ow 8 g), (9, .d (bv (decide (cs.findIdx (J.aft v.key) < k))))]) (fun (k, g) => [(8, g, .arr 108 2 ((J.insI (J.aft v.key) (v.key, m) cs k).map chR))]) (fun (k, g) => k ≤ cs.length) (fun (k, g) => cs.length - k) ((0, g0)) (Nat.zero_le _) ⟨Sub.rfl, Sub.rfl, Sub.bool (by simp), trivial⟩ ⟨obeq (by rw [J.insI_zero]; rfl), trivial⟩ ?_
        rintro ⟨k, g⟩ hk0
        refine Aw_seq (Aw_seq (Aw_region ?_))
        refine Al_p Pu_mvl ?_
        refine Al_p Pu_mvl ?_
        refine Al_p (Pu_nilb rfl rfl) ?_
        refine Al_p (Pu_fieldb 1 rfl Tryz.underlying76 rfl rfl Tryz.sizeOf74 rfl) ?_
        refine Al_p (Pu_loadb rfl Tryz.isAgg74 rfl rfl rfl) ?_
        refine Al_p (Pu_lenOw rfl Tryz.underlying74 rfl rfl (List.length_map ..)) ?_
        refine Al_p (Pu_cmp rfl rfl rfl rfl) ?_
        refine Al_nil ?_
        refine Aw_cond rfl (fun h50 => ?_) (fun h50 => ?_)
        · (try simp only [decide_eq_true_eq, decide_eq_false_iff_not, List.length_map] at h50)
          have hk : k < cs.length := by omega
          have hgd : cs.getD k default = cs[k] := by simp [hk]
          have hol : (J.insI (J.aft v.key) (v.key, m) cs k).length ≤ cs.length + 1 := J.insI_len
          refine Aw_skip ?_
          -- join 0: live [0, 3, 5, 8, 9, 10], turned [8, 9]
          refine Aw_seq (Aw_block ?_)
          -- join 1: live [0, 3, 5, 8, 9, 10], turned [8, 9]
          refine Aw_seq (Aw_seq ?_)
          refine Aw_draw 15 (by kernel_rfl) (by kernel_rfl) ?_
          refine Dr_p Pu_mvl ?_
          refine Dr_p (Pu_not rfl rfl) ?_
          refine Dr_p Pu_mvl ?_
          refine Dr_st (St_gd [] rfl rfl rfl rfl trivial (fun hg56 => by exact Pu_move (.inl rfl) (by conv => lhs; whnf))) rfl ?_
          refine Dr_st (St_gd [56] rfl rfl rfl rfl ⟨⟨_, rfl⟩, trivial⟩ (fun hg57 => Pu_nilb rfl rfl)) rfl ?_
          refine Dr_st (St_gd [57] rfl rfl rfl rfl ⟨⟨_, rfl⟩, trivial⟩ (fun hg58 => Pu_fieldb 1 rfl Tryz.underlying76 rfl rfl Tryz.sizeOf74 rfl)) rfl ?_
          refine Dr_st (St_gd [58] rfl rfl rfl rfl ⟨⟨_, rfl⟩, trivial⟩ (fun hg59 => Pu_loadb rfl Tryz.isAgg74 rfl rfl rfl)) rfl ?_
          refine Dr_st (St_gd [] rfl rfl rfl rfl trivial (fun hg60 => by exact Pu_move (.inl rfl) (by conv => lhs; whnf))) rfl ?_
          refine Dr_st (St_gd [59, 60] rfl rfl rfl rfl ⟨⟨_, rfl⟩, ⟨_, rfl⟩, trivial⟩ (fun hg61 => by exact Pu_indexOw (j := k) rfl Tryz.underlying74 Tryz.sizeOf108 rfl rfl rfl rfl (by rw [List.length_map]; exact hk))) rfl ?_
          refine Dr_st (St_gd [61] rfl rfl rfl rfl ⟨⟨_, rfl⟩, trivial⟩ (fun hg62 => Pu_fieldb 0 rfl Tryz.underlying108 rfl rfl Tryz.sizeOf9 rfl)) rfl ?_
          refine Dr_st (St_gd [62] rfl rfl rfl rfl ⟨⟨_, rfl⟩, trivial⟩ (fun hg63 => Pu_loadArr rfl Tryz.isAgg9 rfl rfl (J.chKey (cs := cs) hk))) rfl ?_
          refine Dr_st (St_gd [] rfl rfl rfl rfl trivial (fun hg64 => Pu_field 0 rfl Tryz.underlying34 rfl rfl Tryz.sizeOf9 rfl)) rfl ?_
          refine Dr_st (St_gd [64] rfl rfl rfl rfl ⟨⟨_, rfl⟩, trivial⟩ (fun hg65 => Pu_load1 rfl Tryz.isAgg9 rfl rfl)) rfl ?_
          refine Dr_st (St_gd [63, 65] rfl rfl rfl rfl ⟨⟨_, rfl⟩, ⟨_, rfl⟩, trivial⟩ (fun hg66 => Pu_str rfl rfl rfl rfl)) rfl ?_
          refine Dr_p (Pu_and rfl rfl rfl rfl) ?_
          refine Dr_nil (Al_nil ?_)
          refine Aw_cond rfl (fun h67 => ?_) (fun h67 => ?_)
          · skip
            have hfk : cs.findIdx (J.aft v.key) = k := by
              simp only [Bool.and_eq_true, Bool.not_eq_true', decide_eq_false_iff_not] at h67
              exact J.fidx_eq hk (by rw [← hgd]; show (!_) = true; rw [h67.2]; rfl) h67.1
            have hst := J.insI_at (p := J.aft v.key) (x := (v.key, m)) hk hfk
            refine Aw_seq (Aw_region ?_)
            refine Al_p Pu_mvl ?_
            refine Al_p (Pu_field 0 rfl Tryz.underlying34 rfl rfl Tryz.sizeOf9 rfl) ?_
            refine Al_p (Pu_load1 rfl Tryz.isAgg9 rfl rfl) ?_
            refine Al_p Pu_mvl ?_
            refine Al_p (Pu_build (aa := [(0, _), (1, _)]) rfl Tryz.underlying108 Tryz.zeroValue108 (places108 Tryz.underlying108) (by kernel_rfl) ⟨rfl, rfl, rfl, rfl, rfl, rfl, trivial⟩ rfl) ?_
            refine Al_p (Pu_slice1 rfl Tryz.underlying74 Tryz.sizeOf108 Tryz.zeroValue108 rfl (by decide) (by decide) (by kernel_rfl) rfl rfl rfl) ?_
            refine Al_append rfl rfl rfl (by decide) (by kernel_rfl) elem74 (by decide) Tryz.sizeOf108 rfl rfl rfl (by simp only [List.length_map, List.length_cons, List.length_nil]; omega) (by decide) (fun g74 => ?_)
            refine Al_p Pu_mvr ?_
            refine Al_nil (Aw_region ?_)
            refine Al_p Pu_mvr ?_
            refine Al_nil (Aw_region ?_)
            refine Al_p Pu_mvl ?_
            refine Al_p Pu_mvl ?_
            refine Al_p (Pu_nilb rfl rfl) ?_
            refine Al_p (Pu_fieldb 1 rfl Tryz.underlying76 rfl rfl Tryz.sizeOf74 rfl) ?_
            refine Al_p (Pu_loadb rfl Tryz.isAgg74 rfl rfl rfl) ?_
            refine Al_p Pu_mvl ?_
            refine Al_p (Pu_indexOw (j := k) rfl Tryz.underlying74 Tryz.sizeOf108 rfl rfl rfl rfl (by rw [List.length_map]; omega)) ?_
            refine Al_p (Pu_loadArrN rfl Tryz.isAgg108 Tryz.sizeOf108 rfl rfl (J.chAll (cs := cs) hk) rfl) ?_
            refine Al_p (Pu_slice1 rfl Tryz.underlying74 Tryz.sizeOf108 Tryz.zeroValue108 rfl (by decide) (by decide) (by kernel_rfl) rfl rfl rfl) ?_
            refine Al_append rfl rfl rfl (by decide) (by kernel_rfl) elem74 (by decide) Tryz.sizeOf108 rfl rfl rfl (by simp only [List.length_map, List.length_cons, List.length_nil, List.length_append]; omega) (by decide) (fun g84 => ?_)
            refine Al_p Pu_mvr ?_
            refine Al_nil (Aw_region ?_)
            refine Al_p Pu_mvl ?_
            refine Al_p (Pu_add rfl rfl rfl (fun h1 h2 => by simp only [A.inI, A.maxI] at *; omega)) ?_
            refine Al_p Pu_mvr ?_
            refine Al_nil ?_
            exact ⟨(k + 1, g84), by omega, by simp only []; omega, Le.ov ⟨Sub.num (by omega), Sub.rfl, Sub.bool (by simp; omega), trivial⟩ ⟨Sub.rfl, Sub.rfl, Sub.rfl, trivial⟩ ⟨obeq (by rw [hst, List.map_append, List.map_append, ← hgd, ← hgm]; rfl), trivial⟩ ⟨rfl, rfl, trivial⟩⟩ -- loop 0 next.0
          · skip
            have hfk : cs.findIdx (J.aft v.key) ≠ k := fun e => by
              rw [e] at h67
              simp only [Nat.lt_irrefl, decide_false, Bool.not_false, Bool.true_and] at h67
              exact J.fidx_ne hk (by rw [← hgd]; exact h67) e
            have hst := J.insI_ne (p := J.aft v.key) (x := (v.key, m)) hk hfk
            refine Aw_skip (Aw_region ?_)
            refine Al_p Pu_mvl ?_
            refine Al_p Pu_mvl ?_
            refine Al_p (Pu_nilb rfl rfl) ?_
            refine Al_p (Pu_fieldb 1 rfl Tryz.underlying76 rfl rfl Tryz.sizeOf74 rfl) ?_
            refine Al_p (Pu_loadb rfl Tryz.isAgg74 rfl rfl rfl) ?_
            refine Al_p Pu_mvl ?_
            refine Al_p (Pu_indexOw (j := k) rfl Tryz.underlying74 Tryz.sizeOf108 rfl rfl rfl rfl (by rw [List.length_map]; omega)) ?_
            refine Al_p (Pu_loadArrN rfl Tryz.isAgg108 Tryz.sizeOf108 rfl rfl (J.chAll (cs := cs) hk) rfl) ?_
            refine Al_p (Pu_slice1 rfl Tryz.underlying74 Tryz.sizeOf108 Tryz.zeroValue108 rfl (by decide) (by decide) (by kernel_rfl) rfl rfl rfl) ?_
            refine Al_append rfl rfl rfl (by decide) (by kernel_rfl) elem74 (by decide) Tryz.sizeOf108 rfl rfl rfl (by simp only [List.length_map, List.length_cons, List.length_nil, List.length_append]; omega) (by decide) (fun g84 => ?_)
            refine Al_p Pu_mvr ?_
            refine Al_nil (Aw_region ?_)
            refine Al_p Pu_mvl ?_
            refine Al_p (Pu_add rfl rfl rfl (fun h1 h2 => by simp only [A.inI, A.maxI] at *; omega)) ?_
            refine Al_p Pu_mvr ?_
            refine Al_nil ?_
            exact ⟨(k + 1, g84), by omega, by simp only []; omega, Le.ov ⟨Sub.num (by omega), Sub.rfl, Sub.bool (decide_eq_decide.2 ⟨by omega, by omega⟩), trivial⟩ ⟨Sub.rfl, Sub.rfl, Sub.rfl, trivial⟩ ⟨obeq (by rw [hst, List.map_append, ← hgd]; rfl), trivial⟩ ⟨rfl, rfl, trivial⟩⟩ -- loop 0 next.1
        · (try simp only [decide_eq_true_eq, decide_eq_false_iff_not, List.length_map] at h50)
          have hkn : k = cs.length := by omega
          subst hkn
          have hol : (J.insI (J.aft v.key) (v.key, m) cs cs.length).length ≤ cs.length + 1 := J.insI_len
          refine Aw_exit ?_
          -- join 2: live [0, 8], turned [8]
          refine Aw_seq (Aw_seq (Aw_region ?_))
          refine Al_p Pu_mvl ?_
          refine Al_p (Pu_not rfl rfl) ?_
          refine Al_nil ?_
          refine Aw_cond rfl (fun h86 => ?_) (fun h86 => ?_)
          · (try simp only [decide_eq_true_eq, decide_eq_false_iff_not, List.length_map] at h86)
            rw [if_neg (by simpa using h86)] at hset
            refine Aw_region ?_
            refine Al_p Pu_mvl ?_
            refine Al_p (Pu_field 0 rfl Tryz.underlying34 rfl rfl Tryz.sizeOf9 rfl) ?_
            refine Al_p (Pu_load1 rfl Tryz.isAgg9 rfl rfl) ?_
            refine Al_p Pu_mvl ?_
            refine Al_p (Pu_build (aa := [(0, _), (1, _)]) rfl Tryz.underlying108 Tryz.zeroValue108 (places108 Tryz.underlying108) (by kernel_rfl) ⟨rfl, rfl, rfl, rfl, rfl, rfl, trivial⟩ rfl) ?_
            refine Al_p (Pu_slice1 rfl Tryz.underlying74 Tryz.sizeOf108 Tryz.zeroValue108 rfl (by decide) (by decide) (by kernel_rfl) rfl rfl rfl) ?_
            refine Al_append rfl rfl rfl (by decide) (by kernel_rfl) elem74 (by decide) Tryz.sizeOf108 rfl rfl rfl (by simp only [List.length_map, List.length_cons, List.length_nil]; omega) (by decide) (fun g93 => ?_)
            refine Al_p Pu_mvr ?_
            refine Al_nil (Aw_seq (Aw_region ?_))
            refine Al_p Pu_mvl ?_
            refine Al_p Pu_mvl ?_
            refine Al_p (Pu_nilb rfl rfl) ?_
            refine Al_p (Pu_fieldb 1 rfl Tryz.underlying76 rfl rfl Tryz.sizeOf74 rfl) ?_
            refine Al_store1 rfl rfl rfl (by kernel_rfl) Tryz.isAgg74 Tryz.sizeOf74 rfl rfl (Nat.le_of_ble_eq_true rfl) (by conv => lhs; whnf) rfl ?_
            refine Al_nil (Aw_seq (Aw_region ?_))
            refine Al_p Pu_mvr ?_
            refine Al_nil ?_
            refine Aw_ret ?_
            exact ⟨_, _, [(1003, 8, g93)], rfl, Sub.bool (by rw [hyes]), ⟨rfl, obeq (by rw [hyes, hset, List.map_append, ← hgm]; rfl), trivial⟩, rfl⟩ -- ret 3
          · (try simp only [decide_eq_true_eq, decide_eq_false_iff_not, List.length_map] at h86)
            rw [if_pos (by simpa using h86)] at hset
            refine Aw_skip (Aw_seq (Aw_region ?_))
            refine Al_p Pu_mvl ?_
            refine Al_p Pu_mvl ?_
            refine Al_p (Pu_nilb rfl rfl) ?_
            refine Al_p (Pu_fieldb 1 rfl Tryz.underlying76 rfl rfl Tryz.sizeOf74 rfl) ?_
            refine Al_store1 rfl rfl rfl (by kernel_rfl) Tryz.isAgg74 Tryz.sizeOf74 rfl rfl (Nat.le_of_ble_eq_true rfl) (by conv => lhs; whnf) rfl ?_
            refine Al_nil (Aw_seq (Aw_region ?_))
            refine Al_p Pu_mvr ?_
            refine Al_nil ?_
            refine Aw_ret ?_
            exact ⟨_, _, [(1003, 8, g)], rfl, Sub.bool (by rw [hyes]), ⟨rfl, obeq (by rw [hyes, hset]), trivial⟩, rfl⟩ -- ret 4
namespace J
theorem cleanTo_len (cs : SC) (n s : Int) (pins : List Dep) (i : Nat) : (cleanTo cs n s pins i).length = cs.length := by
  have := congrArg List.length (cleanTo_keys cs n s pins i)
  simpa using this
theorem cleanTo_at (cs : SC) (n s : Int) (pins : List Dep) {i : Nat} (hi : i < cs.length) : (cleanTo cs n s pins i).getD i default = cs[i] := by
  unfold cleanTo
  rw [List.getD_eq_getElem?_getD, List.getElem?_append_right (by simp; omega)]
  simp [hi, Nat.min_eq_left (Nat.le_of_lt hi)]
theorem cleanTo_set (cs : SC) (n s : Int) (pins : List Dep) {i : Nat} (hi : i < cs.length) : (cleanTo cs n s pins i).set i (cs[i].1, clean cs[i].2 n s (pinsOf pins cs[i].1)) = cleanTo cs n s pins (i + 1) := by
  unfold cleanTo
  rw [List.take_succ_eq_append_getElem hi, List.map_append, List.set_append_right _ _ (by simp; omega)]
  simp [Nat.min_eq_left (Nat.le_of_lt hi)]
  rw [List.drop_eq_getElem_cons hi]; rfl
end J
theorem rclean13_g (rs : List Rng) (cs : SC) (n s : Int) (pins : List Dep) (hpl : pins.length ≤ 100000) (hs : J.Sm 1000 cs) (hch : J.Chns cs) : GCall Tryz.prog 34 [.bx 1001 0 0, .d (.row [iv n, iv s]), .d (.sl 3 (pins.map Dep.row))] (RH rs cs 1002) (some (RH rs (J.sclean cs n s pins) 1002, .d (.tup []))) := by
  refine GCall_enterL (fun _ _ => by kernel_rfl) Tryz.func34 rfl Tryz.ntmps34 (ReadsS.r0 Tryz.results34) (Nat.le_of_ble_eq_true rfl) (fun hok hokB M0 w0 hl => ?_)
  have hcl := hs.1
  refine Aw_seq (Aw_region ?_)
  refine Al_p (Pu_boxN rfl rfl) ?_
  refine Al_nil (Aw_seq (Aw_region ?_))
  refine Al_p Pu_mvr ?_
  refine Al_nil (Aw_block ?_)
  refine Aw_loopk (ι := Nat) [0, 2, 4] [1001] (fun i => [(6, .d (iv i))]) (fun i => [(1002, 0, .arr 108 2 ((J.cleanTo cs n s pins i).map chR))]) (fun i => i ≤ cs.length) (fun i => cs.length - i) (0) (Nat.zero_le _) ⟨Sub.rfl, trivial⟩ ⟨rfl, trivial⟩ ?_
  rintro i hk0
  refine Aw_seq (Aw_seq (Aw_region ?_))
  refine Al_p Pu_mvl ?_
  refine Al_p Pu_mvl ?_
  refine Al_p (Pu_nilb rfl rfl) ?_
  refine Al_p (Pu_fieldb 1 rfl Tryz.underlying76 rfl rfl Tryz.sizeOf74 rfl) ?_
  refine Al_p (Pu_loadb rfl Tryz.isAgg74 rfl rfl rfl) ?_
  refine Al_p (Pu_lenOw (m := cs.length) rfl Tryz.underlying74 rfl rfl (by rw [List.length_map]; exact J.cleanTo_len ..)) ?_
  refine Al_p (Pu_cmp rfl rfl rfl rfl) ?_
  refine Al_nil ?_
  refine Aw_cond rfl (fun h15 => ?_) (fun h15 => ?_)
  · (try simp only [decide_eq_true_eq, decide_eq_false_iff_not, List.length_map] at h15)
    have hi : i < cs.length := by omega
    have hci : i < (J.cleanTo cs n s pins i).length := by rw [J.cleanTo_len]; exact hi
    have hat := J.cleanTo_at cs n s pins hi
    have hset := J.cleanTo_set cs n s pins hi
    have hlen2 : cs[i].2.length ≤ 1000 := (hs.2 _ (List.getElem_mem hi)).1
    have hc2 : J.Chn cs[i].2 := hch _ (List.getElem_mem hi)
    refine Aw_skip ?_
    -- join 0: live [0, 2, 4, 6], turned []
    refine Aw_seq (Aw_block (Aw_seq (Aw_region ?_)))
    refine Al_p Pu_mvr ?_
    refine Al_nil (Aw_seq (Aw_seq (Aw_region ?_)))
    refine Al_p Pu_mvr ?_
    refine Al_nil (Aw_block ?_)
    refine Aw_own (j := 7) (k := 7) (T := 31) (n := 2) rfl (fun g0 => ?_)
    refine Aw_loopk (ι := Nat × Nat) [0, 2, 4, 6] [1001, 1002] (fun (j, g) => [(8, .d (iv j)), (7, .ow 7 g)]) (fun (j, g) => [(7, g, .arr 31 2 ((J.pinsOf (pins.take j) cs[i].1).map stA))]) (fun (j, g) => j ≤ pins.length) (fun (j, g) => pins.length - j) ((0, g0)) (Nat.zero_le _) ⟨Sub.rfl, Sub.rfl, trivial⟩ ⟨rfl, trivial⟩ ?_
    rintro ⟨j, g⟩ hk1
    refine Aw_seq (Aw_seq (Aw_region ?_))
    refine Al_p Pu_mvl ?_
    refine Al_p Pu_mvl ?_
    refine Al_p (Pu_len rfl Tryz.underlying32 rfl (by first | exact List.length_map .. | exact rfl)) ?_
    refine Al_p (Pu_cmp rfl rfl rfl rfl) ?_
    refine Al_nil ?_
    refine Aw_cond rfl (fun h21 => ?_) (fun h21 => ?_)
    · (try simp only [decide_eq_true_eq, decide_eq_false_iff_not, List.length_map] at h21)
      have hj : j < pins.length := by omega
      have hps := J.pinsOf_succ hj cs[i].1
      have hpl2 : (J.pinsOf (pins.take j) cs[i].1).length ≤ 100000 := by
        unfold J.pinsOf
        have := List.length_filter_le (fun d : Dep => d.key.toList == cs[i].1.toList) (pins.take j)
        simp at *; omega
      refine Aw_skip ?_
      -- join 1: live [0, 2, 4, 6, 7, 8], turned [7]
      refine Aw_seq (Aw_block ?_)
      -- join 2: live [0, 2, 4, 6, 7, 8, 37], turned [37]
      refine Aw_seq ?_
      refine Aw_drawP 13 1 (by kernel_rfl) (by kernel_rfl) rfl ?_
      refine Dr_p Pu_mvl ?_
      refine Dr_p Pu_mvl ?_
      refine Dr_p (Pu_index rfl Tryz.underlying32 Tryz.sizeOf59 rfl rfl (rfl) (mapgetD (d := default) hj)) ?_
      refine Dr_p (Pu_field 0 rfl Tryz.underlying59 rfl rfl Tryz.sizeOf9 rfl) ?_
      refine Dr_p (Pu_load1 rfl Tryz.isAgg9 rfl rfl) ?_
      refine Dr_p Pu_mvl ?_
      refine Dr_p (Pu_nilb rfl rfl) ?_
      refine Dr_p (Pu_fieldb 1 rfl Tryz.underlying76 rfl rfl Tryz.sizeOf74 rfl) ?_
      refine Dr_p (Pu_loadb rfl Tryz.isAgg74 rfl rfl rfl) ?_
      refine Dr_p Pu_mvl ?_
      refine Dr_p (Pu_indexOw (j := i) rfl Tryz.underlying74 Tryz.sizeOf108 rfl rfl rfl rfl (by rw [List.length_map]; omega)) ?_
      refine Dr_p (Pu_fieldb 0 rfl Tryz.underlying108 rfl rfl Tryz.sizeOf9 rfl) ?_
      refine Dr_p (Pu_loadArr (c := tv cs[i].1) rfl Tryz.isAgg9 rfl rfl (by rw [← hat]; exact J.chKey hci)) ?_
      refine Dr_nil ?_
      refine Ad_one 13 rfl (by kernel_rfl) ?_
      refine Al_p (Pu_str rfl rfl rfl rfl) ?_
      refine Al_nil ?_
      refine Ad_done (by kernel_rfl) ?_
      refine Aw_cond rfl (fun h37 => ?_) (fun h37 => ?_)
      · skip
        refine Aw_region ?_
        refine Al_p Pu_mvl ?_
        refine Al_p Pu_mvl ?_
        refine Al_p Pu_mvl ?_
        refine Al_p (Pu_index rfl Tryz.underlying32 Tryz.sizeOf59 rfl rfl (rfl) (mapgetD (d := default) hj)) ?_
        refine Al_p (Pu_field 1 rfl Tryz.underlying59 rfl rfl Tryz.sizeOf31 rfl) ?_
        refine Al_p (Pu_loadN rfl Tryz.isAgg31 Tryz.sizeOf31 rfl (Nat.le_of_ble_eq_true rfl)) ?_
        refine Al_p (Pu_slice1 rfl Tryz.underlying101 Tryz.sizeOf31 Tryz.zeroValue31 rfl (by decide) (by decide) (by kernel_rfl) rfl rfl rfl) ?_
        refine Al_append rfl rfl rfl (by decide) (by kernel_rfl) elem101 (by decide) Tryz.sizeOf31 rfl rfl rfl (by simp only [List.length_map, List.length_cons, List.length_nil]; omega) (by decide) (fun g45 => ?_)
        refine Al_p Pu_mvr ?_
        refine Al_nil (Aw_region ?_)
        refine Al_p Pu_mvl ?_
        refine Al_p (Pu_add rfl rfl rfl (fun h1 h2 => by simp only [A.inI, A.maxI] at *; omega)) ?_
        refine Al_p Pu_mvr ?_
        refine Al_nil ?_
        exact ⟨(j + 1, g45), by omega, by simp only []; omega, Le.ov ⟨Sub.num (by omega), Sub.rfl, trivial⟩ ⟨Sub.rfl, Sub.rfl, Sub.rfl, Sub.rfl, trivial⟩ ⟨obeq (by rw [hps, if_pos h37, List.map_append]; rfl), trivial⟩ ⟨rfl, rfl, trivial⟩⟩ -- loop 1 next.0
      · skip
        refine Aw_skip (Aw_region ?_)
        refine Al_p Pu_mvl ?_
        refine Al_p (Pu_add rfl rfl rfl (fun h1 h2 => by simp only [A.inI, A.maxI] at *; omega)) ?_
        refine Al_p Pu_mvr ?_
        refine Al_nil ?_
        exact ⟨(j + 1, g), by omega, by simp only []; omega, Le.ov ⟨Sub.num (by omega), Sub.rfl, trivial⟩ ⟨Sub.rfl, Sub.rfl, Sub.rfl, Sub.rfl, trivial⟩ ⟨obeq (by rw [hps, if_neg (by rw [h37]; decide), List.append_nil]), trivial⟩ ⟨rfl, rfl, trivial⟩⟩ -- loop 1 next.1
    · (try simp only [decide_eq_true_eq, decide_eq_false_iff_not, List.length_map] at h21)
      have hjn : j = pins.length := by omega
      subst hjn
      refine Aw_exit ?_
      refine Aw_frzL hl (k := 7) [7] rfl ⟨rfl, ⟨_, rfl, fun _ _ h => h⟩, rfl, ⟨_, rfl, fun _ _ h => h⟩, trivial⟩ ⟨rfl, trivial⟩ ?_
      refine Aw_drawP 18 1 (by kernel_rfl) (by kernel_rfl) rfl ?_
      refine Dr_p Pu_mvl ?_
      refine Dr_p (Pu_nilb rfl rfl) ?_
      refine Dr_p (Pu_fieldb 1 rfl Tryz.underlying76 rfl rfl Tryz.sizeOf74 rfl) ?_
      refine Dr_p (Pu_loadb rfl Tryz.isAgg74 rfl rfl rfl) ?_
      refine Dr_p Pu_mvl ?_
      refine Dr_p Pu_mvl ?_
      refine Dr_p (Pu_nilb rfl rfl) ?_
      refine Dr_p (Pu_fieldb 1 rfl Tryz.underlying76 rfl rfl Tryz.sizeOf74 rfl) ?_
      refine Dr_p (Pu_loadb rfl Tryz.isAgg74 rfl rfl rfl) ?_
      refine Dr_p Pu_mvl ?_
      refine Dr_p (Pu_indexOw (j := i) rfl Tryz.underlying74 Tryz.sizeOf108 rfl rfl rfl rfl (by rw [List.length_map]; omega)) ?_
      refine Dr_p (Pu_fieldb 1 rfl Tryz.underlying108 rfl rfl Tryz.sizeOf65 rfl) ?_
      refine Dr_p (Pu_loadArr (c := versA cs[i].2) rfl Tryz.isAgg65 rfl rfl (by rw [← hat]; exact J.chL hci)) ?_
      refine Dr_p (Pu_loadN rfl Tryz.isAgg31 Tryz.sizeOf31 rfl (Nat.le_of_ble_eq_true rfl)) ?_
      refine Dr_p Pu_mvl ?_
      refine Dr_p (Pu_call (rclean12_a cs[i].2 n s (J.pinsOf (pins.take pins.length) cs[i].1) hc2 (by omega)) rfl ⟨Sub.rfl, Sub.rfl, Sub.rfl, trivial⟩) ?_
      refine Dr_p (Pu_indexOw (j := i) rfl Tryz.underlying74 Tryz.sizeOf108 rfl rfl rfl rfl (by rw [List.length_map]; omega)) ?_
      refine Dr_p (Pu_fieldb 1 rfl Tryz.underlying108 rfl rfl Tryz.sizeOf65 rfl) ?_
      refine Dr_nil ?_
      refine Ad_one 18 rfl (by kernel_rfl) ?_
      refine Al_storeArr (((J.cleanTo cs n s pins i).set i (((J.cleanTo cs n s pins i).getD i default).1, J.clean cs[i].2 n s (J.pinsOf (pins.take pins.length) cs[i].1))).map chR) rfl rfl rfl (by kernel_rfl) Tryz.sizeOf65 rfl rfl rfl rfl rfl (by rw [List.length_map]; omega) (by simp) (J.ch_un _) (J.ch_set hci _) ?_
      refine Al_nil ?_
      refine Ad_done (by kernel_rfl) ?_
      refine Aw_region ?_
      refine Al_p Pu_mvl ?_
      refine Al_p (Pu_add rfl rfl rfl (fun h1 h2 => by simp only [A.inI, A.maxI] at *; omega)) ?_
      refine Al_p Pu_mvr ?_
      refine Al_nil ?_
      exact ⟨i + 1, by omega, by omega, Le.ov ⟨Sub.num (by omega), trivial⟩ ⟨Sub.rfl, Sub.rfl, Sub.rfl, trivial⟩ ⟨obeq (by rw [← hset, hat, List.take_length]), trivial⟩ ⟨rfl, trivial⟩⟩ -- loop 0 next.0
  · (try simp only [decide_eq_true_eq, decide_eq_false_iff_not, List.length_map] at h15)
    have hin : i = cs.length := by omega
    refine Aw_exit ?_
    exact ⟨_, _, [], rfl, rfl, ⟨rfl, obeq (by rw [hin, J.cleanTo_all]), trivial⟩, rfl⟩ -- ret 0
end Go.Proofs.YtmbaeloiepjakaaGreat
end

section
set_option maxRecDepth 100000
namespace Go.Proofs.YtmbaeloiepjakaaGreat
open Go.RowKit A R
open A.RowT
theorem rmax_a (l : List (Int × Int)) : ACall Tryz.prog 62 [.sl 2 (l.map fun s => [iv s.1, iv s.2])] (.row [iv (D.maxS l).1, iv (D.maxS l).2]) := by
  refine ACall_enterG (fun _ _ => by kernel_rfl) Tryz.func62 rfl Tryz.ntmps62 (Reads.cN Tryz.results62 Tryz.isAgg31 Tryz.sizeOf31) (Nat.le_of_ble_eq_true rfl) (fun hok M0 w0 hnl => ?_)
  have hlen := (hok _ (List.mem_cons_self ..)).len
  rw [List.length_map] at hlen
  refine Aw_seq (Aw_region ?_)
  refine Al_alloc rfl rfl rfl (by decide) Tryz.zeroValue31 rfl (by kernel_rfl) (fun g2 => ?_)
  refine Al_nil (Aw_seq (Aw_region ?_))
  refine Al_p (Pu_build (aa := []) rfl Tryz.underlying31 Tryz.zeroValue31 (places31 Tryz.underlying31) (by kernel_rfl) trivial rfl) ?_
  refine Al_alloc rfl rfl rfl (by decide) Tryz.zeroValue31 rfl (by kernel_rfl) (fun g3 => ?_)
  refine Al_storeN rfl rfl rfl (by kernel_rfl) Tryz.isAgg31 Tryz.sizeOf31 rfl rfl rfl rfl (Nat.le_of_ble_eq_true rfl) ?_
  refine Al_nil (Aw_seq (Aw_seq (Aw_region ?_)))
  refine Al_p Pu_mvr ?_
  refine Al_nil (Aw_block ?_)
  refine Aw_loopk (ι := Nat) [0, 2, 3] [2] (fun k => [(4, .d (iv k))]) (fun k => [(3, g3, .box 31 [.d (iv (D.maxS (l.take k)).1), .d (iv (D.maxS (l.take k)).2)])]) (fun k => k ≤ l.length) (fun k => l.length - k) (0) (Nat.zero_le _) ⟨Sub.rfl, trivial⟩ ⟨rfl, trivial⟩ ?_
  rintro k hk0
  refine Aw_seq (Aw_seq (Aw_region ?_))
  refine Al_p Pu_mvl ?_
  refine Al_p Pu_mvl ?_
  refine Al_p (Pu_len rfl Tryz.underlying101 rfl (by first | exact List.length_map .. | exact rfl)) ?_
  refine Al_p (Pu_cmp rfl rfl rfl rfl) ?_
  refine Al_nil ?_
  refine Aw_cond rfl (fun h9 => ?_) (fun h9 => ?_)
  · (try simp only [decide_eq_true_eq, decide_eq_false_iff_not, Bool.and_eq_true, Bool.or_eq_true, Bool.and_eq_false_iff, Bool.or_eq_false_iff, Bool.not_eq_true', Bool.not_eq_false', beq_iff_eq, Bool.not_eq_eq_eq_not, Bool.not_true, Bool.not_false, List.length_map, Bool.and_true, Bool.and_false, Bool.false_and, Bool.true_and, Bool.or_false, Bool.false_or] at h9)
    have hk : k < l.length := by omega
    have hmt := D.maxS_take l hk
    refine Aw_skip ?_
    -- join 0: live [0, 2, 3, 4], turned []
    refine Aw_seq (Aw_block (Aw_seq ?_))
    refine Aw_draw 6 (by kernel_rfl) (by kernel_rfl) ?_
    refine Dr_p (Pu_loadbN (r := [_, _]) rfl Tryz.isAgg31 Tryz.sizeOf31 rfl rfl rfl rfl) ?_
    refine Dr_p Pu_mvl ?_
    refine Dr_p Pu_mvl ?_
    refine Dr_p (Pu_index rfl Tryz.underlying101 Tryz.sizeOf31 rfl rfl (rfl) (mapget hk)) ?_
    refine Dr_p (Pu_loadN rfl Tryz.isAgg31 Tryz.sizeOf31 rfl (Nat.le_of_ble_eq_true rfl)) ?_
    refine Dr_p (Pu_call (rless_a (D.maxS (l.take k)).1 (D.maxS (l.take k)).2 (l[k]'hk).1 (l[k]'hk).2) rfl ⟨Sub.rfl, Sub.rfl, trivial⟩) ?_
    refine Dr_nil (Al_nil ?_)
    refine Aw_cond rfl (fun h17 => ?_) (fun h17 => ?_)
    · skip
      rw [if_pos h17] at hmt
      refine Aw_region ?_
      refine Al_p Pu_mvl ?_
      refine Al_p Pu_mvl ?_
      refine Al_p (Pu_index rfl Tryz.underlying101 Tryz.sizeOf31 rfl rfl (rfl) (mapget hk)) ?_
      refine Al_p (Pu_loadN rfl Tryz.isAgg31 Tryz.sizeOf31 rfl (Nat.le_of_ble_eq_true rfl)) ?_
      refine Al_storeN rfl rfl rfl (by kernel_rfl) Tryz.isAgg31 Tryz.sizeOf31 rfl rfl rfl rfl (Nat.le_of_ble_eq_true rfl) ?_
      refine Al_nil (Aw_region ?_)
      refine Al_p Pu_mvl ?_
      refine Al_p (Pu_add rfl rfl rfl (fun h1 h2 => by simp only [A.inI, A.maxI] at *; omega)) ?_
      refine Al_p Pu_mvr ?_
      refine Al_nil ?_
      exact ⟨k + 1, by omega, by omega, Le.ov ⟨Sub.num (by omega), trivial⟩ ⟨Sub.rfl, Sub.rfl, Sub.rfl, trivial⟩ ⟨by rw [hmt]; rfl, trivial⟩ ⟨rfl, trivial⟩⟩ -- loop 0 next.0
    · skip
      rw [if_neg (by rw [h17]; decide)] at hmt
      refine Aw_skip (Aw_region ?_)
      refine Al_p Pu_mvl ?_
      refine Al_p (Pu_add rfl rfl rfl (fun h1 h2 => by simp only [A.inI, A.maxI] at *; omega)) ?_
      refine Al_p Pu_mvr ?_
      refine Al_nil ?_
      exact ⟨k + 1, by omega, by omega, Le.ov ⟨Sub.num (by omega), trivial⟩ ⟨Sub.rfl, Sub.rfl, Sub.rfl, trivial⟩ ⟨by rw [hmt]; rfl, trivial⟩ ⟨rfl, trivial⟩⟩ -- loop 0 next.1
  · (try simp only [decide_eq_true_eq, decide_eq_false_iff_not, Bool.and_eq_true, Bool.or_eq_true, Bool.and_eq_false_iff, Bool.or_eq_false_iff, Bool.not_eq_true', Bool.not_eq_false', beq_iff_eq, Bool.not_eq_eq_eq_not, Bool.not_true, Bool.not_false, List.length_map, Bool.and_true, Bool.and_false, Bool.false_and, Bool.true_and, Bool.or_false, Bool.false_or] at h9)
    obtain rfl : k = l.length := by omega
    rw [List.take_length]
    refine Aw_exit (Aw_seq (Aw_region ?_))
    refine Al_p (Pu_loadbN (r := [_, _]) rfl Tryz.isAgg31 Tryz.sizeOf31 rfl rfl rfl rfl) ?_
    refine Al_storeN rfl rfl rfl (by kernel_rfl) Tryz.isAgg31 Tryz.sizeOf31 rfl rfl rfl rfl (Nat.le_of_ble_eq_true rfl) ?_
    refine Al_nil ?_
    refine Aw_ret ?_
    exact ⟨_, _, _, _, _, [_, _], rfl, rfl, rfl, rfl, rfl⟩ -- ret 0
theorem rnextG_a (n s k : Int) (hk : 0 ≤ k ∧ k < 6) : ACall Tryz.prog 70 [.row [iv n, iv s], iv k] (.tup [.row [iv (J.nextR n k).1, iv (J.nextR n k).2], iv (J.nextE n)]) := by
  refine ACall_enterG (fun _ _ => by kernel_rfl) Tryz.func70 rfl Tryz.ntmps70 (Reads.cN1 Tryz.results70 Tryz.isAgg31 Tryz.sizeOf31) (Nat.le_of_ble_eq_true rfl) (fun hok M0 w0 hnl => ?_)
  refine Aw_seq (Aw_region ?_)
  refine Al_p (Pu_boxN rfl rfl) ?_
  refine Al_alloc rfl rfl rfl (by decide) Tryz.zeroValue31 rfl (by kernel_rfl) (fun g4 => ?_)
  refine Al_p Pu_mvr ?_
  refine Al_nil (Aw_seq (Aw_seq (Aw_region ?_)))
  refine Al_p Pu_mvl ?_
  refine Al_p (Pu_cmp rfl rfl rfl rfl) ?_
  refine Al_p Pu_mvl ?_
  refine Al_st (St_gd [] rfl rfl rfl rfl trivial (fun hg10 => by exact Pu_move (.inl rfl) (by conv => lhs; whnf))) rfl (by decide) (by kernel_rfl) (by intro j b oj dj h1 h2 h3; cases h1; cases h2; cases h3; decide) ?_
  refine Al_st (St_gd [10] rfl rfl rfl rfl ⟨⟨_, rfl⟩, trivial⟩ (fun hg11 => Pu_cmp rfl rfl rfl rfl)) rfl (by decide) (by kernel_rfl) (by intro j b oj dj h1 h2 h3; cases h1; cases h2; cases h3; decide) ?_
  refine Al_p (Pu_or rfl rfl rfl rfl) ?_
  refine Al_nil ?_
  refine Aw_cond rfl (fun h12 => ?_) (fun h12 => ?_)
  · skip
    exfalso
    simp only [Bool.or_eq_true, decide_eq_true_eq] at h12
    omega
  · skip
    refine Aw_skip (Aw_seq (Aw_region ?_))
    refine Al_p Pu_mvr ?_
    refine Al_nil (Aw_seq (Aw_seq (Aw_region ?_)))
    refine Al_p (Pu_field 0 rfl Tryz.underlying31 rfl rfl Tryz.sizeOf3 rfl) ?_
    refine Al_p (Pu_load1 rfl Tryz.isAgg3 rfl rfl) ?_
    refine Al_p (Pu_cmp rfl rfl rfl rfl) ?_
    refine Al_nil ?_
    refine Aw_cond rfl (fun h16 => ?_) (fun h16 => ?_)
    · (try simp only [decide_eq_true_eq, decide_eq_false_iff_not, Bool.and_eq_true, Bool.or_eq_true, Bool.and_eq_false_iff, Bool.or_eq_false_iff, Bool.not_eq_true', Bool.not_eq_false', beq_iff_eq, Bool.not_eq_eq_eq_not, Bool.not_true, Bool.not_false, List.length_map, Bool.and_true, Bool.and_false, Bool.false_and, Bool.true_and, Bool.or_false, Bool.false_or] at h16)
      have e1 : J.nextE n = 18 := by unfold J.nextE; rw [if_pos h16]
      have e2 : J.nextR n k = (0, 0) := by unfold J.nextR; rw [if_pos h16]
      refine Aw_seq (Aw_region ?_)
      refine Al_p (Pu_build (aa := []) rfl Tryz.underlying31 Tryz.zeroValue31 (places31 Tryz.underlying31) (by kernel_rfl) trivial rfl) ?_
      refine Al_storeN rfl rfl rfl (by kernel_rfl) Tryz.isAgg31 Tryz.sizeOf31 rfl rfl rfl rfl (Nat.le_of_ble_eq_true rfl) ?_
      refine Al_p Pu_mvr ?_
      refine Al_nil ?_
      refine Aw_ret ?_
      exact ⟨_, _, _, _, _, [_, _], _, rfl, rfl, rfl, rfl, Sub.rfl, by rw [e1, e2]⟩ -- ret 0
    · (try simp only [decide_eq_true_eq, decide_eq_false_iff_not, Bool.and_eq_true, Bool.or_eq_true, Bool.and_eq_false_iff, Bool.or_eq_false_iff, Bool.not_eq_true', Bool.not_eq_false', beq_iff_eq, Bool.not_eq_eq_eq_not, Bool.not_true, Bool.not_false, List.length_map, Bool.and_true, Bool.and_false, Bool.false_and, Bool.true_and, Bool.or_false, Bool.false_or] at h16)
      have e1 : J.nextE n = 0 := by unfold J.nextE; rw [if_neg h16]
      have e2 : J.nextR n k = (max n 0 + 1, k) := by unfold J.nextR; rw [if_neg h16]
      refine Aw_skip ?_
      -- join 0: live [1, 4, 6], turned [6]
      refine Aw_seq (Aw_seq (Aw_region ?_))
      refine Al_p (Pu_field 0 rfl Tryz.underlying31 rfl rfl Tryz.sizeOf3 rfl) ?_
      refine Al_p (Pu_load1 rfl Tryz.isAgg3 rfl rfl) ?_
      refine Al_p (Pu_cmp rfl rfl rfl rfl) ?_
      refine Al_nil ?_
      refine Aw_cond rfl (fun h20 => ?_) (fun h20 => ?_)
      · (try simp only [decide_eq_true_eq, decide_eq_false_iff_not, Bool.and_eq_true, Bool.or_eq_true, Bool.and_eq_false_iff, Bool.or_eq_false_iff, Bool.not_eq_true', Bool.not_eq_false', beq_iff_eq, Bool.not_eq_eq_eq_not, Bool.not_true, Bool.not_false, List.length_map, Bool.and_true, Bool.and_false, Bool.false_and, Bool.true_and, Bool.or_false, Bool.false_or] at h20)
        have e3 : max n 0 = n := by omega
        rw [e3] at e2
        refine Aw_region ?_
        refine Al_p (Pu_field 0 rfl Tryz.underlying31 rfl rfl Tryz.sizeOf3 rfl) ?_
        refine Al_p (Pu_load1 rfl Tryz.isAgg3 rfl rfl) ?_
        refine Al_p (Pu_add rfl rfl rfl (fun h1 h2 => by simp only [A.inI, A.maxI] at *; omega)) ?_
        refine Al_p Pu_mvr ?_
        refine Al_nil (Aw_seq (Aw_region ?_))
        refine Al_p Pu_mvl ?_
        refine Al_p Pu_mvl ?_
        refine Al_p (Pu_build (aa := [(0, _), (1, _)]) rfl Tryz.underlying31 Tryz.zeroValue31 (places31 Tryz.underlying31) (by kernel_rfl) ⟨rfl, rfl, rfl, rfl, rfl, rfl, trivial⟩ rfl) ?_
        refine Al_storeN rfl rfl rfl (by kernel_rfl) Tryz.isAgg31 Tryz.sizeOf31 rfl rfl rfl rfl (Nat.le_of_ble_eq_true rfl) ?_
        refine Al_p Pu_mvr ?_
        refine Al_nil ?_
        refine Aw_ret ?_
        exact ⟨_, _, _, _, _, [_, _], _, rfl, rfl, rfl, rfl, Sub.rfl, by first | (rw [e1, e2]; done) | (rw [e1, e2]; rfl)⟩ -- ret 1
      · (try simp only [decide_eq_true_eq, decide_eq_false_iff_not, Bool.and_eq_true, Bool.or_eq_true, Bool.and_eq_false_iff, Bool.or_eq_false_iff, Bool.not_eq_true', Bool.not_eq_false', beq_iff_eq, Bool.not_eq_eq_eq_not, Bool.not_true, Bool.not_false, List.length_map, Bool.and_true, Bool.and_false, Bool.false_and, Bool.true_and, Bool.or_false, Bool.false_or] at h20)
        have e3 : max n 0 = 0 := by omega
        rw [e3] at e2
        refine Aw_skip (Aw_seq (Aw_region ?_))
        refine Al_p Pu_mvl ?_
        refine Al_p Pu_mvl ?_
        refine Al_p (Pu_build (aa := [(0, _), (1, _)]) rfl Tryz.underlying31 Tryz.zeroValue31 (places31 Tryz.underlying31) (by kernel_rfl) ⟨rfl, rfl, rfl, rfl, rfl, rfl, trivial⟩ rfl) ?_
        refine Al_storeN rfl rfl rfl (by kernel_rfl) Tryz.isAgg31 Tryz.sizeOf31 rfl rfl rfl rfl (Nat.le_of_ble_eq_true rfl) ?_
        refine Al_p Pu_mvr ?_
        refine Al_nil ?_
        refine Aw_ret ?_
        exact ⟨_, _, _, _, _, [_, _], _, rfl, rfl, rfl, rfl, Sub.rfl, by first | (rw [e1, e2]; done) | (rw [e1, e2]; rfl)⟩ -- ret 2
namespace J
theorem only_take (p : List Dep) (own : List Rng) {k : Nat} (hk : k < p.length) : only (p.take (k + 1)) own = only (p.take k) own ++ (if 0 ≤ findR own p[k].key then [p[k]] else []) := by
  unfold only
  rw [List.take_succ_eq_append_getElem hk, List.filter_append, List.filter_cons, List.filter_nil]
  by_cases h : findR own p[k].key < 0
  · rw [if_neg (by simpa using h), if_neg (by omega)]
  · rw [if_pos (by simpa using h), if_pos (by omega)]
theorem only_len (p : List Dep) (own : List Rng) : (only p own).length ≤ p.length := List.length_filter_le ..
theorem dropW_take (p : List Ver) (own : List Rng) {k : Nat} (hk : k < p.length) : dropW (p.take (k + 1)) own = dropW (p.take k) own ++ (if 0 ≤ findR own p[k].key then [p[k]] else []) := by
  unfold dropW
  rw [List.take_succ_eq_append_getElem hk, List.filter_append, List.filter_cons, List.filter_nil]
  by_cases h : findR own p[k].key < 0
  · rw [if_neg (by simpa using h), if_neg (by omega)]
  · rw [if_pos (by simpa using h), if_pos (by omega)]
theorem dropW_len (p : List Ver) (own : List Rng) : (dropW p own).length ≤ p.length := List.length_filter_le ..
theorem filt_take {α : Type} (f : α → Bool) (p : List α) {k : Nat} (hk : k < p.length) : (p.take (k + 1)).filter f = (p.take k).filter f ++ (if f p[k] then [p[k]] else []) := by
  rw [List.take_succ_eq_append_getElem hk, List.filter_append, List.filter_cons, List.filter_nil]
end J
theorem ronly_a (p : List Dep) (own : List Rng) (hl : own.length ≤ 1000000) (hp : p.length ≤ 1000000) : ACall Tryz.prog 134 [.sl 3 (p.map Dep.row), rngA own] (.sl 3 ((J.only p own).map Dep.row)) := by
  refine ACall_enter (fun _ _ => by kernel_rfl) Tryz.func134 rfl Tryz.ntmps134 Tryz.results134 (Nat.le_of_ble_eq_true rfl) (fun hok M0 w0 hnl => ?_)
  refine Aw_seq (Aw_region ?_)
  refine Al_p Pu_mvr ?_
  refine Al_nil (Aw_seq (Aw_region ?_))
  refine Al_p Pu_mvr ?_
  refine Al_nil (Aw_seq (Aw_seq (Aw_region ?_)))
  refine Al_p Pu_mvr ?_
  refine Al_nil (Aw_block ?_)
  refine Aw_own (j := 5) (k := 5) (T := 59) (n := 3) rfl (fun g0 => ?_)
  refine Aw_loopk (ι := Nat × Nat) [0, 1] [] (fun (k, g) => [(6, .d (iv k)), (5, .ow 5 g)]) (fun (k, g) => [(5, g, .arr 59 3 ((J.only (p.take k) own).map Dep.row))]) (fun (k, g) => k ≤ p.length) (fun (k, g) => p.length - k) ((0, g0)) (Nat.zero_le _) ⟨Sub.rfl, Sub.rfl, trivial⟩ ⟨rfl, trivial⟩ ?_
  rintro ⟨k, g⟩ hk0
  refine Aw_seq (Aw_seq (Aw_region ?_))
  refine Al_p Pu_mvl ?_
  refine Al_p Pu_mvl ?_
  refine Al_p (Pu_len rfl Tryz.underlying32 rfl (by first | exact List.length_map .. | exact rfl)) ?_
  refine Al_p (Pu_cmp rfl rfl rfl rfl) ?_
  refine Al_nil ?_
  refine Aw_cond rfl (fun h10 => ?_) (fun h10 => ?_)
  · (try simp only [decide_eq_true_eq, decide_eq_false_iff_not, Bool.and_eq_true, Bool.or_eq_true, Bool.and_eq_false_iff, Bool.or_eq_false_iff, Bool.not_eq_true', Bool.not_eq_false', beq_iff_eq, Bool.not_eq_eq_eq_not, Bool.not_true, Bool.not_false, List.length_map, Bool.and_true, Bool.and_false, Bool.false_and, Bool.true_and, Bool.or_false, Bool.false_or] at h10)
    have hk : k < p.length := by omega
    have hsc := J.only_take p own hk
    have hol := J.only_len (p.take k) own
    have hol2 : (p.take k).length ≤ p.length := by simp; omega
    refine Aw_skip ?_
    -- join 0: live [0, 1, 5, 6], turned [5]
    refine Aw_seq (Aw_block (Aw_seq (Aw_region ?_)))
    refine Al_p Pu_mvl ?_
    refine Al_p Pu_mvl ?_
    refine Al_p Pu_mvl ?_
    refine Al_p (Pu_index rfl Tryz.underlying32 Tryz.sizeOf59 rfl rfl (rfl) (mapget hk)) ?_
    refine Al_p (Pu_field 0 rfl Tryz.underlying59 rfl rfl Tryz.sizeOf9 rfl) ?_
    refine Al_p (Pu_load1 rfl Tryz.isAgg9 rfl rfl) ?_
    refine Al_p (Pu_call (rfind_a own (p[k]'hk).key hl) rfl ⟨Sub.rfl, Sub.rfl, trivial⟩) ?_
    refine Al_p (Pu_cmp rfl rfl rfl rfl) ?_
    refine Al_nil ?_
    refine Aw_cond rfl (fun h20 => ?_) (fun h20 => ?_)
    · (try simp only [decide_eq_true_eq, decide_eq_false_iff_not, Bool.and_eq_true, Bool.or_eq_true, Bool.and_eq_false_iff, Bool.or_eq_false_iff, Bool.not_eq_true', Bool.not_eq_false', beq_iff_eq, Bool.not_eq_eq_eq_not, Bool.not_true, Bool.not_false, List.length_map, Bool.and_true, Bool.and_false, Bool.false_and, Bool.true_and, Bool.or_false, Bool.false_or] at h20)
      rw [if_pos h20] at hsc
      refine Aw_region ?_
      refine Al_p Pu_mvl ?_
      refine Al_p Pu_mvl ?_
      refine Al_p Pu_mvl ?_
      refine Al_p (Pu_index rfl Tryz.underlying32 Tryz.sizeOf59 rfl rfl (rfl) (mapget hk)) ?_
      refine Al_p (Pu_loadN rfl Tryz.isAgg59 Tryz.sizeOf59 rfl (Nat.le_of_ble_eq_true rfl)) ?_
      refine Al_p (Pu_slice1 rfl Tryz.underlying32 Tryz.sizeOf59 Tryz.zeroValue59 rfl (by decide) (by decide) (by kernel_rfl) rfl rfl rfl) ?_
      refine Al_append rfl rfl rfl (by decide) (by kernel_rfl) elem32 (by decide) Tryz.sizeOf59 rfl rfl rfl (by simp; omega) (by decide) (fun g27 => ?_)
      refine Al_p Pu_mvr ?_
      refine Al_nil (Aw_region ?_)
      refine Al_p Pu_mvl ?_
      refine Al_p (Pu_add rfl rfl rfl (fun h1 h2 => by simp only [A.inI, A.maxI] at *; omega)) ?_
      refine Al_p Pu_mvr ?_
      refine Al_nil ?_
      exact ⟨(k + 1, g27), by omega, by simp only []; omega, Le.ov ⟨Sub.num (by omega), Sub.rfl, trivial⟩ ⟨Sub.rfl, Sub.rfl, trivial⟩ ⟨obeq (by rw [hsc, List.map_append]; rfl), trivial⟩ trivial⟩ -- loop 0 next.0
    · (try simp only [decide_eq_true_eq, decide_eq_false_iff_not, Bool.and_eq_true, Bool.or_eq_true, Bool.and_eq_false_iff, Bool.or_eq_false_iff, Bool.not_eq_true', Bool.not_eq_false', beq_iff_eq, Bool.not_eq_eq_eq_not, Bool.not_true, Bool.not_false, List.length_map, Bool.and_true, Bool.and_false, Bool.false_and, Bool.true_and, Bool.or_false, Bool.false_or] at h20)
      rw [if_neg (by omega), List.append_nil] at hsc
      refine Aw_skip (Aw_region ?_)
      refine Al_p Pu_mvl ?_
      refine Al_p (Pu_add rfl rfl rfl (fun h1 h2 => by simp only [A.inI, A.maxI] at *; omega)) ?_
      refine Al_p Pu_mvr ?_
      refine Al_nil ?_
      exact ⟨(k + 1, g), by omega, by simp only []; omega, Le.ov ⟨Sub.num (by omega), Sub.rfl, trivial⟩ ⟨Sub.rfl, Sub.rfl, trivial⟩ ⟨obeq (by rw [hsc]), trivial⟩ trivial⟩ -- loop 0 next.1
  · (try simp only [decide_eq_true_eq, decide_eq_false_iff_not, Bool.and_eq_true, Bool.or_eq_true, Bool.and_eq_false_iff, Bool.or_eq_false_iff, Bool.not_eq_true', Bool.not_eq_false', beq_iff_eq, Bool.not_eq_eq_eq_not, Bool.not_true, Bool.not_false, List.length_map, Bool.and_true, Bool.and_false, Bool.false_and, Bool.true_and, Bool.or_false, Bool.false_or] at h10)
    obtain rfl : k = p.length := by omega
    refine Aw_exit (Aw_seq (Aw_region ?_))
    refine Al_p Pu_mvl ?_
    refine Al_p Pu_mvr ?_
    refine Al_nil ?_
    refine Aw_frz hnl (k := 5) [4] rfl ⟨rfl, trivial⟩ ?_
    refine Aw_ret ?_
    exact Sub.d (by rw [List.take_length]) -- ret 0
theorem rmisses_a (v : Ver) (hv : List Dep) (own : List Rng) (hl : own.length ≤ 1000000) (hp : v.past.length ≤ 1000000) : ACall Tryz.prog 116 [.row v.row, .sl 3 (hv.map Dep.row), rngA own] (.sl 3 ((J.misses v hv own).map Dep.row)) := by
  refine ACall_enter (fun _ _ => by kernel_rfl) Tryz.func116 rfl Tryz.ntmps116 Tryz.results116 (Nat.le_of_ble_eq_true rfl) (fun hok M0 w0 hnl => ?_)
  obtain ⟨q, hq⟩ : ∃ q, q = J.only v.past own := ⟨_, rfl⟩
  have hon := ronly_a v.past own hl hp
  have hql : q.length ≤ v.past.length := by rw [hq]; exact J.only_len ..
  rw [← hq] at hon
  have hmi : J.misses v hv own = q.filter (J.lacks hv) := by unfold J.misses; rw [hq]
  refine Aw_seq (Aw_region ?_)
  refine Al_p (Pu_boxN rfl rfl) ?_
  refine Al_p Pu_mvr ?_
  refine Al_nil (Aw_seq (Aw_region ?_))
  refine Al_p Pu_mvr ?_
  refine Al_nil (Aw_seq (Aw_region ?_))
  refine Al_p (Pu_field 5 rfl Tryz.underlying34 rfl rfl Tryz.sizeOf32 rfl) ?_
  refine Al_p (Pu_load1 rfl Tryz.isAgg32 rfl rfl) ?_
  refine Al_p Pu_mvl ?_
  refine Al_p (Pu_call (hon) rfl ⟨Sub.rfl, Sub.rfl, trivial⟩) ?_
  refine Al_p Pu_mvr ?_
  refine Al_nil (Aw_seq (Aw_seq (Aw_region ?_)))
  refine Al_p Pu_mvr ?_
  refine Al_nil (Aw_block ?_)
  refine Aw_own (j := 7) (k := 7) (T := 59) (n := 3) rfl (fun g0 => ?_)
  refine Aw_loopk (ι := Nat × Nat) [1, 8] [] (fun (k, g) => [(9, .d (iv k)), (7, .ow 7 g)]) (fun (k, g) => [(7, g, .arr 59 3 (((q.take k).filter (J.lacks hv)).map Dep.row))]) (fun (k, g) => k ≤ q.length) (fun (k, g) => q.length - k) ((0, g0)) (Nat.zero_le _) ⟨Sub.rfl, Sub.rfl, trivial⟩ ⟨rfl, trivial⟩ ?_
  rintro ⟨k, g⟩ hk0
  refine Aw_seq (Aw_seq (Aw_region ?_))
  refine Al_p Pu_mvl ?_
  refine Al_p Pu_mvl ?_
  refine Al_p (Pu_len rfl Tryz.underlying32 rfl (by first | exact List.length_map .. | exact rfl)) ?_
  refine Al_p (Pu_cmp rfl rfl rfl rfl) ?_
  refine Al_nil ?_
  refine Aw_cond rfl (fun h18 => ?_) (fun h18 => ?_)
  · (try simp only [decide_eq_true_eq, decide_eq_false_iff_not, Bool.and_eq_true, Bool.or_eq_true, Bool.and_eq_false_iff, Bool.or_eq_false_iff, Bool.not_eq_true', Bool.not_eq_false', beq_iff_eq, Bool.not_eq_eq_eq_not, Bool.not_true, Bool.not_false, List.length_map, Bool.and_true, Bool.and_false, Bool.false_and, Bool.true_and, Bool.or_false, Bool.false_or] at h18)
    have hk : k < q.length := by omega
    have hsc := J.filt_take (J.lacks hv) q hk
    have hol := List.length_filter_le (J.lacks hv) (q.take k)
    have hol2 : (q.take k).length ≤ q.length := by simp; omega
    refine Aw_skip ?_
    -- join 0: live [1, 7, 8, 9], turned [7]
    refine Aw_seq (Aw_block (Aw_seq (Aw_region ?_)))
    refine Al_p Pu_mvl ?_
    refine Al_p Pu_mvl ?_
    refine Al_p Pu_mvl ?_
    refine Al_p (Pu_index rfl Tryz.underlying32 Tryz.sizeOf59 rfl rfl (rfl) (mapget hk)) ?_
    refine Al_p (Pu_field 0 rfl Tryz.underlying59 rfl rfl Tryz.sizeOf9 rfl) ?_
    refine Al_p (Pu_load1 rfl Tryz.isAgg9 rfl rfl) ?_
    refine Al_p (Pu_call (rget_a hv (q[k]'hk).key) rfl ⟨Sub.rfl, Sub.rfl, trivial⟩) ?_
    refine Al_alloc rfl rfl rfl (by decide) Tryz.zeroValue31 rfl (by kernel_rfl) (fun g10 => ?_)
    refine Al_storeN rfl rfl rfl (by kernel_rfl) Tryz.isAgg31 Tryz.sizeOf31 rfl rfl rfl rfl (Nat.le_of_ble_eq_true rfl) ?_
    refine Al_nil (Aw_seq ?_)
    refine Aw_draw 7 (by kernel_rfl) (by kernel_rfl) ?_
    refine Dr_p (Pu_loadbN (r := [_, _]) rfl Tryz.isAgg31 Tryz.sizeOf31 rfl rfl rfl rfl) ?_
    refine Dr_p Pu_mvl ?_
    refine Dr_p Pu_mvl ?_
    refine Dr_p (Pu_index rfl Tryz.underlying32 Tryz.sizeOf59 rfl rfl (rfl) (mapget hk)) ?_
    refine Dr_p (Pu_field 1 rfl Tryz.underlying59 rfl rfl Tryz.sizeOf31 rfl) ?_
    refine Dr_p (Pu_loadN rfl Tryz.isAgg31 Tryz.sizeOf31 rfl (Nat.le_of_ble_eq_true rfl)) ?_
    refine Dr_p (Pu_call (rless_a _ _ _ _) rfl ⟨Sub.rfl, Sub.rfl, trivial⟩) ?_
    refine Dr_nil (Al_nil ?_)
    refine Aw_cond rfl (fun h34 => ?_) (fun h34 => ?_)
    · skip
      rw [if_pos (show J.lacks hv q[k] = true from h34)] at hsc
      refine Aw_region ?_
      refine Al_p Pu_mvl ?_
      refine Al_p Pu_mvl ?_
      refine Al_p Pu_mvl ?_
      refine Al_p (Pu_index rfl Tryz.underlying32 Tryz.sizeOf59 rfl rfl (rfl) (mapget hk)) ?_
      refine Al_p (Pu_loadN rfl Tryz.isAgg59 Tryz.sizeOf59 rfl (Nat.le_of_ble_eq_true rfl)) ?_
      refine Al_p (Pu_slice1 rfl Tryz.underlying32 Tryz.sizeOf59 Tryz.zeroValue59 rfl (by decide) (by decide) (by kernel_rfl) rfl rfl rfl) ?_
      refine Al_append rfl rfl rfl (by decide) (by kernel_rfl) elem32 (by decide) Tryz.sizeOf59 rfl rfl rfl (by simp; omega) (by decide) (fun g41 => ?_)
      refine Al_p Pu_mvr ?_
      refine Al_nil (Aw_region ?_)
      refine Al_p Pu_mvl ?_
      refine Al_p (Pu_add rfl rfl rfl (fun h1 h2 => by simp only [A.inI, A.maxI] at *; omega)) ?_
      refine Al_p Pu_mvr ?_
      refine Al_nil ?_
      exact ⟨(k + 1, g41), by omega, by simp only []; omega, Le.ov ⟨Sub.num (by omega), Sub.rfl, trivial⟩ ⟨Sub.rfl, Sub.rfl, trivial⟩ ⟨obeq (by rw [hsc, List.map_append]; rfl), trivial⟩ trivial⟩ -- loop 0 next.0
    · skip
      rw [if_neg (show ¬ J.lacks hv q[k] = true from by rw [show J.lacks hv q[k] = false from h34]; decide), List.append_nil] at hsc
      refine Aw_skip (Aw_region ?_)
      refine Al_p Pu_mvl ?_
      refine Al_p (Pu_add rfl rfl rfl (fun h1 h2 => by simp only [A.inI, A.maxI] at *; omega)) ?_
      refine Al_p Pu_mvr ?_
      refine Al_nil ?_
      exact ⟨(k + 1, g), by omega, by simp only []; omega, Le.ov ⟨Sub.num (by omega), Sub.rfl, trivial⟩ ⟨Sub.rfl, Sub.rfl, trivial⟩ ⟨obeq (by rw [hsc]), trivial⟩ trivial⟩ -- loop 0 next.1
  · (try simp only [decide_eq_true_eq, decide_eq_false_iff_not, Bool.and_eq_true, Bool.or_eq_true, Bool.and_eq_false_iff, Bool.or_eq_false_iff, Bool.not_eq_true', Bool.not_eq_false', beq_iff_eq, Bool.not_eq_eq_eq_not, Bool.not_true, Bool.not_false, List.length_map, Bool.and_true, Bool.and_false, Bool.false_and, Bool.true_and, Bool.or_false, Bool.false_or] at h18)
    obtain rfl : k = q.length := by omega
    refine Aw_exit (Aw_seq (Aw_region ?_))
    refine Al_p Pu_mvl ?_
    refine Al_p Pu_mvr ?_
    refine Al_nil ?_
    refine Aw_frz hnl (k := 7) [6] rfl ⟨rfl, trivial⟩ ?_
    refine Aw_ret ?_
    exact Sub.d (by rw [hmi, List.take_length]) -- ret 0
theorem rcheck14_a (v : Ver) (hv : List Dep) (own : List Rng) (hl : own.length ≤ 1000000) (hp : v.past.length ≤ 1000000) : ACall Tryz.prog 94 [.row v.row, .sl 3 (hv.map Dep.row), rngA own] (bv (J.ready hv own v)) := by
  refine ACall_enter (fun _ _ => by kernel_rfl) Tryz.func94 rfl Tryz.ntmps94 Tryz.results94 (Nat.le_of_ble_eq_true rfl) (fun hok M0 w0 hnl => ?_)
  refine Aw_seq (Aw_region ?_)
  refine Al_p (Pu_boxN rfl rfl) ?_
  refine Al_p Pu_mvr ?_
  refine Al_nil (Aw_seq (Aw_region ?_))
  refine Al_p (Pu_loadN rfl Tryz.isAgg34 Tryz.sizeOf34 rfl (Nat.le_of_ble_eq_true rfl)) ?_
  refine Al_p Pu_mvl ?_
  refine Al_p Pu_mvl ?_
  refine Al_p (Pu_call (rmisses_a v hv own hl hp) rfl ⟨Sub.rfl, Sub.rfl, Sub.rfl, trivial⟩) ?_
  refine Al_p Pu_mvr ?_
  refine Al_nil (Aw_seq (Aw_region ?_))
  refine Al_p Pu_mvl ?_
  refine Al_p (Pu_len rfl Tryz.underlying32 rfl (by first | exact List.length_map .. | exact rfl)) ?_
  refine Al_p (Pu_cmp rfl rfl rfl rfl) ?_
  refine Al_p Pu_mvr ?_
  refine Al_nil ?_
  refine Aw_ret ?_
  exact Sub.rfl -- ret 0
theorem rpush14_a (l : List Ver) (v : Ver) (hp : l.length ≤ 1000000) : ACall Tryz.prog 61 [versA l, .row v.row] (.tup [versA (if J.pushE l v = 0 then l ++ [v] else []), iv (J.pushE l v)]) := by
  refine ACall_enter2 (fun _ _ => by kernel_rfl) Tryz.func61 rfl Tryz.ntmps61 Tryz.results61 (Nat.le_of_ble_eq_true rfl) (fun hok M0 w0 hnl => ?_)
  refine Aw_seq (Aw_region ?_)
  refine Al_p (Pu_boxN rfl rfl) ?_
  refine Al_p Pu_mvr ?_
  refine Al_p Pu_mvr ?_
  refine Al_nil (Aw_seq (Aw_region ?_))
  refine Al_p (Pu_loadN rfl Tryz.isAgg34 Tryz.sizeOf34 rfl (Nat.le_of_ble_eq_true rfl)) ?_
  refine Al_p (Pu_call (rvcheck_a v) rfl ⟨Sub.rfl, trivial⟩) ?_
  refine Al_p Pu_mvr ?_
  refine Al_nil (Aw_seq (Aw_seq (Aw_region ?_)))
  refine Al_p Pu_mvl ?_
  refine Al_p (Pu_not rfl rfl) ?_
  refine Al_nil ?_
  refine Aw_cond rfl (fun h11 => ?_) (fun h11 => ?_)
  · (try simp only [decide_eq_true_eq, decide_eq_false_iff_not, Bool.and_eq_true, Bool.or_eq_true, Bool.and_eq_false_iff, Bool.or_eq_false_iff, Bool.not_eq_true', Bool.not_eq_false', beq_iff_eq, Bool.not_eq_eq_eq_not, Bool.not_true, Bool.not_false, List.length_map, Bool.and_true, Bool.and_false, Bool.false_and, Bool.true_and, Bool.or_false, Bool.false_or] at h11)
    have he : J.pushE l v = 1 := by
      unfold J.pushE
      rw [if_neg (by rw [Bool.not_eq_true]; simpa using h11)]
    refine Aw_seq (Aw_region ?_)
    refine Al_p Pu_mvr ?_
    refine Al_p Pu_mvr ?_
    refine Al_nil ?_
    refine Aw_ret ?_
    rw [he]; exact ⟨Sub.nil, Sub.rfl⟩ -- ret 0
  · (try simp only [decide_eq_true_eq, decide_eq_false_iff_not, Bool.and_eq_true, Bool.or_eq_true, Bool.and_eq_false_iff, Bool.or_eq_false_iff, Bool.not_eq_true', Bool.not_eq_false', beq_iff_eq, Bool.not_eq_eq_eq_not, Bool.not_true, Bool.not_false, List.length_map, Bool.and_true, Bool.and_false, Bool.false_and, Bool.true_and, Bool.or_false, Bool.false_or] at h11)
    refine Aw_skip (Aw_seq (Aw_seq (Aw_region ?_)))
    refine Al_p Pu_mvl ?_
    refine Al_p (Pu_len rfl Tryz.underlying65 rfl (by first | exact List.length_map .. | exact rfl)) ?_
    refine Al_p (Pu_cmp rfl rfl rfl rfl) ?_
    refine Al_nil ?_
    refine Aw_cond rfl (fun h14 => ?_) (fun h14 => ?_)
    · (try simp only [decide_eq_true_eq, decide_eq_false_iff_not, Bool.and_eq_true, Bool.or_eq_true, Bool.and_eq_false_iff, Bool.or_eq_false_iff, Bool.not_eq_true', Bool.not_eq_false', beq_iff_eq, Bool.not_eq_eq_eq_not, Bool.not_true, Bool.not_false, List.length_map, Bool.and_true, Bool.and_false, Bool.false_and, Bool.true_and, Bool.or_false, Bool.false_or] at h14)
      have he : J.pushE l v = 15 := by
        unfold J.pushE
        rw [if_pos (by simpa using h11), if_pos (by simpa using h14)]
      refine Aw_seq (Aw_region ?_)
      refine Al_p Pu_mvr ?_
      refine Al_p Pu_mvr ?_
      refine Al_nil ?_
      refine Aw_ret ?_
      rw [he]; exact ⟨Sub.nil, Sub.rfl⟩ -- ret 1
    · (try simp only [decide_eq_true_eq, decide_eq_false_iff_not, Bool.and_eq_true, Bool.or_eq_true, Bool.and_eq_false_iff, Bool.or_eq_false_iff, Bool.not_eq_true', Bool.not_eq_false', beq_iff_eq, Bool.not_eq_eq_eq_not, Bool.not_true, Bool.not_false, List.length_map, Bool.and_true, Bool.and_false, Bool.false_and, Bool.true_and, Bool.or_false, Bool.false_or] at h14)
      have he : J.pushE l v = 0 := by
        unfold J.pushE
        rw [if_pos (by simpa using h11), if_neg (by simpa using h14)]
      refine Aw_skip (Aw_seq (Aw_region ?_))
      refine Al_p Pu_mvr ?_
      refine Al_nil (Aw_seq ?_)
      refine Aw_own (j := 7) (k := 7) (T := 34) (n := 6) rfl (fun g0 => ?_)
      refine Aw_region ?_
      refine Al_p Pu_mvl ?_
      refine Al_p Pu_mvl ?_
      refine Al_append rfl rfl rfl (by decide) (by kernel_rfl) elem65 (by decide) Tryz.sizeOf34 rfl rfl rfl (by simp; omega) (by decide) (fun g17 => ?_)
      refine Al_p Pu_mvr ?_
      refine Al_nil (Aw_seq (Aw_region ?_))
      refine Al_p Pu_mvl ?_
      refine Al_p (Pu_loadN rfl Tryz.isAgg34 Tryz.sizeOf34 rfl (Nat.le_of_ble_eq_true rfl)) ?_
      refine Al_p (Pu_slice1 rfl Tryz.underlying65 Tryz.sizeOf34 Tryz.zeroValue34 rfl (by decide) (by decide) (by kernel_rfl) rfl rfl rfl) ?_
      refine Al_append rfl rfl rfl (by decide) (by kernel_rfl) elem65 (by decide) Tryz.sizeOf34 rfl rfl rfl (by simp; omega) (by decide) (fun g21 => ?_)
      refine Al_p Pu_mvr ?_
      refine Al_p Pu_mvr ?_
      refine Al_nil ?_
      refine Aw_frz hnl (k := 7) [4] rfl ⟨rfl, trivial⟩ ?_
      refine Aw_ret ?_
      exact ⟨Sub.d (by rw [he, if_pos rfl]; show AV.sl 6 _ = AV.sl 6 ((l ++ [v]).map Ver.row); rw [List.map_append]; rfl), Sub.num he.symm⟩ -- ret 2
theorem rdrop14_a (p : List Ver) (own : List Rng) (hl : own.length ≤ 1000000) (hp : p.length ≤ 1000000) : ACall Tryz.prog 68 [versA p, rngA own] (versA (J.dropW p own)) := by
  refine ACall_enter (fun _ _ => by kernel_rfl) Tryz.func68 rfl Tryz.ntmps68 Tryz.results68 (Nat.le_of_ble_eq_true rfl) (fun hok M0 w0 hnl => ?_)
  refine Aw_seq (Aw_region ?_)
  refine Al_p Pu_mvr ?_
  refine Al_nil (Aw_seq (Aw_region ?_))
  refine Al_p Pu_mvr ?_
  refine Al_nil (Aw_seq (Aw_seq (Aw_region ?_)))
  refine Al_p Pu_mvr ?_
  refine Al_nil (Aw_block ?_)
  refine Aw_own (j := 5) (k := 5) (T := 34) (n := 6) rfl (fun g0 => ?_)
  refine Aw_loopk (ι := Nat × Nat) [0, 1] [] (fun (k, g) => [(6, .d (iv k)), (5, .ow 5 g)]) (fun (k, g) => [(5, g, .arr 34 6 ((J.dropW (p.take k) own).map Ver.row))]) (fun (k, g) => k ≤ p.length) (fun (k, g) => p.length - k) ((0, g0)) (Nat.zero_le _) ⟨Sub.rfl, Sub.rfl, trivial⟩ ⟨rfl, trivial⟩ ?_
  rintro ⟨k, g⟩ hk0
  refine Aw_seq (Aw_seq (Aw_region ?_))
  refine Al_p Pu_mvl ?_
  refine Al_p Pu_mvl ?_
  refine Al_p (Pu_len rfl Tryz.underlying65 rfl (by first | exact List.length_map .. | exact rfl)) ?_
  refine Al_p (Pu_cmp rfl rfl rfl rfl) ?_
  refine Al_nil ?_
  refine Aw_cond rfl (fun h10 => ?_) (fun h10 => ?_)
  · (try simp only [decide_eq_true_eq, decide_eq_false_iff_not, Bool.and_eq_true, Bool.or_eq_true, Bool.and_eq_false_iff, Bool.or_eq_false_iff, Bool.not_eq_true', Bool.not_eq_false', beq_iff_eq, Bool.not_eq_eq_eq_not, Bool.not_true, Bool.not_false, List.length_map, Bool.and_true, Bool.and_false, Bool.false_and, Bool.true_and, Bool.or_false, Bool.false_or] at h10)
    have hk : k < p.length := by omega
    have hsc := J.dropW_take p own hk
    have hol := J.dropW_len (p.take k) own
    have hol2 : (p.take k).length ≤ p.length := by simp; omega
    refine Aw_skip ?_
    -- join 0: live [0, 1, 5, 6], turned [5]
    refine Aw_seq (Aw_block (Aw_seq (Aw_region ?_)))
    refine Al_p Pu_mvl ?_
    refine Al_p Pu_mvl ?_
    refine Al_p Pu_mvl ?_
    refine Al_p (Pu_index rfl Tryz.underlying65 Tryz.sizeOf34 rfl rfl (rfl) (mapget hk)) ?_
    refine Al_p (Pu_field 0 rfl Tryz.underlying34 rfl rfl Tryz.sizeOf9 rfl) ?_
    refine Al_p (Pu_load1 rfl Tryz.isAgg9 rfl rfl) ?_
    refine Al_p (Pu_call (rfind_a own (p[k]'hk).key hl) rfl ⟨Sub.rfl, Sub.rfl, trivial⟩) ?_
    refine Al_p (Pu_cmp rfl rfl rfl rfl) ?_
    refine Al_nil ?_
    refine Aw_cond rfl (fun h20 => ?_) (fun h20 => ?_)
    · (try simp only [decide_eq_true_eq, decide_eq_false_iff_not, Bool.and_eq_true, Bool.or_eq_true, Bool.and_eq_false_iff, Bool.or_eq_false_iff, Bool.not_eq_true', Bool.not_eq_false', beq_iff_eq, Bool.not_eq_eq_eq_not, Bool.not_true, Bool.not_false, List.length_map, Bool.and_true, Bool.and_false, Bool.false_and, Bool.true_and, Bool.or_false, Bool.false_or] at h20)
      rw [if_pos h20] at hsc
      refine Aw_region ?_
      refine Al_p Pu_mvl ?_
      refine Al_p Pu_mvl ?_
      refine Al_p Pu_mvl ?_
      refine Al_p (Pu_index rfl Tryz.underlying65 Tryz.sizeOf34 rfl rfl (rfl) (mapget hk)) ?_
      refine Al_p (Pu_loadN rfl Tryz.isAgg34 Tryz.sizeOf34 rfl (Nat.le_of_ble_eq_true rfl)) ?_
      refine Al_p (Pu_slice1 rfl Tryz.underlying65 Tryz.sizeOf34 Tryz.zeroValue34 rfl (by decide) (by decide) (by kernel_rfl) rfl rfl rfl) ?_
      refine Al_append rfl rfl rfl (by decide) (by kernel_rfl) elem65 (by decide) Tryz.sizeOf34 rfl rfl rfl (by simp; omega) (by decide) (fun g27 => ?_)
      refine Al_p Pu_mvr ?_
      refine Al_nil (Aw_region ?_)
      refine Al_p Pu_mvl ?_
      refine Al_p (Pu_add rfl rfl rfl (fun h1 h2 => by simp only [A.inI, A.maxI] at *; omega)) ?_
      refine Al_p Pu_mvr ?_
      refine Al_nil ?_
      exact ⟨(k + 1, g27), by omega, by simp only []; omega, Le.ov ⟨Sub.num (by omega), Sub.rfl, trivial⟩ ⟨Sub.rfl, Sub.rfl, trivial⟩ ⟨obeq (by rw [hsc, List.map_append]; rfl), trivial⟩ trivial⟩ -- loop 0 next.0
    · (try simp only [decide_eq_true_eq, decide_eq_false_iff_not, Bool.and_eq_true, Bool.or_eq_true, Bool.and_eq_false_iff, Bool.or_eq_false_iff, Bool.not_eq_true', Bool.not_eq_false', beq_iff_eq, Bool.not_eq_eq_eq_not, Bool.not_true, Bool.not_false, List.length_map, Bool.and_true, Bool.and_false, Bool.false_and, Bool.true_and, Bool.or_false, Bool.false_or] at h20)
      rw [if_neg (by omega), List.append_nil] at hsc
      refine Aw_skip (Aw_region ?_)
      refine Al_p Pu_mvl ?_
      refine Al_p (Pu_add rfl rfl rfl (fun h1 h2 => by simp only [A.inI, A.maxI] at *; omega)) ?_
      refine Al_p Pu_mvr ?_
      refine Al_nil ?_
      exact ⟨(k + 1, g), by omega, by simp only []; omega, Le.ov ⟨Sub.num (by omega), Sub.rfl, trivial⟩ ⟨Sub.rfl, Sub.rfl, trivial⟩ ⟨obeq (by rw [hsc]), trivial⟩ trivial⟩ -- loop 0 next.1
  · (try simp only [decide_eq_true_eq, decide_eq_false_iff_not, Bool.and_eq_true, Bool.or_eq_true, Bool.and_eq_false_iff, Bool.or_eq_false_iff, Bool.not_eq_true', Bool.not_eq_false', beq_iff_eq, Bool.not_eq_eq_eq_not, Bool.not_true, Bool.not_false, List.length_map, Bool.and_true, Bool.and_false, Bool.false_and, Bool.true_and, Bool.or_false, Bool.false_or] at h10)
    obtain rfl : k = p.length := by omega
    refine Aw_exit (Aw_seq (Aw_region ?_))
    refine Al_p Pu_mvl ?_
    refine Al_p Pu_mvr ?_
    refine Al_nil ?_
    refine Aw_frz hnl (k := 5) [4] rfl ⟨rfl, trivial⟩ ?_
    refine Aw_ret ?_
    exact Sub.d (by rw [List.take_length]) -- ret 0
abbrev gotA (l : List Ver) (hv : List Dep) (own : List Rng) : AV := .row [tv ((J.nextV l hv own).getD default).key, tv ((J.nextV l hv own).getD default).value, bv ((J.nextV l hv own).getD default).gone, iv ((J.nextV l hv own).getD default).n, iv ((J.nextV l hv own).getD default).s, .sl 3 (((J.nextV l hv own).getD default).past.map Dep.row), versA (J.nextL l hv own), bv (J.nextV l hv own).isSome]
theorem got_yes {l : List Ver} {hv : List Dep} {own : List Rng} {k : Nat} (hk : k < l.length) (e2 : l[J.nextI l hv own]? = some (l.getD k default)) (e3 : l.eraseIdx (J.nextI l hv own) = l.take k ++ l.drop (k + 1)) : gotA l hv own = .row [tv (l.getD k default).key, tv (l.getD k default).value, bv (l.getD k default).gone, iv (l.getD k default).n, iv (l.getD k default).s, .sl 3 ((l.getD k default).past.map Dep.row), .sl 6 ([] ++ ((l.map Ver.row).take k).drop 0 ++ ((l.map Ver.row).take l.length).drop (k + 1)), bv true] := by
  have h1 : (l.map Ver.row).take l.length = l.map Ver.row := List.take_of_length_le (by simp)
  unfold gotA J.nextV J.nextL
  rw [e2, e3, h1]
  simp only [versA, List.map_append, List.map_take, List.map_drop, List.drop_zero, List.nil_append, Option.getD_some, Option.isSome_some]
theorem got_no {l : List Ver} {hv : List Dep} {own : List Rng} (e2 : l[J.nextI l hv own]? = none) (e3 : l.eraseIdx (J.nextI l hv own) = l) : gotA l hv own = .row [tv (default : Ver).key, tv (default : Ver).value, bv (default : Ver).gone, iv (default : Ver).n, iv (default : Ver).s, .sl 3 ((default : Ver).past.map Dep.row), versA l, bv false] := by
  unfold gotA J.nextV J.nextL
  rw [e2, e3]; rfl
theorem rnext14_a (l : List Ver) (hv : List Dep) (own : List Rng) (hl : own.length ≤ 1000000) (hp : ∀ v ∈ l, v.past.length ≤ 1000000) (hll : l.length ≤ 1000000) : ACall Tryz.prog 63 [versA l, .sl 3 (hv.map Dep.row), rngA own] (gotA l hv own) := by
  refine ACall_enterG (fun _ _ => by kernel_rfl) Tryz.func63 rfl Tryz.ntmps63 (Reads.cN Tryz.results63 Tryz.isAgg103 Tryz.sizeOf103) (Nat.le_of_ble_eq_true rfl) (fun hok M0 w0 hnl => ?_)
  refine Aw_seq (Aw_region ?_)
  refine Al_alloc rfl rfl rfl (by decide) Tryz.zeroValue103 rfl (by kernel_rfl) (fun g6 => ?_)
  refine Al_nil (Aw_seq (Aw_seq (Aw_region ?_)))
  refine Al_p Pu_mvr ?_
  refine Al_nil (Aw_block ?_)
  refine Aw_loopk (ι := Nat) [0, 1, 2, 6] [6] (fun k => [(7, .d (iv k))]) (fun k => []) (fun k => k ≤ l.length ∧ ∀ j, j < k → J.ready hv own (l.getD j default) = false) (fun k => l.length - k) (0) (⟨Nat.zero_le _, fun j hj => absurd hj (Nat.not_lt_zero _)⟩) ⟨Sub.rfl, trivial⟩ trivial ?_
  rintro k ⟨hk0, hno⟩
  refine Aw_seq (Aw_seq (Aw_region ?_))
  refine Al_p Pu_mvl ?_
  refine Al_p Pu_mvl ?_
  refine Al_p (Pu_len rfl Tryz.underlying65 rfl (by first | exact List.length_map .. | exact rfl)) ?_
  refine Al_p (Pu_cmp rfl rfl rfl rfl) ?_
  refine Al_nil ?_
  refine Aw_cond rfl (fun h13 => ?_) (fun h13 => ?_)
  · (try simp only [decide_eq_true_eq, decide_eq_false_iff_not, Bool.and_eq_true, Bool.or_eq_true, Bool.and_eq_false_iff, Bool.or_eq_false_iff, Bool.not_eq_true', Bool.not_eq_false', beq_iff_eq, Bool.not_eq_eq_eq_not, Bool.not_true, Bool.not_false, List.length_map, Bool.and_true, Bool.and_false, Bool.false_and, Bool.true_and, Bool.or_false, Bool.false_or] at h13)
    have hk : k < l.length := by omega
    have hmem : l.getD k default ∈ l := by rw [List.getD_eq_getElem?_getD, List.getElem?_eq_getElem hk]; exact List.getElem_mem hk
    refine Aw_skip (Aw_seq (Aw_block (Aw_seq (Aw_region ?_))))
    refine Al_p Pu_mvl ?_
    refine Al_p Pu_mvl ?_
    refine Al_p (Pu_index rfl Tryz.underlying65 Tryz.sizeOf34 rfl rfl (rfl) (mapgetD (d := default) hk)) ?_
    refine Al_p (Pu_loadN rfl Tryz.isAgg34 Tryz.sizeOf34 rfl (Nat.le_of_ble_eq_true rfl)) ?_
    refine Al_p Pu_mvl ?_
    refine Al_p Pu_mvl ?_
    refine Al_p (Pu_call (rcheck14_a (l.getD k default) hv own hl (hp _ hmem)) rfl ⟨Sub.rfl, Sub.rfl, Sub.rfl, trivial⟩) ?_
    refine Al_p Pu_mvr ?_
    refine Al_nil (Aw_seq (Aw_region ?_))
    refine Al_p Pu_mvl ?_
    refine Al_nil ?_
    refine Aw_cond rfl (fun h23 => ?_) (fun h23 => ?_)
    · (try simp only [decide_eq_true_eq, decide_eq_false_iff_not, Bool.and_eq_true, Bool.or_eq_true, Bool.and_eq_false_iff, Bool.or_eq_false_iff, Bool.not_eq_true', Bool.not_eq_false', beq_iff_eq, Bool.not_eq_eq_eq_not, Bool.not_true, Bool.not_false, List.length_map, Bool.and_true, Bool.and_false, Bool.false_and, Bool.true_and, Bool.or_false, Bool.false_or] at h23)
      obtain ⟨e1, e2, e3⟩ := J.next_at hk h23 hno
      refine Aw_seq (Aw_region ?_)
      refine Al_p Pu_mvr ?_
      refine Al_nil (Aw_seq ?_)
      refine Aw_own (j := 9) (k := 9) (T := 34) (n := 6) rfl (fun g0 => ?_)
      refine Aw_region ?_
      refine Al_p Pu_mvl ?_
      refine Al_p Pu_mvl ?_
      refine Al_p Pu_mvl ?_
      refine Al_p (Pu_subL (0) (k) rfl Tryz.underlying65 Tryz.sizeOf34 rfl rfl ⟨_, rfl, by omega⟩ ⟨by first | omega | (rw [List.length_map]; omega), by first | omega | (rw [List.length_map]; omega)⟩) ?_
      refine Al_append rfl rfl rfl (by decide) (by kernel_rfl) elem65 (by decide) Tryz.sizeOf34 rfl rfl rfl (by simp; omega) (by decide) (fun g28 => ?_)
      refine Al_p Pu_mvr ?_
      refine Al_nil ?_
      -- join 0: live [6], turned []
      refine Aw_seq ?_
      refine Aw_drawn (by kernel_rfl) ?_
      refine Ad_take 0 rfl (PuI_move (.inl rfl) (by conv => lhs; whnf)) rfl rfl (by decide) (by kernel_rfl) (by kernel_rfl) (by kernel_rfl) (by kernel_rfl) (fun _ _ h => h) ?_
      refine Ad_take 1 rfl (PuI_move (.inl rfl) (by conv => lhs; whnf)) rfl rfl (by decide) (by kernel_rfl) (by kernel_rfl) (by kernel_rfl) (by kernel_rfl) (fun _ _ h => h) ?_
      refine Ad_take 4 rfl (PuI_move (.inl rfl) (by conv => lhs; whnf)) rfl rfl (by decide) (by kernel_rfl) (by kernel_rfl) (by kernel_rfl) (by kernel_rfl) (fun _ _ h => h) ?_
      refine Ad_take 5 rfl (PuI_move (.inl rfl) (by conv => lhs; whnf)) rfl rfl (by decide) (by kernel_rfl) (by kernel_rfl) (by kernel_rfl) (by kernel_rfl) (fun _ _ h => h) ?_
      refine Ad_take 6 rfl (PuI_move (.inl rfl) (by conv => lhs; whnf)) rfl rfl (by decide) (by kernel_rfl) (by kernel_rfl) (by kernel_rfl) (by kernel_rfl) (fun _ _ h => h) ?_
      refine Ad_two 2 7 rfl rfl (by kernel_rfl) ?_ ?_
      · refine Al_p (Pu_index rfl Tryz.underlying65 Tryz.sizeOf34 rfl rfl (rfl) (mapgetD (d := default) hk)) ?_
        refine Al_nil ?_
        refine Ad_two 3 7 rfl rfl (by kernel_rfl) ?_ ?_
        · refine Al_p (Pu_loadN rfl Tryz.isAgg34 Tryz.sizeOf34 rfl (Nat.le_of_ble_eq_true rfl)) ?_
          refine Al_nil ?_
          refine Ad_one 7 rfl (by kernel_rfl) ?_
          refine Al_p (Pu_add rfl rfl rfl (fun h1 h2 => by simp only [A.inI, A.maxI] at *; omega)) ?_
          refine Al_nil ?_
          refine Ad_one 8 rfl (by kernel_rfl) ?_
          refine Al_p (Pu_subL (k + 1) (l.length) rfl Tryz.underlying65 Tryz.sizeOf34 rfl ⟨_, rfl, rfl⟩ ((List.length_map ..).symm) ⟨by first | omega | (rw [List.length_map]; omega), by first | omega | (rw [List.length_map]; omega)⟩) ?_
          refine Al_nil ?_
          refine Ad_one 9 rfl (by kernel_rfl) ?_
          refine Al_append rfl rfl rfl (by decide) (by kernel_rfl) elem65 (by decide) Tryz.sizeOf34 rfl rfl rfl (by simp; omega) (by decide) (fun g38 => ?_)
          refine Al_nil ?_
          refine Ad_one 10 rfl (by kernel_rfl) ?_
          refine Al_frz hnl (k := 9) [38] rfl ⟨rfl, trivial⟩ ?_
          refine Al_p (Pu_build (aa := [(0, _), (1, _), (2, _)]) rfl Tryz.underlying103 Tryz.zeroValue103 (places103 Tryz.underlying103) (by kernel_rfl) ⟨rfl, rfl, rfl, rfl, rfl, rfl, rfl, rfl, rfl, trivial⟩ rfl) ?_
          refine Al_nil ?_
          refine Ad_one 11 rfl (by kernel_rfl) ?_
          refine Al_storeN rfl rfl rfl (by kernel_rfl) Tryz.isAgg103 Tryz.sizeOf103 rfl rfl rfl rfl (Nat.le_of_ble_eq_true rfl) ?_
          refine Al_nil ?_
          refine Ad_done (by kernel_rfl) ?_
          try refine Aw_boxle (k := 6) [.d (tv (default : Ver).key), .d (tv (default : Ver).value), .d (bv (default : Ver).gone), .d (iv (default : Ver).n), .d (iv (default : Ver).s), .d (.sl 3 ((default : Ver).past.map Dep.row)), .d (versA l), .d (bv false)] rfl ⟨Sub.rfl, Sub.rfl, Sub.rfl, Sub.rfl, Sub.rfl, Sub.nil, Sub.rfl, Sub.rfl, trivial⟩ ?_
          refine Aw_ret ?_
          exact ⟨_, _, _, _, _, [_, _, _, _, _, _, _, _], rfl, rfl, rfl, rfl, by first | exact got_yes hk e2 e3 | exact got_no e2 e3⟩ -- ret 0
        · refine Al_p (Pu_add rfl rfl rfl (fun h1 h2 => by simp only [A.inI, A.maxI] at *; omega)) ?_
          refine Al_nil ?_
          refine Ad_two 3 8 rfl rfl (by kernel_rfl) ?_ ?_
          · refine Al_p (Pu_loadN rfl Tryz.isAgg34 Tryz.sizeOf34 rfl (Nat.le_of_ble_eq_true rfl)) ?_
            refine Al_nil ?_
            refine Ad_one 8 rfl (by kernel_rfl) ?_
            refine Al_p (Pu_subL (k + 1) (l.length) rfl Tryz.underlying65 Tryz.sizeOf34 rfl ⟨_, rfl, rfl⟩ ((List.length_map ..).symm) ⟨by first | omega | (rw [List.length_map]; omega), by first | omega | (rw [List.length_map]; omega)⟩) ?_
            refine Al_nil ?_
            refine Ad_one 9 rfl (by kernel_rfl) ?_
            refine Al_append rfl rfl rfl (by decide) (by kernel_rfl) elem65 (by decide) Tryz.sizeOf34 rfl rfl rfl (by simp; omega) (by decide) (fun g38 => ?_)
            refine Al_nil ?_
            refine Ad_one 10 rfl (by kernel_rfl) ?_
            refine Al_frz hnl (k := 9) [38] rfl ⟨rfl, trivial⟩ ?_
            refine Al_p (Pu_build (aa := [(0, _), (1, _), (2, _)]) rfl Tryz.underlying103 Tryz.zeroValue103 (places103 Tryz.underlying103) (by kernel_rfl) ⟨rfl, rfl, rfl, rfl, rfl, rfl, rfl, rfl, rfl, trivial⟩ rfl) ?_
            refine Al_nil ?_
            refine Ad_one 11 rfl (by kernel_rfl) ?_
            refine Al_storeN rfl rfl rfl (by kernel_rfl) Tryz.isAgg103 Tryz.sizeOf103 rfl rfl rfl rfl (Nat.le_of_ble_eq_true rfl) ?_
            refine Al_nil ?_
            refine Ad_done (by kernel_rfl) ?_
            try refine Aw_boxle (k := 6) [.d (tv (default : Ver).key), .d (tv (default : Ver).value), .d (bv (default : Ver).gone), .d (iv (default : Ver).n), .d (iv (default : Ver).s), .d (.sl 3 ((default : Ver).past.map Dep.row)), .d (versA l), .d (bv false)] rfl ⟨Sub.rfl, Sub.rfl, Sub.rfl, Sub.rfl, Sub.rfl, Sub.nil, Sub.rfl, Sub.rfl, trivial⟩ ?_
            refine Aw_ret ?_
            exact ⟨_, _, _, _, _, [_, _, _, _, _, _, _, _], rfl, rfl, rfl, rfl, by first | exact got_yes hk e2 e3 | exact got_no e2 e3⟩ -- ret 1
          · refine Al_p (Pu_subL (k + 1) (l.length) rfl Tryz.underlying65 Tryz.sizeOf34 rfl ⟨_, rfl, rfl⟩ ((List.length_map ..).symm) ⟨by first | omega | (rw [List.length_map]; omega), by first | omega | (rw [List.length_map]; omega)⟩) ?_
            refine Al_nil ?_
            refine Ad_two 3 9 rfl rfl (by kernel_rfl) ?_ ?_
            · refine Al_p (Pu_loadN rfl Tryz.isAgg34 Tryz.sizeOf34 rfl (Nat.le_of_ble_eq_true rfl)) ?_
              refine Al_nil ?_
              refine Ad_one 9 rfl (by kernel_rfl) ?_
              refine Al_append rfl rfl rfl (by decide) (by kernel_rfl) elem65 (by decide) Tryz.sizeOf34 rfl rfl rfl (by simp; omega) (by decide) (fun g38 => ?_)
              refine Al_nil ?_
              refine Ad_one 10 rfl (by kernel_rfl) ?_
              refine Al_frz hnl (k := 9) [38] rfl ⟨rfl, trivial⟩ ?_
              refine Al_p (Pu_build (aa := [(0, _), (1, _), (2, _)]) rfl Tryz.underlying103 Tryz.zeroValue103 (places103 Tryz.underlying103) (by kernel_rfl) ⟨rfl, rfl, rfl, rfl, rfl, rfl, rfl, rfl, rfl, trivial⟩ rfl) ?_
              refine Al_nil ?_
              refine Ad_one 11 rfl (by kernel_rfl) ?_
              refine Al_storeN rfl rfl rfl (by kernel_rfl) Tryz.isAgg103 Tryz.sizeOf103 rfl rfl rfl rfl (Nat.le_of_ble_eq_true rfl) ?_
              refine Al_nil ?_
              refine Ad_done (by kernel_rfl) ?_
              try refine Aw_boxle (k := 6) [.d (tv (default : Ver).key), .d (tv (default : Ver).value), .d (bv (default : Ver).gone), .d (iv (default : Ver).n), .d (iv (default : Ver).s), .d (.sl 3 ((default : Ver).past.map Dep.row)), .d (versA l), .d (bv false)] rfl ⟨Sub.rfl, Sub.rfl, Sub.rfl, Sub.rfl, Sub.rfl, Sub.nil, Sub.rfl, Sub.rfl, trivial⟩ ?_
              refine Aw_ret ?_
              exact ⟨_, _, _, _, _, [_, _, _, _, _, _, _, _], rfl, rfl, rfl, rfl, by first | exact got_yes hk e2 e3 | exact got_no e2 e3⟩ -- ret 2
            · refine Al_append rfl rfl rfl (by decide) (by kernel_rfl) elem65 (by decide) Tryz.sizeOf34 rfl rfl rfl (by simp; omega) (by decide) (fun g38 => ?_)
              refine Al_nil ?_
              refine Ad_one 3 rfl (by kernel_rfl) ?_
              refine Al_p (Pu_loadN rfl Tryz.isAgg34 Tryz.sizeOf34 rfl (Nat.le_of_ble_eq_true rfl)) ?_
              refine Al_nil ?_
              refine Ad_one 10 rfl (by kernel_rfl) ?_
              refine Al_frz hnl (k := 9) [38] rfl ⟨rfl, trivial⟩ ?_
              refine Al_p (Pu_build (aa := [(0, _), (1, _), (2, _)]) rfl Tryz.underlying103 Tryz.zeroValue103 (places103 Tryz.underlying103) (by kernel_rfl) ⟨rfl, rfl, rfl, rfl, rfl, rfl, rfl, rfl, rfl, trivial⟩ rfl) ?_
              refine Al_nil ?_
              refine Ad_one 11 rfl (by kernel_rfl) ?_
              refine Al_storeN rfl rfl rfl (by kernel_rfl) Tryz.isAgg103 Tryz.sizeOf103 rfl rfl rfl rfl (Nat.le_of_ble_eq_true rfl) ?_
              refine Al_nil ?_
              refine Ad_done (by kernel_rfl) ?_
              try refine Aw_boxle (k := 6) [.d (tv (default : Ver).key), .d (tv (default : Ver).value), .d (bv (default : Ver).gone), .d (iv (default : Ver).n), .d (iv (default : Ver).s), .d (.sl 3 ((default : Ver).past.map Dep.row)), .d (versA l), .d (bv false)] rfl ⟨Sub.rfl, Sub.rfl, Sub.rfl, Sub.rfl, Sub.rfl, Sub.nil, Sub.rfl, Sub.rfl, trivial⟩ ?_
              refine Aw_ret ?_
              exact ⟨_, _, _, _, _, [_, _, _, _, _, _, _, _], rfl, rfl, rfl, rfl, by first | exact got_yes hk e2 e3 | exact got_no e2 e3⟩ -- ret 3
      · refine Al_p (Pu_add rfl rfl rfl (fun h1 h2 => by simp only [A.inI, A.maxI] at *; omega)) ?_
        refine Al_nil ?_
        refine Ad_two 2 8 rfl rfl (by kernel_rfl) ?_ ?_
        · refine Al_p (Pu_index rfl Tryz.underlying65 Tryz.sizeOf34 rfl rfl (rfl) (mapgetD (d := default) hk)) ?_
          refine Al_nil ?_
          refine Ad_two 3 8 rfl rfl (by kernel_rfl) ?_ ?_
          · refine Al_p (Pu_loadN rfl Tryz.isAgg34 Tryz.sizeOf34 rfl (Nat.le_of_ble_eq_true rfl)) ?_
            refine Al_nil ?_
            refine Ad_one 8 rfl (by kernel_rfl) ?_
            refine Al_p (Pu_subL (k + 1) (l.length) rfl Tryz.underlying65 Tryz.sizeOf34 rfl ⟨_, rfl, rfl⟩ ((List.length_map ..).symm) ⟨by first | omega | (rw [List.length_map]; omega), by first | omega | (rw [List.length_map]; omega)⟩) ?_
            refine Al_nil ?_
            refine Ad_one 9 rfl (by kernel_rfl) ?_
            refine Al_append rfl rfl rfl (by decide) (by kernel_rfl) elem65 (by decide) Tryz.sizeOf34 rfl rfl rfl (by simp; omega) (by decide) (fun g38 => ?_)
            refine Al_nil ?_
            refine Ad_one 10 rfl (by kernel_rfl) ?_
            refine Al_frz hnl (k := 9) [38] rfl ⟨rfl, trivial⟩ ?_
            refine Al_p (Pu_build (aa := [(0, _), (1, _), (2, _)]) rfl Tryz.underlying103 Tryz.zeroValue103 (places103 Tryz.underlying103) (by kernel_rfl) ⟨rfl, rfl, rfl, rfl, rfl, rfl, rfl, rfl, rfl, trivial⟩ rfl) ?_
            refine Al_nil ?_
            refine Ad_one 11 rfl (by kernel_rfl) ?_
            refine Al_storeN rfl rfl rfl (by kernel_rfl) Tryz.isAgg103 Tryz.sizeOf103 rfl rfl rfl rfl (Nat.le_of_ble_eq_true rfl) ?_
            refine Al_nil ?_
            refine Ad_done (by kernel_rfl) ?_
            try refine Aw_boxle (k := 6) [.d (tv (default : Ver).key), .d (tv (default : Ver).value), .d (bv (default : Ver).gone), .d (iv (default : Ver).n), .d (iv (default : Ver).s), .d (.sl 3 ((default : Ver).past.map Dep.row)), .d (versA l), .d (bv false)] rfl ⟨Sub.rfl, Sub.rfl, Sub.rfl, Sub.rfl, Sub.rfl, Sub.nil, Sub.rfl, Sub.rfl, trivial⟩ ?_
            refine Aw_ret ?_
            exact ⟨_, _, _, _, _, [_, _, _, _, _, _, _, _], rfl, rfl, rfl, rfl, by first | exact got_yes hk e2 e3 | exact got_no e2 e3⟩ -- ret 4
          · refine Al_p (Pu_subL (k + 1) (l.length) rfl Tryz.underlying65 Tryz.sizeOf34 rfl ⟨_, rfl, rfl⟩ ((List.length_map ..).symm) ⟨by first | omega | (rw [List.length_map]; omega), by first | omega | (rw [List.length_map]; omega)⟩) ?_
            refine Al_nil ?_
            refine Ad_two 3 9 rfl rfl (by kernel_rfl) ?_ ?_
            · refine Al_p (Pu_loadN rfl Tryz.isAgg34 Tryz.sizeOf34 rfl (Nat.le_of_ble_eq_true rfl)) ?_
              refine Al_nil ?_
              refine Ad_one 9 rfl (by kernel_rfl) ?_
              refine Al_append rfl rfl rfl (by decide) (by kernel_rfl) elem65 (by decide) Tryz.sizeOf34 rfl rfl rfl (by simp; omega) (by decide) (fun g38 => ?_)
              refine Al_nil ?_
              refine Ad_one 10 rfl (by kernel_rfl) ?_
              refine Al_frz hnl (k := 9) [38] rfl ⟨rfl, trivial⟩ ?_
              refine Al_p (Pu_build (aa := [(0, _), (1, _), (2, _)]) rfl Tryz.underlying103 Tryz.zeroValue103 (places103 Tryz.underlying103) (by kernel_rfl) ⟨rfl, rfl, rfl, rfl, rfl, rfl, rfl, rfl, rfl, trivial⟩ rfl) ?_
              refine Al_nil ?_
              refine Ad_one 11 rfl (by kernel_rfl) ?_
              refine Al_storeN rfl rfl rfl (by kernel_rfl) Tryz.isAgg103 Tryz.sizeOf103 rfl rfl rfl rfl (Nat.le_of_ble_eq_true rfl) ?_
              refine Al_nil ?_
              refine Ad_done (by kernel_rfl) ?_
              try refine Aw_boxle (k := 6) [.d (tv (default : Ver).key), .d (tv (default : Ver).value), .d (bv (default : Ver).gone), .d (iv (default : Ver).n), .d (iv (default : Ver).s), .d (.sl 3 ((default : Ver).past.map Dep.row)), .d (versA l), .d (bv false)] rfl ⟨Sub.rfl, Sub.rfl, Sub.rfl, Sub.rfl, Sub.rfl, Sub.nil, Sub.rfl, Sub.rfl, trivial⟩ ?_
              refine Aw_ret ?_
              exact ⟨_, _, _, _, _, [_, _, _, _, _, _, _, _], rfl, rfl, rfl, rfl, by first | exact got_yes hk e2 e3 | exact got_no e2 e3⟩ -- ret 5
            · refine Al_append rfl rfl rfl (by decide) (by kernel_rfl) elem65 (by decide) Tryz.sizeOf34 rfl rfl rfl (by simp; omega) (by decide) (fun g38 => ?_)
              refine Al_nil ?_
              refine Ad_one 3 rfl (by kernel_rfl) ?_
              refine Al_p (Pu_loadN rfl Tryz.isAgg34 Tryz.sizeOf34 rfl (Nat.le_of_ble_eq_true rfl)) ?_
              refine Al_nil ?_
              refine Ad_one 10 rfl (by kernel_rfl) ?_
              refine Al_frz hnl (k := 9) [38] rfl ⟨rfl, trivial⟩ ?_
              refine Al_p (Pu_build (aa := [(0, _), (1, _), (2, _)]) rfl Tryz.underlying103 Tryz.zeroValue103 (places103 Tryz.underlying103) (by kernel_rfl) ⟨rfl, rfl, rfl, rfl, rfl, rfl, rfl, rfl, rfl, trivial⟩ rfl) ?_
              refine Al_nil ?_
              refine Ad_one 11 rfl (by kernel_rfl) ?_
              refine Al_storeN rfl rfl rfl (by kernel_rfl) Tryz.isAgg103 Tryz.sizeOf103 rfl rfl rfl rfl (Nat.le_of_ble_eq_true rfl) ?_
              refine Al_nil ?_
              refine Ad_done (by kernel_rfl) ?_
              try refine Aw_boxle (k := 6) [.d (tv (default : Ver).key), .d (tv (default : Ver).value), .d (bv (default : Ver).gone), .d (iv (default : Ver).n), .d (iv (default : Ver).s), .d (.sl 3 ((default : Ver).past.map Dep.row)), .d (versA l), .d (bv false)] rfl ⟨Sub.rfl, Sub.rfl, Sub.rfl, Sub.rfl, Sub.rfl, Sub.nil, Sub.rfl, Sub.rfl, trivial⟩ ?_
              refine Aw_ret ?_
              exact ⟨_, _, _, _, _, [_, _, _, _, _, _, _, _], rfl, rfl, rfl, rfl, by first | exact got_yes hk e2 e3 | exact got_no e2 e3⟩ -- ret 6
        · refine Al_p (Pu_subL (k + 1) (l.length) rfl Tryz.underlying65 Tryz.sizeOf34 rfl ⟨_, rfl, rfl⟩ ((List.length_map ..).symm) ⟨by first | omega | (rw [List.length_map]; omega), by first | omega | (rw [List.length_map]; omega)⟩) ?_
          refine Al_nil ?_
          refine Ad_two 2 9 rfl rfl (by kernel_rfl) ?_ ?_
          · refine Al_p (Pu_index rfl Tryz.underlying65 Tryz.sizeOf34 rfl rfl (rfl) (mapgetD (d := default) hk)) ?_
            refine Al_nil ?_
            refine Ad_two 3 9 rfl rfl (by kernel_rfl) ?_ ?_
            · refine Al_p (Pu_loadN rfl Tryz.isAgg34 Tryz.sizeOf34 rfl (Nat.le_of_ble_eq_true rfl)) ?_
              refine Al_nil ?_
              refine Ad_one 9 rfl (by kernel_rfl) ?_
              refine Al_append rfl rfl rfl (by decide) (by kernel_rfl) elem65 (by decide) Tryz.sizeOf34 rfl rfl rfl (by simp; omega) (by decide) (fun g38 => ?_)
              refine Al_nil ?_
              refine Ad_one 10 rfl (by kernel_rfl) ?_
              refine Al_frz hnl (k := 9) [38] rfl ⟨rfl, trivial⟩ ?_
              refine Al_p (Pu_build (aa := [(0, _), (1, _), (2, _)]) rfl Tryz.underlying103 Tryz.zeroValue103 (places103 Tryz.underlying103) (by kernel_rfl) ⟨rfl, rfl, rfl, rfl, rfl, rfl, rfl, rfl, rfl, trivial⟩ rfl) ?_
              refine Al_nil ?_
              refine Ad_one 11 rfl (by kernel_rfl) ?_
              refine Al_storeN rfl rfl rfl (by kernel_rfl) Tryz.isAgg103 Tryz.sizeOf103 rfl rfl rfl rfl (Nat.le_of_ble_eq_true rfl) ?_
              refine Al_nil ?_
              refine Ad_done (by kernel_rfl) ?_
              try refine Aw_boxle (k := 6) [.d (tv (default : Ver).key), .d (tv (default : Ver).value), .d (bv (default : Ver).gone), .d (iv (default : Ver).n), .d (iv (default : Ver).s), .d (.sl 3 ((default : Ver).past.map Dep.row)), .d (versA l), .d (bv false)] rfl ⟨Sub.rfl, Sub.rfl, Sub.rfl, Sub.rfl, Sub.rfl, Sub.nil, Sub.rfl, Sub.rfl, trivial⟩ ?_
              refine Aw_ret ?_
              exact ⟨_, _, _, _, _, [_, _, _, _, _, _, _, _], rfl, rfl, rfl, rfl, by first | exact got_yes hk e2 e3 | exact got_no e2 e3⟩ -- ret 7
            · refine Al_append rfl rfl rfl (by decide) (by kernel_rfl) elem65 (by decide) Tryz.sizeOf34 rfl rfl rfl (by simp; omega) (by decide) (fun g38 => ?_)
              refine Al_nil ?_
              refine Ad_one 3 rfl (by kernel_rfl) ?_
              refine Al_p (Pu_loadN rfl Tryz.isAgg34 Tryz.sizeOf34 rfl (Nat.le_of_ble_eq_true rfl)) ?_
              refine Al_nil ?_
              refine Ad_one 10 rfl (by kernel_rfl) ?_
              refine Al_frz hnl (k := 9) [38] rfl ⟨rfl, trivial⟩ ?_
              refine Al_p (Pu_build (aa := [(0, _), (1, _), (2, _)]) rfl Tryz.underlying103 Tryz.zeroValue103 (places103 Tryz.underlying103) (by kernel_rfl) ⟨rfl, rfl, rfl, rfl, rfl, rfl, rfl, rfl, rfl, trivial⟩ rfl) ?_
              refine Al_nil ?_
              refine Ad_one 11 rfl (by kernel_rfl) ?_
              refine Al_storeN rfl rfl rfl (by kernel_rfl) Tryz.isAgg103 Tryz.sizeOf103 rfl rfl rfl rfl (Nat.le_of_ble_eq_true rfl) ?_
              refine Al_nil ?_
              refine Ad_done (by kernel_rfl) ?_
              try refine Aw_boxle (k := 6) [.d (tv (default : Ver).key), .d (tv (default : Ver).value), .d (bv (default : Ver).gone), .d (iv (default : Ver).n), .d (iv (default : Ver).s), .d (.sl 3 ((default : Ver).past.map Dep.row)), .d (versA l), .d (bv false)] rfl ⟨Sub.rfl, Sub.rfl, Sub.rfl, Sub.rfl, Sub.rfl, Sub.nil, Sub.rfl, Sub.rfl, trivial⟩ ?_
              refine Aw_ret ?_
              exact ⟨_, _, _, _, _, [_, _, _, _, _, _, _, _], rfl, rfl, rfl, rfl, by first | exact got_yes hk e2 e3 | exact got_no e2 e3⟩ -- ret 8
          · refine Al_append rfl rfl rfl (by decide) (by kernel_rfl) elem65 (by decide) Tryz.sizeOf34 rfl rfl rfl (by simp; omega) (by decide) (fun g38 => ?_)
            refine Al_nil ?_
            refine Ad_one 2 rfl (by kernel_rfl) ?_
            refine Al_p (Pu_index rfl Tryz.underlying65 Tryz.sizeOf34 rfl rfl (rfl) (mapgetD (d := default) hk)) ?_
            refine Al_nil ?_
            refine Ad_one 3 rfl (by kernel_rfl) ?_
            refine Al_p (Pu_loadN rfl Tryz.isAgg34 Tryz.sizeOf34 rfl (Nat.le_of_ble_eq_true rfl)) ?_
            refine Al_nil ?_
            refine Ad_one 10 rfl (by kernel_rfl) ?_
            refine Al_frz hnl (k := 9) [38] rfl ⟨rfl, trivial⟩ ?_
            refine Al_p (Pu_build (aa := [(0, _), (1, _), (2, _)]) rfl Tryz.underlying103 Tryz.zeroValue103 (places103 Tryz.underlying103) (by kernel_rfl) ⟨rfl, rfl, rfl, rfl, rfl, rfl, rfl, rfl, rfl, trivial⟩ rfl) ?_
            refine Al_nil ?_
            refine Ad_one 11 rfl (by kernel_rfl) ?_
            refine Al_storeN rfl rfl rfl (by kernel_rfl) Tryz.isAgg103 Tryz.sizeOf103 rfl rfl rfl rfl (Nat.le_of_ble_eq_true rfl) ?_
            refine Al_nil ?_
            refine Ad_done (by kernel_rfl) ?_
            try refine Aw_boxle (k := 6) [.d (tv (default : Ver).key), .d (tv (default : Ver).value), .d (bv (default : Ver).gone), .d (iv (default : Ver).n), .d (iv (default : Ver).s), .d (.sl 3 ((default : Ver).past.map Dep.row)), .d (versA l), .d (bv false)] rfl ⟨Sub.rfl, Sub.rfl, Sub.rfl, Sub.rfl, Sub.rfl, Sub.nil, Sub.rfl, Sub.rfl, trivial⟩ ?_
            refine Aw_ret ?_
            exact ⟨_, _, _, _, _, [_, _, _, _, _, _, _, _], rfl, rfl, rfl, rfl, by first | exact got_yes hk e2 e3 | exact got_no e2 e3⟩ -- ret 9
    · (try simp only [decide_eq_true_eq, decide_eq_false_iff_not, Bool.and_eq_true, Bool.or_eq_true, Bool.and_eq_false_iff, Bool.or_eq_false_iff, Bool.not_eq_true', Bool.not_eq_false', beq_iff_eq, Bool.not_eq_eq_eq_not, Bool.not_true, Bool.not_false, List.length_map, Bool.and_true, Bool.and_false, Bool.false_and, Bool.true_and, Bool.or_false, Bool.false_or] at h23)
      refine Aw_skip (Aw_region ?_)
      refine Al_p Pu_mvl ?_
      refine Al_p (Pu_add rfl rfl rfl (fun h1 h2 => by simp only [A.inI, A.maxI] at *; omega)) ?_
      refine Al_p Pu_mvr ?_
      refine Al_nil ?_
      exact ⟨k + 1, ⟨by omega, fun j hj => by
        rcases Nat.lt_succ_iff_lt_or_eq.1 hj with h | rfl
        · exact hno j h
        · exact h23⟩, by omega, Le.ov ⟨Sub.num (by omega), trivial⟩ ⟨Sub.rfl, Sub.rfl, Sub.rfl, Sub.rfl, trivial⟩ trivial ⟨rfl, trivial⟩⟩ -- loop 0 next.0
  · (try simp only [decide_eq_true_eq, decide_eq_false_iff_not, Bool.and_eq_true, Bool.or_eq_true, Bool.and_eq_false_iff, Bool.or_eq_false_iff, Bool.not_eq_true', Bool.not_eq_false', beq_iff_eq, Bool.not_eq_eq_eq_not, Bool.not_true, Bool.not_false, List.length_map, Bool.and_true, Bool.and_false, Bool.false_and, Bool.true_and, Bool.or_false, Bool.false_or] at h13)
    obtain ⟨e2, e3⟩ := J.next_no (l := l) (hv := hv) (own := own) fun j hj => hno j (by omega)
    refine Aw_exit (Aw_seq (Aw_region ?_))
    refine Al_p Pu_mvl ?_
    refine Al_p (Pu_build (aa := [(1, _)]) rfl Tryz.underlying103 Tryz.zeroValue103 (places103 Tryz.underlying103) (by kernel_rfl) ⟨rfl, rfl, rfl, trivial⟩ rfl) ?_
    refine Al_storeN rfl rfl rfl (by kernel_rfl) Tryz.isAgg103 Tryz.sizeOf103 rfl rfl rfl rfl (Nat.le_of_ble_eq_true rfl) ?_
    refine Al_nil ?_
    try refine Aw_boxle (k := 6) [.d (tv (default : Ver).key), .d (tv (default : Ver).value), .d (bv (default : Ver).gone), .d (iv (default : Ver).n), .d (iv (default : Ver).s), .d (.sl 3 ((default : Ver).past.map Dep.row)), .d (versA l), .d (bv false)] rfl ⟨Sub.rfl, Sub.rfl, Sub.rfl, Sub.rfl, Sub.rfl, Sub.nil, Sub.rfl, Sub.rfl, trivial⟩ ?_
    refine Aw_ret ?_
    exact ⟨_, _, _, _, _, [_, _, _, _, _, _, _, _], rfl, rfl, rfl, rfl, by first | exact got_yes hk e2 e3 | exact got_no e2 e3⟩ -- ret 10
end Go.Proofs.YtmbaeloiepjakaaGreat
end

section
set_option maxRecDepth 100000
namespace Go.Proofs.YtmbaeloiepjakaaGreat
open Go.RowKit A R
open A.RowT
/-- The reference's site: its number, its shard, what waits, its clock. -/
abbrev RT (p : PS) (o : Nat) : Obs := [(1001, .box 68 [.d (iv p.id), .bx 1002 0 0, .d (versA p.wait), .d (iv p.n), .d (iv p.s)]), (1002, .box 76 [.d (rngA p.rs), .ow o 0]), (o, .arr 108 2 (p.cs.map chR))]
theorem RT_in (p : PS) : ObsIn [1001, 1002, 1003] (RT p 1003) := ⟨rfl, rfl, trivial, trivial⟩
/-- What holds of it. -/
structure PS.Rk (p : PS) (m : Nat) : Prop where
  ok : p.Ok m
  ch : J.Chns p.cs
def PS.thereK (p : PS) (v : Ver) (k : Nat) : Bool := (J.sat p.cs v.key v.n v.s).isSome || (p.wait.take k).any (PS.isW v)
section
variable (p : PS)
theorem rtOwns_g (key : ByteArray) (hrl : p.rs.length ≤ 1000000) : GCall Tryz.prog 59 [.bx 1001 0 0, .d (tv key)] (RT p 1003) (some (RT p 1003, .d (bv (decide (0 ≤ findR p.rs key))))) := by
  refine GCall_enterL (fun _ _ => by kernel_rfl) Tryz.func59 rfl Tryz.ntmps59 (ReadsS.r1 Tryz.results59) (Nat.le_of_ble_eq_true rfl) (fun hok hokB M0 w0 hl => ?_)
  refine Aw_seq (Aw_region ?_)
  refine Al_p Pu_mvr ?_
  refine Al_nil (Aw_seq (Aw_region ?_))
  refine Al_p Pu_mvl ?_
  refine Al_p (Pu_nilb rfl rfl) ?_
  refine Al_p (Pu_fieldb 1 rfl Tryz.underlying68 rfl rfl Tryz.sizeOf66 rfl) ?_
  refine Al_p (Pu_loadb rfl Tryz.isAgg66 rfl rfl rfl) ?_
  refine Al_p (Pu_nilb rfl rfl) ?_
  refine Al_p (Pu_fieldb 0 rfl Tryz.underlying76 rfl rfl Tryz.sizeOf26 rfl) ?_
  refine Al_p (Pu_loadb rfl Tryz.isAgg26 rfl rfl rfl) ?_
  refine Al_p Pu_mvl ?_
  refine Al_p (Pu_call (rfind_a p.rs key hrl) rfl ⟨Sub.rfl, Sub.rfl, trivial⟩) ?_
  refine Al_p (Pu_cmp rfl rfl rfl rfl) ?_
  refine Al_p Pu_mvr ?_
  refine Al_nil ?_
  refine Aw_ret ?_
  exact ⟨_, _, [], rfl, Sub.rfl, ⟨rfl, rfl, rfl, trivial⟩, rfl⟩ -- ret 0
theorem rtRead_g (key : ByteArray) {m : Nat} (hp : p.Rk m) (hm : m ≤ 1000) : GCall Tryz.prog 36 [.bx 1001 0 0, .d (tv key)] (RT p 1003) (some (RT p 1003, .d (.tup [.row ((p.readV key).getD default).row, iv (p.readE key)]))) := by
  refine GCall_enterL (fun _ _ => by kernel_rfl) Tryz.func36 rfl Tryz.ntmps36 (ReadsS.cN1 Tryz.results36 Tryz.isAgg34 Tryz.sizeOf34) (Nat.le_of_ble_eq_true rfl) (fun hok hokB M0 w0 hl => ?_)
  have hcl : p.cs.length ≤ 1000 := (hp.ok.sm.mono hm).1
  refine Aw_seq (Aw_region ?_)
  refine Al_alloc rfl rfl rfl (by decide) Tryz.zeroValue34 rfl (by kernel_rfl) (fun g4 => ?_)
  refine Al_p Pu_mvr ?_
  refine Al_nil (Aw_seq (Aw_region ?_))
  refine Al_p Pu_mvl ?_
  refine Al_p Pu_mvl ?_
  refine Al_p (Pu_gcall [(1001, 1001, 0), (1002, 1002, 0), (1003, 1003, 0)] (rtOwns_g p key hp.ok.rl) (RT_in ..) rfl ⟨rfl, rfl, rfl, trivial⟩ rfl ⟨Sub.rfl, Sub.rfl, trivial⟩) ?_
  refine Al_p Pu_mvr ?_
  refine Al_nil (Aw_seq (Aw_seq (Aw_region ?_)))
  refine Al_p Pu_mvl ?_
  refine Al_p (Pu_not rfl rfl) ?_
  refine Al_nil ?_
  refine Aw_cond rfl (fun h13 => ?_) (fun h13 => ?_)
  · skip
    have h0 : findR p.rs key < 0 := by simpa using h13
    have e1 : p.readV key = none := by unfold PS.readV; rw [if_pos h0]
    have e2 : p.readE key = 14 := by unfold PS.readE; rw [if_pos h0]
    refine Aw_seq (Aw_region ?_)
    refine Al_p (Pu_build (aa := []) rfl Tryz.underlying34 Tryz.zeroValue34 (places34 Tryz.underlying34) (by kernel_rfl) trivial rfl) ?_
    refine Al_storeN rfl rfl rfl (by kernel_rfl) Tryz.isAgg34 Tryz.sizeOf34 rfl rfl rfl rfl (Nat.le_of_ble_eq_true rfl) ?_
    refine Al_p Pu_mvr ?_
    refine Al_nil ?_
    rw [e1, e2]
    refine Aw_boxle (k := 4) ((default : Ver).row.map .d) rfl ⟨Sub.rfl, Sub.rfl, Sub.rfl, Sub.rfl, Sub.rfl, Sub.nil, trivial⟩ ?_
    refine Aw_ret ?_
    exact ⟨_, _, [], rfl, ⟨_, rfl, _, _, _, _, _, [_, _, _, _, _, _], _, rfl, rfl, rfl, rfl, Sub.rfl, rfl⟩, ⟨rfl, rfl, rfl, trivial⟩, rfl⟩ -- ret 0
  · skip
    have h0 : ¬ findR p.rs key < 0 := by simpa using h13
    have e1 : p.readV key = J.shead p.cs key := by unfold PS.readV; rw [if_neg h0]
    have e2 : p.readE key = 0 := by unfold PS.readE; rw [if_neg h0]
    refine Aw_skip (Aw_seq (Aw_region ?_))
    refine Al_p Pu_mvl ?_
    refine Al_p (Pu_nilb rfl rfl) ?_
    refine Al_p (Pu_fieldb 1 rfl Tryz.underlying68 rfl rfl Tryz.sizeOf66 rfl) ?_
    refine Al_p (Pu_loadb rfl Tryz.isAgg66 rfl rfl rfl) ?_
    refine Al_p Pu_mvl ?_
    refine Al_p (Pu_gcall [(1001, 1002, 0), (1002, 1003, 0)] (rof13_g p.rs p.cs key hcl) (RH_in ..) rfl ⟨rfl, rfl, trivial⟩ rfl ⟨Sub.rfl, Sub.rfl, trivial⟩) ?_
    refine Al_p (Pu_call (rhead12_a (J.getC p.cs key)) rfl ⟨Sub.rfl, trivial⟩) ?_
    refine Al_p Pu_mvl ?_
    refine Al_p (Pu_extract rfl rfl rfl) ?_
    refine Al_p (Pu_extract rfl rfl rfl) ?_
    refine Al_alloc rfl rfl rfl (by decide) Tryz.zeroValue34 rfl (by kernel_rfl) (fun g7 => ?_)
    refine Al_storeN rfl rfl rfl (by kernel_rfl) Tryz.isAgg34 Tryz.sizeOf34 rfl rfl rfl rfl (Nat.le_of_ble_eq_true rfl) ?_
    refine Al_p Pu_mvr ?_
    refine Al_nil (Aw_seq (Aw_region ?_))
    refine Al_p (Pu_loadbN (r := [_, _, _, _, _, _]) rfl Tryz.isAgg34 Tryz.sizeOf34 rfl rfl rfl rfl) ?_
    refine Al_storeN rfl rfl rfl (by kernel_rfl) Tryz.isAgg34 Tryz.sizeOf34 rfl rfl rfl rfl (Nat.le_of_ble_eq_true rfl) ?_
    refine Al_p Pu_mvr ?_
    refine Al_nil ?_
    rw [e1, e2]
    refine Aw_ret ?_
    exact ⟨_, _, [], rfl, ⟨_, rfl, _, _, _, _, _, [_, _, _, _, _, _], _, rfl, rfl, rfl, rfl, Sub.rfl, rfl⟩, ⟨rfl, rfl, rfl, trivial⟩, rfl⟩ -- ret 1
theorem rtNew_g (k : Int) (rs : List Rng) : GCall Tryz.prog 28 [.d (iv k), .d (rngA rs)] [] (some (RT (PS.zero k rs) 1003, .bx 1001 0 0)) := by
  refine GCall_enterL (fun _ _ => by kernel_rfl) Tryz.func28 rfl Tryz.ntmps28 (ReadsS.r1 Tryz.results28) (Nat.le_of_ble_eq_true rfl) (fun hok hokB M0 w0 hl => ?_)
  refine Aw_seq (Aw_region ?_)
  refine Al_p Pu_mvr ?_
  refine Al_nil (Aw_seq (Aw_region ?_))
  refine Al_p Pu_mvl ?_
  refine Al_p Pu_mvl ?_
  refine Al_p (Pu_build (aa := [(0, _)]) rfl Tryz.underlying76 Tryz.zeroValue76 (places76 Tryz.underlying76) (by kernel_rfl) ⟨rfl, rfl, rfl, trivial⟩ rfl) ?_
  refine Al_boxN rfl rfl rfl (by decide) (by kernel_rfl) rfl (fun g8 => ?_)
  refine Al_p (Pu_buildAg (aa := [(0, _), (1, _)]) rfl Tryz.underlying68 Tryz.zeroValue68 (places68 Tryz.underlying68) (by kernel_rfl) ⟨rfl, rfl, rfl, rfl, trivial⟩ rfl) ?_
  refine Al_boxAg rfl rfl rfl (by decide) (by kernel_rfl) rfl (fun g10 => ?_)
  refine Al_p Pu_mvr ?_
  refine Al_nil ?_
  refine Aw_owncell 1 (k := 8) (k2 := 80) (e := 108) (n := 2) rfl rfl rfl (fun g80 => ?_)
  refine Aw_boxle (k := 10) [.d (iv k), .bx 8 g8 0, .d (versA []), .d (iv 0), .d (iv 0)] rfl ⟨Sub.rfl, Sub.rfl, Sub.nil, Sub.rfl, Sub.rfl, trivial⟩ ?_
  refine Aw_ret ?_
  exact ⟨_, _, [(1001, 10, g10), (1002, 8, g8), (1003, 80, g80)], rfl, Sub.rfl, ⟨rfl, rfl, rfl, trivial⟩, rfl⟩ -- ret 0
set_option maxHeartbeats 1000000 in
theorem rtWrite_g (key value : ByteArray) (gone : Bool) (past : List Dep) {m : Nat} (hp : p.Rk m) (hm : m ≤ 1000) : GCall Tryz.prog 35 [.bx 1001 0 0, .d (tv key), .d (tv value), .d (bv gone), .d (.sl 3 (past.map Dep.row))] (RT p 1003) (some (RT (p.write key value gone past) 1004, .d (.tup [.row (p.writeV key value gone past).row, iv (p.writeE key value gone past)]))) := by
  refine GCall_enterL (fun _ _ => by kernel_rfl) Tryz.func35 rfl Tryz.ntmps35 (ReadsS.cN1 Tryz.results35 Tryz.isAgg34 Tryz.sizeOf34) (Nat.le_of_ble_eq_true rfl) (fun hok hokB M0 w0 hl => ?_)
  have hid := hp.ok.id
  have hpl := (hok (.sl 3 (past.map Dep.row)) (by simp)).len
  rw [List.length_map] at hpl
  refine Aw_seq (Aw_region ?_)
  refine Al_alloc rfl rfl rfl (by decide) Tryz.zeroValue34 rfl (by kernel_rfl) (fun g10 => ?_)
  refine Al_p Pu_mvr ?_
  refine Al_nil (Aw_seq (Aw_region ?_))
  refine Al_p Pu_mvl ?_
  refine Al_p Pu_mvl ?_
  refine Al_p (Pu_gcall [(1001, 1001, 0), (1002, 1002, 0), (1003, 1003, 0)] (rtOwns_g p key hp.ok.rl) (RT_in ..) rfl ⟨rfl, rfl, rfl, trivial⟩ rfl ⟨Sub.rfl, Sub.rfl, trivial⟩) ?_
  refine Al_p Pu_mvr ?_
  refine Al_nil (Aw_seq (Aw_seq (Aw_region ?_)))
  refine Al_p Pu_mvl ?_
  refine Al_p (Pu_not rfl rfl) ?_
  refine Al_nil ?_
  refine Aw_cond rfl (fun h23 => ?_) (fun h23 => ?_)
  · skip
    have h0 : findR p.rs key < 0 := by simpa using h23
    have e2 : p.writeE key value gone past = 14 := by unfold PS.writeE; rw [if_pos h0]
    have e1 : p.write key value gone past = p := by unfold PS.write; rw [e2, if_neg (by decide)]
    have e3 : p.writeV key value gone past = default := by unfold PS.writeV; rw [e2, if_neg (by decide)]
    refine Aw_seq (Aw_region ?_)
    refine Al_p (Pu_build (aa := []) rfl Tryz.underlying34 Tryz.zeroValue34 (places34 Tryz.underlying34) (by kernel_rfl) trivial rfl) ?_
    refine Al_storeN rfl rfl rfl (by kernel_rfl) Tryz.isAgg34 Tryz.sizeOf34 rfl rfl rfl rfl (Nat.le_of_ble_eq_true rfl) ?_
    refine Al_p Pu_mvr ?_
    refine Al_nil ?_
    rw [e1, e2, e3]
    try rw [e4]
    first
      | refine Aw_boxle (k := 10) ((default : Ver).row.map .d) rfl ⟨Sub.rfl, Sub.rfl, Sub.rfl, Sub.rfl, Sub.rfl, Sub.nil, trivial⟩ ?_
      | skip
    refine Aw_ret ?_
    first
      | exact ⟨_, _, [(1004, 1003, 0)], rfl, ⟨_, rfl, _, _, _, _, _, [_, _, _, _, _, _], _, rfl, rfl, rfl, rfl, Sub.rfl, rfl⟩, ⟨rfl, rfl, rfl, trivial⟩, rfl⟩
      | exact ⟨_, _, [(1004, 1030, g72)], rfl, ⟨_, rfl, _, _, _, _, _, [_, _, _, _, _, _], _, rfl, rfl, rfl, rfl, Sub.rfl, rfl⟩, ⟨rfl, rfl, rfl, trivial⟩, rfl⟩ -- ret 0
  · skip
    have h0 : ¬ findR p.rs key < 0 := by simpa using h23
    refine Aw_skip (Aw_seq (Aw_region ?_))
    refine Al_p Pu_mvl ?_
    refine Al_p (Pu_nilb rfl rfl) ?_
    refine Al_p (Pu_fieldb 3 rfl Tryz.underlying68 rfl rfl Tryz.sizeOf31 rfl) ?_
    refine Al_p (Pu_loadbN (r := [_, _]) rfl Tryz.isAgg31 Tryz.sizeOf31 rfl rfl rfl rfl) ?_
    refine Al_alloc rfl rfl rfl (by decide) Tryz.zeroValue31 rfl (by kernel_rfl) (fun g13 => ?_)
    refine Al_storeN rfl rfl rfl (by kernel_rfl) Tryz.isAgg31 Tryz.sizeOf31 rfl rfl rfl rfl (Nat.le_of_ble_eq_true rfl) ?_
    refine Al_nil (Aw_seq (Aw_seq (Aw_region ?_)))
    refine Al_p Pu_mvr ?_
    refine Al_nil (Aw_block ?_)
    refine Aw_loopk (ι := Nat) [0, 1, 2, 3, 4, 10, 13] [1001, 1002, 1003, 10] (fun k => [(14, .d (iv k))]) (fun k => [(13, g13, .box 31 [.d (iv (p.seen (past.take k)).1), .d (iv (p.seen (past.take k)).2)])]) (fun k => k ≤ past.length) (fun k => past.length - k) (0) (Nat.zero_le _) ⟨Sub.rfl, trivial⟩ ⟨rfl, trivial⟩ ?_
    rintro k hk0
    refine Aw_seq (Aw_seq (Aw_region ?_))
    refine Al_p Pu_mvl ?_
    refine Al_p Pu_mvl ?_
    refine Al_p (Pu_len rfl Tryz.underlying32 rfl (by first | exact List.length_map .. | exact rfl)) ?_
    refine Al_p (Pu_cmp rfl rfl rfl rfl) ?_
    refine Al_nil ?_
    refine Aw_cond rfl (fun h32 => ?_) (fun h32 => ?_)
    · (try simp only [decide_eq_true_eq, decide_eq_false_iff_not, Bool.and_eq_true, Bool.or_eq_true, Bool.and_eq_false_iff, Bool.or_eq_false_iff, Bool.not_eq_true', Bool.not_eq_false', beq_iff_eq, Bool.not_eq_eq_eq_not, Bool.not_true, Bool.not_false, List.length_map, Bool.and_true, Bool.and_false, Bool.false_and, Bool.true_and, Bool.or_false, Bool.false_or] at h32)
      have hk : k < past.length := by omega
      have hsn := p.seen_take past hk
      refine Aw_skip (Aw_seq (Aw_block ?_))
      refine Aw_draw 8 (by kernel_rfl) (by kernel_rfl) ?_
      refine Dr_p (Pu_loadbN (r := [_, _]) rfl Tryz.isAgg31 Tryz.sizeOf31 rfl rfl rfl rfl) ?_
      refine Dr_p Pu_mvl ?_
      refine Dr_p Pu_mvl ?_
      refine Dr_p (Pu_index rfl Tryz.underlying32 Tryz.sizeOf59 rfl rfl (rfl) (mapgetD (d := default) hk)) ?_
      refine Dr_p (Pu_field 1 rfl Tryz.underlying59 rfl rfl Tryz.sizeOf31 rfl) ?_
      refine Dr_p (Pu_loadN rfl Tryz.isAgg31 Tryz.sizeOf31 rfl (Nat.le_of_ble_eq_true rfl)) ?_
      refine Dr_p (Pu_buildSlice (aa := [(0, _), (1, _)]) rfl Tryz.underlying101 Tryz.sizeOf31 Tryz.zeroValue31 rfl (by decide) (by decide) (by decide) (by kernel_rfl) ⟨rfl, rfl, rfl, rfl, rfl, rfl, trivial⟩ ((rfl : _ = some [[iv (p.seen (past.take k)).1, iv (p.seen (past.take k)).2], [iv (past.getD k default).n, iv (past.getD k default).s]].flatten)) rfl rfl) ?_
      refine Dr_p (Pu_call (rmax_a [((p.seen (past.take k)).1, (p.seen (past.take k)).2), ((past.getD k default).n, (past.getD k default).s)]) rfl ⟨Sub.rfl, trivial⟩) ?_
      refine Dr_nil ?_
      refine Al_storeN rfl rfl rfl (by kernel_rfl) Tryz.isAgg31 Tryz.sizeOf31 rfl rfl rfl rfl (Nat.le_of_ble_eq_true rfl) ?_
      refine Al_nil (Aw_region ?_)
      refine Al_p Pu_mvl ?_
      refine Al_p (Pu_add rfl rfl rfl (fun h1 h2 => by simp only [A.inI, A.maxI] at *; omega)) ?_
      refine Al_p Pu_mvr ?_
      refine Al_nil ?_
      exact ⟨k + 1, by omega, by omega, Le.ov ⟨Sub.num (by omega), trivial⟩ ⟨Sub.rfl, Sub.rfl, Sub.rfl, Sub.rfl, Sub.rfl, Sub.rfl, Sub.rfl, trivial⟩ ⟨by rw [hsn]; rfl, trivial⟩ ⟨rfl, rfl, rfl, rfl, trivial⟩⟩ -- loop 0 next.0
    · (try simp only [decide_eq_true_eq, decide_eq_false_iff_not, Bool.and_eq_true, Bool.or_eq_true, Bool.and_eq_false_iff, Bool.or_eq_false_iff, Bool.not_eq_true', Bool.not_eq_false', beq_iff_eq, Bool.not_eq_eq_eq_not, Bool.not_true, Bool.not_false, List.length_map, Bool.and_true, Bool.and_false, Bool.false_and, Bool.true_and, Bool.or_false, Bool.false_or] at h32)
      have hkk : k = past.length := by omega
      rw [show past.take k = past from by rw [hkk, List.take_length]]
      refine Aw_exit ?_
      -- join 0: live [0, 1, 2, 3, 4, 10, 15, 16], turned [15, 16]
      refine Aw_seq ?_
      refine Aw_drawPA 7 9 4 (by kernel_rfl) (by kernel_rfl) rfl (by decide) rfl rfl rfl rfl (by decide) Tryz.zeroValue31 rfl (by kernel_rfl) rfl ?_
      refine Dr_p (Pu_loadbN (r := [_, _]) rfl Tryz.isAgg31 Tryz.sizeOf31 rfl rfl rfl rfl) ?_
      refine Dr_p Pu_mvl ?_
      refine Dr_p (Pu_nilb rfl rfl) ?_
      refine Dr_p (Pu_fieldb 0 rfl Tryz.underlying68 rfl rfl Tryz.sizeOf3 rfl) ?_
      refine Dr_p (Pu_loadb rfl Tryz.isAgg3 rfl rfl rfl) ?_
      refine Dr_p (Pu_call (rnextG_a (p.seen past).1 (p.seen past).2 p.id hid) rfl ⟨Sub.rfl, Sub.rfl, trivial⟩) ?_
      refine Dr_p Pu_mvl ?_
      refine Dr_nil ⟨?_, fun g15 => ?_⟩
      · refine Ad_take 7 rfl (PuI_extract rfl rfl rfl) rfl rfl (by decide) (by kernel_rfl) (by kernel_rfl) (by kernel_rfl) (by kernel_rfl) (fun _ _ h => h) ?_
        refine Ad_take 8 rfl (PuI_extract rfl rfl rfl) rfl rfl (by decide) (by kernel_rfl) (by kernel_rfl) (by kernel_rfl) (by kernel_rfl) (fun _ _ h => h) ?_
        refine Ad_one 9 rfl (by kernel_rfl) ?_
        refine Al_alloc rfl rfl rfl (by decide) Tryz.zeroValue31 rfl (by kernel_rfl) (fun g15 => ?_)
        refine Al_nil ?_
        refine Ad_one 10 rfl (by kernel_rfl) ?_
        refine Al_storeN rfl rfl rfl (by kernel_rfl) Tryz.isAgg31 Tryz.sizeOf31 rfl rfl rfl rfl (Nat.le_of_ble_eq_true rfl) ?_
        refine Al_nil ?_
        refine Ad_take 11 rfl (PuI_move (.inr rfl) (by conv => lhs; whnf)) rfl rfl (by decide) (by kernel_rfl) (by kernel_rfl) (by kernel_rfl) (by kernel_rfl) (fun _ _ h => h) ?_
        refine Ad_done (by kernel_rfl) ?_
        refine Aw_seq (Aw_seq (Aw_region ?_))
        refine Al_p Pu_mvl ?_
        refine Al_p (Pu_cmp rfl rfl rfl rfl) ?_
        refine Al_nil ?_
        refine Aw_cond rfl (fun h53 => ?_) (fun h53 => ?_)
        · (try simp only [decide_eq_true_eq, decide_eq_false_iff_not, Bool.and_eq_true, Bool.or_eq_true, Bool.and_eq_false_iff, Bool.or_eq_false_iff, Bool.not_eq_true', Bool.not_eq_false', beq_iff_eq, Bool.not_eq_eq_eq_not, Bool.not_true, Bool.not_false, List.length_map, Bool.and_true, Bool.and_false, Bool.false_and, Bool.true_and, Bool.or_false, Bool.false_or] at h53)
          have h1 : 1099511627776 ≤ (p.seen past).1 := by unfold J.nextE at h53; split at h53 <;> simp_all
          have e2 : p.writeE key value gone past = 18 := by unfold PS.writeE; rw [if_neg h0, if_pos h1]
          have e1 : p.write key value gone past = p := by unfold PS.write; rw [e2, if_neg (by decide)]
          have e3 : p.writeV key value gone past = default := by unfold PS.writeV; rw [e2, if_neg (by decide)]
          have e4 : J.nextE (p.seen past).1 = 18 := by unfold J.nextE; rw [if_pos h1]
          refine Aw_seq (Aw_region ?_)
          refine Al_p (Pu_build (aa := []) rfl Tryz.underlying34 Tryz.zeroValue34 (places34 Tryz.underlying34) (by kernel_rfl) trivial rfl) ?_
          refine Al_p Pu_mvl ?_
          refine Al_storeN rfl rfl rfl (by kernel_rfl) Tryz.isAgg34 Tryz.sizeOf34 rfl rfl rfl rfl (Nat.le_of_ble_eq_true rfl) ?_
          refine Al_p Pu_mvr ?_
          refine Al_nil ?_
          rw [e1, e2, e3]
          try rw [e4]
          first
            | refine Aw_boxle (k := 10) ((default : Ver).row.map .d) rfl ⟨Sub.rfl, Sub.rfl, Sub.rfl, Sub.rfl, Sub.rfl, Sub.nil, trivial⟩ ?_
            | skip
          refine Aw_ret ?_
          first
            | exact ⟨_, _, [(1004, 1003, 0)], rfl, ⟨_, rfl, _, _, _, _, _, [_, _, _, _, _, _], _, rfl, rfl, rfl, rfl, Sub.rfl, rfl⟩, ⟨rfl, rfl, rfl, trivial⟩, rfl⟩
            | exact ⟨_, _, [(1004, 1030, g72)], rfl, ⟨_, rfl, _, _, _, _, _, [_, _, _, _, _, _], _, rfl, rfl, rfl, rfl, Sub.rfl, rfl⟩, ⟨rfl, rfl, rfl, trivial⟩, rfl⟩ -- ret 1
        · (try simp only [decide_eq_true_eq, decide_eq_false_iff_not, Bool.and_eq_true, Bool.or_eq_true, Bool.and_eq_false_iff, Bool.or_eq_false_iff, Bool.not_eq_true', Bool.not_eq_false', beq_iff_eq, Bool.not_eq_eq_eq_not, Bool.not_true, Bool.not_false, List.length_map, Bool.and_true, Bool.and_false, Bool.false_and, Bool.true_and, Bool.or_false, Bool.false_or] at h53)
          have h1 : ¬ 1099511627776 ≤ (p.seen past).1 := by unfold J.nextE at h53; split at h53 <;> simp_all
          have e5 : J.nextR (p.seen past).1 p.id = (max (p.seen past).1 0 + 1, p.id) := by unfold J.nextR; rw [if_neg h1]
          rw [e5]
          refine Aw_skip (Aw_seq (Aw_region ?_))
          refine Al_p Pu_mvl ?_
          refine Al_p Pu_mvl ?_
          refine Al_p Pu_mvl ?_
          refine Al_p (Pu_loadbN (r := [_, _]) rfl Tryz.isAgg31 Tryz.sizeOf31 rfl rfl rfl rfl) ?_
          refine Al_p Pu_mvl ?_
          refine Al_p (Pu_build (aa := [(0, _), (1, _), (2, _), (3, _), (4, _)]) rfl Tryz.underlying34 Tryz.zeroValue34 (places34 Tryz.underlying34) (by kernel_rfl) ⟨rfl, rfl, rfl, rfl, rfl, rfl, rfl, rfl, rfl, rfl, rfl, rfl, rfl, rfl, rfl, trivial⟩ rfl) ?_
          refine Al_alloc rfl rfl rfl (by decide) Tryz.zeroValue34 rfl (by kernel_rfl) (fun g17 => ?_)
          refine Al_storeN rfl rfl rfl (by kernel_rfl) Tryz.isAgg34 Tryz.sizeOf34 rfl rfl rfl rfl (Nat.le_of_ble_eq_true rfl) ?_
          refine Al_nil (Aw_seq (Aw_region ?_))
          refine Al_p (Pu_loadbN (r := [_, _, _, _, _, _]) rfl Tryz.isAgg34 Tryz.sizeOf34 rfl rfl rfl rfl) ?_
          refine Al_p (Pu_call (rvcheck_a (p.made key value gone past)) rfl ⟨Sub.rfl, trivial⟩) ?_
          refine Al_p Pu_mvr ?_
          refine Al_nil (Aw_seq (Aw_seq (Aw_region ?_)))
          refine Al_p Pu_mvl ?_
          refine Al_p (Pu_not rfl rfl) ?_
          refine Al_nil ?_
          refine Aw_cond rfl (fun h65 => ?_) (fun h65 => ?_)
          · skip
            have h2 : J.checkB (p.made key value gone past) = false := by simpa using h65
            have e2 : p.writeE key value gone past = 1 := by unfold PS.writeE; rw [if_neg h0, if_neg h1, if_neg (by rw [h2]; decide)]
            have e1 : p.write key value gone past = p := by unfold PS.write; rw [e2, if_neg (by decide)]
            have e3 : p.writeV key value gone past = default := by unfold PS.writeV; rw [e2, if_neg (by decide)]
            refine Aw_seq (Aw_region ?_)
            refine Al_p (Pu_build (aa := []) rfl Tryz.underlying34 Tryz.zeroValue34 (places34 Tryz.underlying34) (by kernel_rfl) trivial rfl) ?_
            refine Al_storeN rfl rfl rfl (by kernel_rfl) Tryz.isAgg34 Tryz.sizeOf34 rfl rfl rfl rfl (Nat.le_of_ble_eq_true rfl) ?_
            refine Al_p Pu_mvr ?_
            refine Al_nil ?_
            rw [e1, e2, e3]
            try rw [e4]
            first
              | refine Aw_boxle (k := 10) ((default : Ver).row.map .d) rfl ⟨Sub.rfl, Sub.rfl, Sub.rfl, Sub.rfl, Sub.rfl, Sub.nil, trivial⟩ ?_
              | skip
            refine Aw_ret ?_
            first
              | exact ⟨_, _, [(1004, 1003, 0)], rfl, ⟨_, rfl, _, _, _, _, _, [_, _, _, _, _, _], _, rfl, rfl, rfl, rfl, Sub.rfl, rfl⟩, ⟨rfl, rfl, rfl, trivial⟩, rfl⟩
              | exact ⟨_, _, [(1004, 1030, g72)], rfl, ⟨_, rfl, _, _, _, _, _, [_, _, _, _, _, _], _, rfl, rfl, rfl, rfl, Sub.rfl, rfl⟩, ⟨rfl, rfl, rfl, trivial⟩, rfl⟩ -- ret 2
          · skip
            have h2 : J.checkB (p.made key value gone past) = true := by simpa using h65
            have e2 : p.writeE key value gone past = 0 := by unfold PS.writeE; rw [if_neg h0, if_neg h1, if_pos h2]
            have e1 : p.write key value gone past = p.writeP key value gone past := by unfold PS.write; rw [e2, if_pos rfl]
            have e3 : p.writeV key value gone past = p.made key value gone past := by unfold PS.writeV; rw [e2, if_pos rfl]
            refine Aw_skip (Aw_seq ?_)
            refine Aw_draw 5 (by kernel_rfl) (by kernel_rfl) ?_
            refine Dr_p Pu_mvl ?_
            refine Dr_p (Pu_nilb rfl rfl) ?_
            refine Dr_p (Pu_fieldb 1 rfl Tryz.underlying68 rfl rfl Tryz.sizeOf66 rfl) ?_
            refine Dr_p (Pu_loadb rfl Tryz.isAgg66 rfl rfl rfl) ?_
            refine Dr_p (Pu_loadbN (r := [_, _, _, _, _, _]) rfl Tryz.isAgg34 Tryz.sizeOf34 rfl rfl rfl rfl) ?_
            refine Dr_nil ?_
            refine Al_gcall [(1001, 1002, 0), (1002, 1003, 0)] [(1003, 1030)] (rput13_g p.rs p.cs (p.made key value gone past) hp.ok.rl hp.ok.rise (hp.ok.sm.mono hm) hp.ch) rfl rfl rfl (by decide) (by kernel_rfl) ⟨rfl, rfl, trivial⟩ rfl ⟨Sub.rfl, Sub.rfl, trivial⟩ (fun g72 => ?_)
            refine Al_nil (Aw_seq (Aw_region ?_))
            refine Al_p Pu_mvl ?_
            refine Al_p (Pu_loadbN (r := [_, _]) rfl Tryz.isAgg31 Tryz.sizeOf31 rfl rfl rfl rfl) ?_
            refine Al_p (Pu_nilb rfl rfl) ?_
            refine Al_p (Pu_fieldb 3 rfl Tryz.underlying68 rfl rfl Tryz.sizeOf31 rfl) ?_
            refine Al_storeN rfl rfl rfl (by kernel_rfl) Tryz.isAgg31 Tryz.sizeOf31 rfl rfl rfl rfl (Nat.le_of_ble_eq_true rfl) ?_
            refine Al_nil (Aw_seq (Aw_region ?_))
            refine Al_p (Pu_loadbN (r := [_, _, _, _, _, _]) rfl Tryz.isAgg34 Tryz.sizeOf34 rfl rfl rfl rfl) ?_
            refine Al_storeN rfl rfl rfl (by kernel_rfl) Tryz.isAgg34 Tryz.sizeOf34 rfl rfl rfl rfl (Nat.le_of_ble_eq_true rfl) ?_
            refine Al_p Pu_mvr ?_
            refine Al_nil ?_
            rw [e1, e2, e3]
            try rw [e4]
            first
              | refine Aw_boxle (k := 10) ((default : Ver).row.map .d) rfl ⟨Sub.rfl, Sub.rfl, Sub.rfl, Sub.rfl, Sub.rfl, Sub.nil, trivial⟩ ?_
              | skip
            refine Aw_ret ?_
            first
              | exact ⟨_, _, [(1004, 1003, 0)], rfl, ⟨_, rfl, _, _, _, _, _, [_, _, _, _, _, _], _, rfl, rfl, rfl, rfl, Sub.rfl, rfl⟩, ⟨rfl, rfl, rfl, trivial⟩, rfl⟩
              | exact ⟨_, _, [(1004, 1030, g72)], rfl, ⟨_, rfl, _, _, _, _, _, [_, _, _, _, _, _], _, rfl, rfl, rfl, rfl, Sub.rfl, rfl⟩, ⟨rfl, rfl, rfl, trivial⟩, rfl⟩ -- ret 3
      · refine Ad_take 7 rfl (PuI_extract rfl rfl rfl) rfl rfl (by decide) (by kernel_rfl) (by kernel_rfl) (by kernel_rfl) (by kernel_rfl) (fun _ _ h => h) ?_
        refine Ad_take 8 rfl (PuI_extract rfl rfl rfl) rfl rfl (by decide) (by kernel_rfl) (by kernel_rfl) (by kernel_rfl) (by kernel_rfl) (fun _ _ h => h) ?_
        refine Ad_one 10 rfl (by kernel_rfl) ?_
        refine Al_storeN rfl rfl rfl (by kernel_rfl) Tryz.isAgg31 Tryz.sizeOf31 rfl rfl rfl rfl (Nat.le_of_ble_eq_true rfl) ?_
        refine Al_nil ?_
        refine Ad_take 11 rfl (PuI_move (.inr rfl) (by conv => lhs; whnf)) rfl rfl (by decide) (by kernel_rfl) (by kernel_rfl) (by kernel_rfl) (by kernel_rfl) (fun _ _ h => h) ?_
        refine Ad_done (by kernel_rfl) ?_
        refine Aw_seq (Aw_seq (Aw_region ?_))
        refine Al_p Pu_mvl ?_
        refine Al_p (Pu_cmp rfl rfl rfl rfl) ?_
        refine Al_nil ?_
        refine Aw_cond rfl (fun h53 => ?_) (fun h53 => ?_)
        · (try simp only [decide_eq_true_eq, decide_eq_false_iff_not, Bool.and_eq_true, Bool.or_eq_true, Bool.and_eq_false_iff, Bool.or_eq_false_iff, Bool.not_eq_true', Bool.not_eq_false', beq_iff_eq, Bool.not_eq_eq_eq_not, Bool.not_true, Bool.not_false, List.length_map, Bool.and_true, Bool.and_false, Bool.false_and, Bool.true_and, Bool.or_false, Bool.false_or] at h53)
          have h1 : 1099511627776 ≤ (p.seen past).1 := by unfold J.nextE at h53; split at h53 <;> simp_all
          have e2 : p.writeE key value gone past = 18 := by unfold PS.writeE; rw [if_neg h0, if_pos h1]
          have e1 : p.write key value gone past = p := by unfold PS.write; rw [e2, if_neg (by decide)]
          have e3 : p.writeV key value gone past = default := by unfold PS.writeV; rw [e2, if_neg (by decide)]
          have e4 : J.nextE (p.seen past).1 = 18 := by unfold J.nextE; rw [if_pos h1]
          refine Aw_seq (Aw_region ?_)
          refine Al_p (Pu_build (aa := []) rfl Tryz.underlying34 Tryz.zeroValue34 (places34 Tryz.underlying34) (by kernel_rfl) trivial rfl) ?_
          refine Al_p Pu_mvl ?_
          refine Al_storeN rfl rfl rfl (by kernel_rfl) Tryz.isAgg34 Tryz.sizeOf34 rfl rfl rfl rfl (Nat.le_of_ble_eq_true rfl) ?_
          refine Al_p Pu_mvr ?_
          refine Al_nil ?_
          rw [e1, e2, e3]
          try rw [e4]
          first
            | refine Aw_boxle (k := 10) ((default : Ver).row.map .d) rfl ⟨Sub.rfl, Sub.rfl, Sub.rfl, Sub.rfl, Sub.rfl, Sub.nil, trivial⟩ ?_
            | skip
          refine Aw_ret ?_
          first
            | exact ⟨_, _, [(1004, 1003, 0)], rfl, ⟨_, rfl, _, _, _, _, _, [_, _, _, _, _, _], _, rfl, rfl, rfl, rfl, Sub.rfl, rfl⟩, ⟨rfl, rfl, rfl, trivial⟩, rfl⟩
            | exact ⟨_, _, [(1004, 1030, g72)], rfl, ⟨_, rfl, _, _, _, _, _, [_, _, _, _, _, _], _, rfl, rfl, rfl, rfl, Sub.rfl, rfl⟩, ⟨rfl, rfl, rfl, trivial⟩, rfl⟩ -- ret 4
        · (try simp only [decide_eq_true_eq, decide_eq_false_iff_not, Bool.and_eq_true, Bool.or_eq_true, Bool.and_eq_false_iff, Bool.or_eq_false_iff, Bool.not_eq_true', Bool.not_eq_false', beq_iff_eq, Bool.not_eq_eq_eq_not, Bool.not_true, Bool.not_false, List.length_map, Bool.and_true, Bool.and_false, Bool.false_and, Bool.true_and, Bool.or_false, Bool.false_or] at h53)
          have h1 : ¬ 1099511627776 ≤ (p.seen past).1 := by unfold J.nextE at h53; split at h53 <;> simp_all
          have e5 : J.nextR (p.seen past).1 p.id = (max (p.seen past).1 0 + 1, p.id) := by unfold J.nextR; rw [if_neg h1]
          rw [e5]
          refine Aw_skip (Aw_seq (Aw_region ?_))
          refine Al_p Pu_mvl ?_
          refine Al_p Pu_mvl ?_
          refine Al_p Pu_mvl ?_
          refine Al_p (Pu_loadbN (r := [_, _]) rfl Tryz.isAgg31 Tryz.sizeOf31 rfl rfl rfl rfl) ?_
          refine Al_p Pu_mvl ?_
          refine Al_p (Pu_build (aa := [(0, _), (1, _), (2, _), (3, _), (4, _)]) rfl Tryz.underlying34 Tryz.zeroValue34 (places34 Tryz.underlying34) (by kernel_rfl) ⟨rfl, rfl, rfl, rfl, rfl, rfl, rfl, rfl, rfl, rfl, rfl, rfl, rfl, rfl, rfl, trivial⟩ rfl) ?_
          refine Al_alloc rfl rfl rfl (by decide) Tryz.zeroValue34 rfl (by kernel_rfl) (fun g17 => ?_)
          refine Al_storeN rfl rfl rfl (by kernel_rfl) Tryz.isAgg34 Tryz.sizeOf34 rfl rfl rfl rfl (Nat.le_of_ble_eq_true rfl) ?_
          refine Al_nil (Aw_seq (Aw_region ?_))
          refine Al_p (Pu_loadbN (r := [_, _, _, _, _, _]) rfl Tryz.isAgg34 Tryz.sizeOf34 rfl rfl rfl rfl) ?_
          refine Al_p (Pu_call (rvcheck_a (p.made key value gone past)) rfl ⟨Sub.rfl, trivial⟩) ?_
          refine Al_p Pu_mvr ?_
          refine Al_nil (Aw_seq (Aw_seq (Aw_region ?_)))
          refine Al_p Pu_mvl ?_
          refine Al_p (Pu_not rfl rfl) ?_
          refine Al_nil ?_
          refine Aw_cond rfl (fun h65 => ?_) (fun h65 => ?_)
          · skip
            have h2 : J.checkB (p.made key value gone past) = false := by simpa using h65
            have e2 : p.writeE key value gone past = 1 := by unfold PS.writeE; rw [if_neg h0, if_neg h1, if_neg (by rw [h2]; decide)]
            have e1 : p.write key value gone past = p := by unfold PS.write; rw [e2, if_neg (by decide)]
            have e3 : p.writeV key value gone past = default := by unfold PS.writeV; rw [e2, if_neg (by decide)]
            refine Aw_seq (Aw_region ?_)
            refine Al_p (Pu_build (aa := []) rfl Tryz.underlying34 Tryz.zeroValue34 (places34 Tryz.underlying34) (by kernel_rfl) trivial rfl) ?_
            refine Al_storeN rfl rfl rfl (by kernel_rfl) Tryz.isAgg34 Tryz.sizeOf34 rfl rfl rfl rfl (Nat.le_of_ble_eq_true rfl) ?_
            refine Al_p Pu_mvr ?_
            refine Al_nil ?_
            rw [e1, e2, e3]
            try rw [e4]
            first
              | refine Aw_boxle (k := 10) ((default : Ver).row.map .d) rfl ⟨Sub.rfl, Sub.rfl, Sub.rfl, Sub.rfl, Sub.rfl, Sub.nil, trivial⟩ ?_
              | skip
            refine Aw_ret ?_
            first
              | exact ⟨_, _, [(1004, 1003, 0)], rfl, ⟨_, rfl, _, _, _, _, _, [_, _, _, _, _, _], _, rfl, rfl, rfl, rfl, Sub.rfl, rfl⟩, ⟨rfl, rfl, rfl, trivial⟩, rfl⟩
              | exact ⟨_, _, [(1004, 1030, g72)], rfl, ⟨_, rfl, _, _, _, _, _, [_, _, _, _, _, _], _, rfl, rfl, rfl, rfl, Sub.rfl, rfl⟩, ⟨rfl, rfl, rfl, trivial⟩, rfl⟩ -- ret 5
          · skip
            have h2 : J.checkB (p.made key value gone past) = true := by simpa using h65
            have e2 : p.writeE key value gone past = 0 := by unfold PS.writeE; rw [if_neg h0, if_neg h1, if_pos h2]
            have e1 : p.write key value gone past = p.writeP key value gone past := by unfold PS.write; rw [e2, if_pos rfl]
            have e3 : p.writeV key value gone past = p.made key value gone past := by unfold PS.writeV; rw [e2, if_pos rfl]
            refine Aw_skip (Aw_seq ?_)
            refine Aw_draw 5 (by kernel_rfl) (by kernel_rfl) ?_
            refine Dr_p Pu_mvl ?_
            refine Dr_p (Pu_nilb rfl rfl) ?_
            refine Dr_p (Pu_fieldb 1 rfl Tryz.underlying68 rfl rfl Tryz.sizeOf66 rfl) ?_
            refine Dr_p (Pu_loadb rfl Tryz.isAgg66 rfl rfl rfl) ?_
            refine Dr_p (Pu_loadbN (r := [_, _, _, _, _, _]) rfl Tryz.isAgg34 Tryz.sizeOf34 rfl rfl rfl rfl) ?_
            refine Dr_nil ?_
            refine Al_gcall [(1001, 1002, 0), (1002, 1003, 0)] [(1003, 1030)] (rput13_g p.rs p.cs (p.made key value gone past) hp.ok.rl hp.ok.rise (hp.ok.sm.mono hm) hp.ch) rfl rfl rfl (by decide) (by kernel_rfl) ⟨rfl, rfl, trivial⟩ rfl ⟨Sub.rfl, Sub.rfl, trivial⟩ (fun g72 => ?_)
            refine Al_nil (Aw_seq (Aw_region ?_))
            refine Al_p Pu_mvl ?_
            refine Al_p (Pu_loadbN (r := [_, _]) rfl Tryz.isAgg31 Tryz.sizeOf31 rfl rfl rfl rfl) ?_
            refine Al_p (Pu_nilb rfl rfl) ?_
            refine Al_p (Pu_fieldb 3 rfl Tryz.underlying68 rfl rfl Tryz.sizeOf31 rfl) ?_
            refine Al_storeN rfl rfl rfl (by kernel_rfl) Tryz.isAgg31 Tryz.sizeOf31 rfl rfl rfl rfl (Nat.le_of_ble_eq_true rfl) ?_
            refine Al_nil (Aw_seq (Aw_region ?_))
            refine Al_p (Pu_loadbN (r := [_, _, _, _, _, _]) rfl Tryz.isAgg34 Tryz.sizeOf34 rfl rfl rfl rfl) ?_
            refine Al_storeN rfl rfl rfl (by kernel_rfl) Tryz.isAgg34 Tryz.sizeOf34 rfl rfl rfl rfl (Nat.le_of_ble_eq_true rfl) ?_
            refine Al_p Pu_mvr ?_
            refine Al_nil ?_
            rw [e1, e2, e3]
            try rw [e4]
            first
              | refine Aw_boxle (k := 10) ((default : Ver).row.map .d) rfl ⟨Sub.rfl, Sub.rfl, Sub.rfl, Sub.rfl, Sub.rfl, Sub.nil, trivial⟩ ?_
              | skip
            refine Aw_ret ?_
            first
              | exact ⟨_, _, [(1004, 1003, 0)], rfl, ⟨_, rfl, _, _, _, _, _, [_, _, _, _, _, _], _, rfl, rfl, rfl, rfl, Sub.rfl, rfl⟩, ⟨rfl, rfl, rfl, trivial⟩, rfl⟩
              | exact ⟨_, _, [(1004, 1030, g72)], rfl, ⟨_, rfl, _, _, _, _, _, [_, _, _, _, _, _], _, rfl, rfl, rfl, rfl, Sub.rfl, rfl⟩, ⟨rfl, rfl, rfl, trivial⟩, rfl⟩ -- ret 6
set_option maxHeartbeats 1000000 in
theorem rtArrive_g (v : Ver) {m : Nat} (hp : p.Rk m) (hm : m ≤ 1000) : GCall Tryz.prog 29 [.bx 1001 0 0, .d (.row v.row)] (RT p 1003) (some (RT (p.arrive v) 1003, .d (iv (p.arriveE v)))) := by
  refine GCall_enterL (fun _ _ => by kernel_rfl) Tryz.func29 rfl Tryz.ntmps29 (ReadsS.r1 Tryz.results29) (Nat.le_of_ble_eq_true rfl) (fun hok hokB M0 w0 hl => ?_)
  have hwl := hp.ok.wl
  have hcl : p.cs.length ≤ 1000 := (hp.ok.sm.mono hm).1
  refine Aw_seq (Aw_region ?_)
  refine Al_p (Pu_boxN rfl rfl) ?_
  refine Al_p Pu_mvr ?_
  refine Al_nil (Aw_seq (Aw_region ?_))
  refine Al_p (Pu_loadN rfl Tryz.isAgg34 Tryz.sizeOf34 rfl (Nat.le_of_ble_eq_true rfl)) ?_
  refine Al_p (Pu_call (rvcheck_a v) rfl ⟨Sub.rfl, trivial⟩) ?_
  refine Al_p Pu_mvr ?_
  refine Al_nil (Aw_seq (Aw_seq (Aw_region ?_)))
  refine Al_p Pu_mvl ?_
  refine Al_p (Pu_not rfl rfl) ?_
  refine Al_nil ?_
  refine Aw_cond rfl (fun h15 => ?_) (fun h15 => ?_)
  · skip
    have h0 : J.checkB v = false := by simpa using h15
    have e2 : p.arriveE v = 1 := by unfold PS.arriveE; rw [if_pos h0]
    have e1 : p.arrive v = p := by unfold PS.arrive; rw [e2, if_neg (by decide)]
    refine Aw_seq (Aw_region ?_)
    refine Al_p Pu_mvr ?_
    refine Al_nil ?_
    rw [e1, e2]
    refine Aw_ret ?_
    exact ⟨_, _, [], rfl, Sub.rfl, ⟨rfl, rfl, rfl, trivial⟩, rfl⟩ -- ret 0
  · skip
    have h0 : J.checkB v = true := by simpa using h15
    refine Aw_skip (Aw_seq (Aw_region ?_))
    refine Al_p Pu_mvl ?_
    refine Al_p (Pu_field 0 rfl Tryz.underlying34 rfl rfl Tryz.sizeOf9 rfl) ?_
    refine Al_p (Pu_load1 rfl Tryz.isAgg9 rfl rfl) ?_
    refine Al_p (Pu_gcall [(1001, 1001, 0), (1002, 1002, 0), (1003, 1003, 0)] (rtOwns_g p v.key hp.ok.rl) (RT_in ..) rfl ⟨rfl, rfl, rfl, trivial⟩ rfl ⟨Sub.rfl, Sub.rfl, trivial⟩) ?_
    refine Al_p Pu_mvr ?_
    refine Al_nil ?_
    -- join 0: live [0, 3], turned []
    refine Aw_seq (Aw_seq (Aw_region ?_))
    refine Al_p Pu_mvl ?_
    refine Al_nil ?_
    refine Aw_cond rfl (fun h20 => ?_) (fun h20 => ?_)
    · (try simp only [decide_eq_true_eq, decide_eq_false_iff_not, Bool.and_eq_true, Bool.or_eq_true, Bool.and_eq_false_iff, Bool.or_eq_false_iff, Bool.not_eq_true', Bool.not_eq_false', beq_iff_eq, Bool.not_eq_eq_eq_not, Bool.not_true, Bool.not_false, List.length_map, Bool.and_true, Bool.and_false, Bool.false_and, Bool.true_and, Bool.or_false, Bool.false_or] at h20)
      have hf : ¬ findR p.rs v.key < 0 := by omega
      -- join 1: live [0, 3, 8], turned [8]
      refine Aw_seq ?_
      refine Aw_drawPA 11 13 4 (by kernel_rfl) (by kernel_rfl) rfl (by decide) rfl rfl rfl rfl (by decide) Tryz.zeroValue34 rfl (by kernel_rfl) rfl ?_
      refine Dr_p Pu_mvl ?_
      refine Dr_p (Pu_nilb rfl rfl) ?_
      refine Dr_p (Pu_fieldb 1 rfl Tryz.underlying68 rfl rfl Tryz.sizeOf66 rfl) ?_
      refine Dr_p (Pu_loadb rfl Tryz.isAgg66 rfl rfl rfl) ?_
      refine Dr_p (Pu_field 0 rfl Tryz.underlying34 rfl rfl Tryz.sizeOf9 rfl) ?_
      refine Dr_p (Pu_load1 rfl Tryz.isAgg9 rfl rfl) ?_
      refine Dr_p (Pu_gcall [(1001, 1002, 0), (1002, 1003, 0)] (rof13_g p.rs p.cs v.key hcl) (RH_in ..) rfl ⟨rfl, rfl, trivial⟩ rfl ⟨Sub.rfl, Sub.rfl, trivial⟩) ?_
      refine Dr_p (Pu_field 3 rfl Tryz.underlying34 rfl rfl Tryz.sizeOf31 rfl) ?_
      refine Dr_p (Pu_loadN rfl Tryz.isAgg31 Tryz.sizeOf31 rfl (Nat.le_of_ble_eq_true rfl)) ?_
      refine Dr_p (Pu_call (rat12_a (J.getC p.cs v.key) v.n v.s (hp.ch.get v.key)) rfl ⟨Sub.rfl, Sub.rfl, trivial⟩) ?_
      refine Dr_p Pu_mvl ?_
      refine Dr_nil ⟨?_, fun g7 => ?_⟩
      · refine Ad_take 11 rfl (PuI_extract rfl rfl rfl) rfl rfl (by decide) (by kernel_rfl) (by kernel_rfl) (by kernel_rfl) (by kernel_rfl) (fun _ _ h => h) ?_
        refine Ad_take 12 rfl (PuI_extract rfl rfl rfl) rfl rfl (by decide) (by kernel_rfl) (by kernel_rfl) (by kernel_rfl) (by kernel_rfl) (fun _ _ h => h) ?_
        refine Ad_one 13 rfl (by kernel_rfl) ?_
        refine Al_alloc rfl rfl rfl (by decide) Tryz.zeroValue34 rfl (by kernel_rfl) (fun g7 => ?_)
        refine Al_nil ?_
        refine Ad_one 14 rfl (by kernel_rfl) ?_
        refine Al_storeN rfl rfl rfl (by kernel_rfl) Tryz.isAgg34 Tryz.sizeOf34 rfl rfl rfl rfl (Nat.le_of_ble_eq_true rfl) ?_
        refine Al_nil ?_
        refine Ad_take 15 rfl (PuI_move (.inr rfl) (by conv => lhs; whnf)) rfl rfl (by decide) (by kernel_rfl) (by kernel_rfl) (by kernel_rfl) (by kernel_rfl) (fun _ _ h => h) ?_
        refine Ad_done (by kernel_rfl) ?_
        refine Aw_seq (Aw_seq (Aw_region ?_))
        refine Al_p Pu_mvr ?_
        refine Al_nil (Aw_block ?_)
        refine Aw_loopk (ι := Nat) [0, 3] [1001, 1002, 1003] (fun k => [(9, .d (iv k)), (8, .d (bv (p.thereK v k)))]) (fun k => []) (fun k => k ≤ p.wait.length) (fun k => p.wait.length - k) (0) (Nat.zero_le _) ⟨Sub.rfl, Sub.bool (by unfold PS.thereK; simp; rfl), trivial⟩ trivial ?_
        rintro k hk0
        refine Aw_seq (Aw_seq (Aw_region ?_))
        refine Al_p Pu_mvl ?_
        refine Al_p Pu_mvl ?_
        refine Al_p (Pu_nilb rfl rfl) ?_
        refine Al_p (Pu_fieldb 2 rfl Tryz.underlying68 rfl rfl Tryz.sizeOf65 rfl) ?_
        refine Al_p (Pu_loadb rfl Tryz.isAgg65 rfl rfl rfl) ?_
        refine Al_p (Pu_len rfl Tryz.underlying65 rfl (by first | exact List.length_map .. | exact rfl)) ?_
        refine Al_p (Pu_cmp rfl rfl rfl rfl) ?_
        refine Al_nil ?_
        refine Aw_cond rfl (fun h40 => ?_) (fun h40 => ?_)
        · (try simp only [decide_eq_true_eq, decide_eq_false_iff_not, Bool.and_eq_true, Bool.or_eq_true, Bool.and_eq_false_iff, Bool.or_eq_false_iff, Bool.not_eq_true', Bool.not_eq_false', beq_iff_eq, Bool.not_eq_eq_eq_not, Bool.not_true, Bool.not_false, List.length_map, Bool.and_true, Bool.and_false, Bool.false_and, Bool.true_and, Bool.or_false, Bool.false_or] at h40)
          have hk : k < p.wait.length := by omega
          have hsc : p.thereK v (k + 1) = (p.thereK v k || PS.isW v p.wait[k]) := by
            unfold PS.thereK
            rw [List.take_succ_eq_append_getElem hk, List.any_append, Bool.or_assoc]
            simp
          refine Aw_skip (Aw_seq (Aw_block ?_))
          refine Aw_draw 27 (by kernel_rfl) (by kernel_rfl) ?_
          refine Dr_p Pu_mvl ?_
          refine Dr_p Pu_mvl ?_
          refine Dr_st (St_gd [] rfl rfl rfl rfl trivial (fun hg45 => by exact Pu_move (.inl rfl) (by conv => lhs; whnf))) rfl ?_
          refine Dr_st (St_gd [45] rfl rfl rfl rfl ⟨⟨_, rfl⟩, trivial⟩ (fun hg46 => Pu_nilb rfl rfl)) rfl ?_
          refine Dr_st (St_gd [46] rfl rfl rfl rfl ⟨⟨_, rfl⟩, trivial⟩ (fun hg47 => Pu_fieldb 2 rfl Tryz.underlying68 rfl rfl Tryz.sizeOf65 rfl)) rfl ?_
          refine Dr_st (St_gd [47] rfl rfl rfl rfl ⟨⟨_, rfl⟩, trivial⟩ (fun hg48 => Pu_loadb rfl Tryz.isAgg65 rfl rfl rfl)) rfl ?_
          refine Dr_st (St_gd [] rfl rfl rfl rfl trivial (fun hg49 => by exact Pu_move (.inl rfl) (by conv => lhs; whnf))) rfl ?_
          refine Dr_st (St_gd [48, 49] rfl rfl rfl rfl ⟨⟨_, rfl⟩, ⟨_, rfl⟩, trivial⟩ (fun hg50 => Pu_index rfl Tryz.underlying65 Tryz.sizeOf34 rfl rfl (rfl) (mapget hk))) rfl ?_
          refine Dr_st (St_gd [50] rfl rfl rfl rfl ⟨⟨_, rfl⟩, trivial⟩ (fun hg51 => Pu_field 0 rfl Tryz.underlying34 rfl rfl Tryz.sizeOf9 rfl)) rfl ?_
          refine Dr_st (St_gd [51] rfl rfl rfl rfl ⟨⟨_, rfl⟩, trivial⟩ (fun hg52 => Pu_load1 rfl Tryz.isAgg9 rfl rfl)) rfl ?_
          refine Dr_st (St_gd [] rfl rfl rfl rfl trivial (fun hg53 => Pu_field 0 rfl Tryz.underlying34 rfl rfl Tryz.sizeOf9 rfl)) rfl ?_
          refine Dr_st (St_gd [53] rfl rfl rfl rfl ⟨⟨_, rfl⟩, trivial⟩ (fun hg54 => Pu_load1 rfl Tryz.isAgg9 rfl rfl)) rfl ?_
          refine Dr_st (St_gd [52, 54] rfl rfl rfl rfl ⟨⟨_, rfl⟩, ⟨_, rfl⟩, trivial⟩ (fun hg55 => Pu_str rfl rfl rfl rfl)) rfl ?_
          refine Dr_st (St_gd [55] rfl rfl rfl rfl ⟨⟨_, rfl⟩, trivial⟩ (fun hg56 => by exact Pu_move (.inl rfl) (by conv => lhs; whnf))) rfl ?_
          refine Dr_st (St_gd2 [] rfl rfl rfl rfl trivial (fun hp57 hg57 => by exact Pu_move (.inl rfl) (by conv => lhs; whnf))) rfl ?_
          refine Dr_st (St_gd2 [57] rfl rfl rfl rfl ⟨⟨_, rfl⟩, trivial⟩ (fun hp58 hg58 => Pu_nilb rfl rfl)) rfl ?_
          refine Dr_st (St_gd2 [58] rfl rfl rfl rfl ⟨⟨_, rfl⟩, trivial⟩ (fun hp59 hg59 => Pu_fieldb 2 rfl Tryz.underlying68 rfl rfl Tryz.sizeOf65 rfl)) rfl ?_
          refine Dr_st (St_gd2 [59] rfl rfl rfl rfl ⟨⟨_, rfl⟩, trivial⟩ (fun hp60 hg60 => Pu_loadb rfl Tryz.isAgg65 rfl rfl rfl)) rfl ?_
          refine Dr_st (St_gd2 [] rfl rfl rfl rfl trivial (fun hp61 hg61 => by exact Pu_move (.inl rfl) (by conv => lhs; whnf))) rfl ?_
          refine Dr_st (St_gd2 [60, 61] rfl rfl rfl rfl ⟨⟨_, rfl⟩, ⟨_, rfl⟩, trivial⟩ (fun hp62 hg62 => Pu_index rfl Tryz.underlying65 Tryz.sizeOf34 rfl rfl (rfl) (mapget hk))) rfl ?_
          refine Dr_st (St_gd2 [62] rfl rfl rfl rfl ⟨⟨_, rfl⟩, trivial⟩ (fun hp63 hg63 => Pu_field 3 rfl Tryz.underlying34 rfl rfl Tryz.sizeOf31 rfl)) rfl ?_
          refine Dr_st (St_gd2 [63] rfl rfl rfl rfl ⟨⟨_, rfl⟩, trivial⟩ (fun hp64 hg64 => Pu_loadN rfl Tryz.isAgg31 Tryz.sizeOf31 rfl (Nat.le_of_ble_eq_true rfl))) rfl ?_
          refine Dr_st (St_gd2 [] rfl rfl rfl rfl trivial (fun hp65 hg65 => Pu_field 3 rfl Tryz.underlying34 rfl rfl Tryz.sizeOf31 rfl)) rfl ?_
          refine Dr_st (St_gd2 [65] rfl rfl rfl rfl ⟨⟨_, rfl⟩, trivial⟩ (fun hp66 hg66 => Pu_loadN rfl Tryz.isAgg31 Tryz.sizeOf31 rfl (Nat.le_of_ble_eq_true rfl))) rfl ?_
          refine Dr_st (St_gd2 [64, 66] rfl rfl rfl rfl ⟨⟨_, rfl⟩, ⟨_, rfl⟩, trivial⟩ (fun hp67 hg67 => Pu_eqrow [.int .i64 _, .int .i64 _] [.int .i64 _, .int .i64 _] (fun w => eqv31 _ _ _ _ _ _ w) rfl rfl rfl)) rfl ?_
          refine Dr_st (St_gd [56] rfl rfl rfl rfl ⟨⟨_, rfl⟩, trivial⟩ (fun hg68 => Pu_andG rfl rfl (fun h => ⟨hg68, h⟩) rfl rfl)) rfl ?_
          refine Dr_p (Pu_or rfl rfl rfl rfl) ?_
          refine Dr_nil ?_
          refine Al_p Pu_mvr ?_
          refine Al_nil (Aw_region ?_)
          refine Al_p Pu_mvl ?_
          refine Al_p (Pu_add rfl rfl rfl (fun h1 h2 => by simp only [A.inI, A.maxI] at *; omega)) ?_
          refine Al_p Pu_mvr ?_
          refine Al_nil ?_
          exact ⟨k + 1, by omega, by omega, Le.ov ⟨Sub.num (by omega), Sub.bool (by rw [hsc]; rfl), trivial⟩ ⟨Sub.rfl, Sub.rfl, trivial⟩ trivial ⟨rfl, rfl, rfl, trivial⟩⟩ -- loop 0 next.0
        · (try simp only [decide_eq_true_eq, decide_eq_false_iff_not, Bool.and_eq_true, Bool.or_eq_true, Bool.and_eq_false_iff, Bool.or_eq_false_iff, Bool.not_eq_true', Bool.not_eq_false', beq_iff_eq, Bool.not_eq_eq_eq_not, Bool.not_true, Bool.not_false, List.length_map, Bool.and_true, Bool.and_false, Bool.false_and, Bool.true_and, Bool.or_false, Bool.false_or] at h40)
          have hkk : k = p.wait.length := by omega
          have hth : p.thereK v k = p.there v := by unfold PS.thereK; rw [hkk, List.take_length]; rfl
          refine Aw_exit (Aw_seq (Aw_seq (Aw_region ?_)))
          refine Al_p Pu_mvl ?_
          refine Al_nil ?_
          refine Aw_cond rfl (fun h70 => ?_) (fun h70 => ?_)
          · skip
            have h70' : p.there v = true := by rw [← hth]; exact h70
            have e2 : p.arriveE v = 13 := by unfold PS.arriveE; rw [if_neg (by rw [h0]; decide), if_neg hf, if_pos h70']
            have e1 : p.arrive v = p := by unfold PS.arrive; rw [e2, if_neg (by decide)]
            refine Aw_seq (Aw_region ?_)
            refine Al_p Pu_mvr ?_
            refine Al_nil ?_
            rw [e1, e2]
            try rw [e4]
            refine Aw_ret ?_
            exact ⟨_, _, [], rfl, Sub.rfl, ⟨rfl, rfl, rfl, trivial⟩, rfl⟩ -- ret 1
          · skip
            have h70' : p.there v = false := by rw [← hth]; exact h70
            have e2 : p.arriveE v = J.pushE p.wait v := by unfold PS.arriveE; rw [if_neg (by rw [h0]; decide), if_neg hf, if_neg (by rw [h70']; decide)]
            refine Aw_skip (Aw_seq ?_)
            refine Aw_draw 10 (by kernel_rfl) (by kernel_rfl) ?_
            refine Dr_p Pu_mvl ?_
            refine Dr_p (Pu_nilb rfl rfl) ?_
            refine Dr_p (Pu_fieldb 2 rfl Tryz.underlying68 rfl rfl Tryz.sizeOf65 rfl) ?_
            refine Dr_p (Pu_loadb rfl Tryz.isAgg65 rfl rfl rfl) ?_
            refine Dr_p (Pu_loadN rfl Tryz.isAgg34 Tryz.sizeOf34 rfl (Nat.le_of_ble_eq_true rfl)) ?_
            refine Dr_p (Pu_call (rpush14_a p.wait v (by omega)) rfl ⟨Sub.rfl, Sub.rfl, trivial⟩) ?_
            refine Dr_p Pu_mvl ?_
            refine Dr_p (Pu_extract rfl rfl rfl) ?_
            refine Dr_p (Pu_extract rfl rfl rfl) ?_
            refine Dr_p Pu_mvr ?_
            refine Dr_nil ?_
            refine Al_p Pu_mvr ?_
            refine Al_nil (Aw_seq (Aw_seq (Aw_region ?_)))
            refine Al_p Pu_mvl ?_
            refine Al_p (Pu_cmp rfl rfl rfl rfl) ?_
            refine Al_nil ?_
            refine Aw_cond rfl (fun h81 => ?_) (fun h81 => ?_)
            · (try simp only [decide_eq_true_eq, decide_eq_false_iff_not, Bool.and_eq_true, Bool.or_eq_true, Bool.and_eq_false_iff, Bool.or_eq_false_iff, Bool.not_eq_true', Bool.not_eq_false', beq_iff_eq, Bool.not_eq_eq_eq_not, Bool.not_true, Bool.not_false, List.length_map, Bool.and_true, Bool.and_false, Bool.false_and, Bool.true_and, Bool.or_false, Bool.false_or] at h81)
              have e1 : p.arrive v = p := by unfold PS.arrive; rw [if_neg (by rw [e2]; exact h81)]
              refine Aw_seq (Aw_region ?_)
              refine Al_p Pu_mvl ?_
              refine Al_p Pu_mvr ?_
              refine Al_nil ?_
              rw [e1, e2]
              try rw [e4]
              refine Aw_ret ?_
              exact ⟨_, _, [], rfl, Sub.rfl, ⟨rfl, rfl, rfl, trivial⟩, rfl⟩ -- ret 2
            · (try simp only [decide_eq_true_eq, decide_eq_false_iff_not, Bool.and_eq_true, Bool.or_eq_true, Bool.and_eq_false_iff, Bool.or_eq_false_iff, Bool.not_eq_true', Bool.not_eq_false', beq_iff_eq, Bool.not_eq_eq_eq_not, Bool.not_true, Bool.not_false, List.length_map, Bool.and_true, Bool.and_false, Bool.false_and, Bool.true_and, Bool.or_false, Bool.false_or] at h81)
              have e4 : J.pushE p.wait v = 0 := by simpa using h81
              have e1 : p.arrive v = ({ p with wait := p.wait ++ [v] } : PS).clockP v := by unfold PS.arrive; rw [if_pos (e2.trans e4), if_neg hf]
              refine Aw_skip ?_
              rw [if_pos e4]
              refine Aw_region ?_
              refine Al_p Pu_mvl ?_
              refine Al_p Pu_mvl ?_
              refine Al_p (Pu_nilb rfl rfl) ?_
              refine Al_p (Pu_fieldb 2 rfl Tryz.underlying68 rfl rfl Tryz.sizeOf65 rfl) ?_
              refine Al_store1 rfl rfl rfl (by kernel_rfl) Tryz.isAgg65 Tryz.sizeOf65 rfl rfl (Nat.le_of_ble_eq_true rfl) (by conv => lhs; whnf) rfl ?_
              refine Al_nil (Aw_seq ?_)
              refine Aw_draw 11 (by kernel_rfl) (by kernel_rfl) ?_
              refine Dr_p Pu_mvl ?_
              refine Dr_p Pu_mvl ?_
              refine Dr_p (Pu_nilb rfl rfl) ?_
              refine Dr_p (Pu_fieldb 3 rfl Tryz.underlying68 rfl rfl Tryz.sizeOf31 rfl) ?_
              refine Dr_p (Pu_loadbN (r := [_, _]) rfl Tryz.isAgg31 Tryz.sizeOf31 rfl rfl rfl rfl) ?_
              refine Dr_p (Pu_field 3 rfl Tryz.underlying34 rfl rfl Tryz.sizeOf31 rfl) ?_
              refine Dr_p (Pu_loadN rfl Tryz.isAgg31 Tryz.sizeOf31 rfl (Nat.le_of_ble_eq_true rfl)) ?_
              refine Dr_p (Pu_buildSlice (aa := [(0, _), (1, _)]) rfl Tryz.underlying101 Tryz.sizeOf31 Tryz.zeroValue31 rfl (by decide) (by decide) (by decide) (by kernel_rfl) ⟨rfl, rfl, rfl, rfl, rfl, rfl, trivial⟩ ((rfl : _ = some [[iv p.n, iv p.s], [iv v.n, iv v.s]].flatten)) rfl rfl) ?_
              refine Dr_p (Pu_call (rmax_a [(p.n, p.s), (v.n, v.s)]) rfl ⟨Sub.rfl, trivial⟩) ?_
              refine Dr_p (Pu_nilb rfl rfl) ?_
              refine Dr_p (Pu_fieldb 3 rfl Tryz.underlying68 rfl rfl Tryz.sizeOf31 rfl) ?_
              refine Dr_nil ?_
              refine Al_storeN rfl rfl rfl (by kernel_rfl) Tryz.isAgg31 Tryz.sizeOf31 rfl rfl rfl rfl (Nat.le_of_ble_eq_true rfl) ?_
              refine Al_nil (Aw_seq (Aw_region ?_))
              refine Al_p Pu_mvr ?_
              refine Al_nil ?_
              rw [e1, e2]
              try rw [e4]
              refine Aw_ret ?_
              exact ⟨_, _, [], rfl, Sub.rfl, ⟨rfl, rfl, rfl, trivial⟩, rfl⟩ -- ret 3
      · refine Ad_take 11 rfl (PuI_extract rfl rfl rfl) rfl rfl (by decide) (by kernel_rfl) (by kernel_rfl) (by kernel_rfl) (by kernel_rfl) (fun _ _ h => h) ?_
        refine Ad_take 12 rfl (PuI_extract rfl rfl rfl) rfl rfl (by decide) (by kernel_rfl) (by kernel_rfl) (by kernel_rfl) (by kernel_rfl) (fun _ _ h => h) ?_
        refine Ad_one 14 rfl (by kernel_rfl) ?_
        refine Al_storeN rfl rfl rfl (by kernel_rfl) Tryz.isAgg34 Tryz.sizeOf34 rfl rfl rfl rfl (Nat.le_of_ble_eq_true rfl) ?_
        refine Al_nil ?_
        refine Ad_take 15 rfl (PuI_move (.inr rfl) (by conv => lhs; whnf)) rfl rfl (by decide) (by kernel_rfl) (by kernel_rfl) (by kernel_rfl) (by kernel_rfl) (fun _ _ h => h) ?_
        refine Ad_done (by kernel_rfl) ?_
        refine Aw_seq (Aw_seq (Aw_region ?_))
        refine Al_p Pu_mvr ?_
        refine Al_nil (Aw_block ?_)
        refine Aw_loopk (ι := Nat) [0, 3] [1001, 1002, 1003] (fun k => [(9, .d (iv k)), (8, .d (bv (p.thereK v k)))]) (fun k => []) (fun k => k ≤ p.wait.length) (fun k => p.wait.length - k) (0) (Nat.zero_le _) ⟨Sub.rfl, Sub.bool (by unfold PS.thereK; simp; rfl), trivial⟩ trivial ?_
        rintro k hk0
        refine Aw_seq (Aw_seq (Aw_region ?_))
        refine Al_p Pu_mvl ?_
        refine Al_p Pu_mvl ?_
        refine Al_p (Pu_nilb rfl rfl) ?_
        refine Al_p (Pu_fieldb 2 rfl Tryz.underlying68 rfl rfl Tryz.sizeOf65 rfl) ?_
        refine Al_p (Pu_loadb rfl Tryz.isAgg65 rfl rfl rfl) ?_
        refine Al_p (Pu_len rfl Tryz.underlying65 rfl (by first | exact List.length_map .. | exact rfl)) ?_
        refine Al_p (Pu_cmp rfl rfl rfl rfl) ?_
        refine Al_nil ?_
        refine Aw_cond rfl (fun h40 => ?_) (fun h40 => ?_)
        · (try simp only [decide_eq_true_eq, decide_eq_false_iff_not, Bool.and_eq_true, Bool.or_eq_true, Bool.and_eq_false_iff, Bool.or_eq_false_iff, Bool.not_eq_true', Bool.not_eq_false', beq_iff_eq, Bool.not_eq_eq_eq_not, Bool.not_true, Bool.not_false, List.length_map, Bool.and_true, Bool.and_false, Bool.false_and, Bool.true_and, Bool.or_false, Bool.false_or] at h40)
          have hk : k < p.wait.length := by omega
          have hsc : p.thereK v (k + 1) = (p.thereK v k || PS.isW v p.wait[k]) := by
            unfold PS.thereK
            rw [List.take_succ_eq_append_getElem hk, List.any_append, Bool.or_assoc]
            simp
          refine Aw_skip (Aw_seq (Aw_block ?_))
          refine Aw_draw 27 (by kernel_rfl) (by kernel_rfl) ?_
          refine Dr_p Pu_mvl ?_
          refine Dr_p Pu_mvl ?_
          refine Dr_st (St_gd [] rfl rfl rfl rfl trivial (fun hg45 => by exact Pu_move (.inl rfl) (by conv => lhs; whnf))) rfl ?_
          refine Dr_st (St_gd [45] rfl rfl rfl rfl ⟨⟨_, rfl⟩, trivial⟩ (fun hg46 => Pu_nilb rfl rfl)) rfl ?_
          refine Dr_st (St_gd [46] rfl rfl rfl rfl ⟨⟨_, rfl⟩, trivial⟩ (fun hg47 => Pu_fieldb 2 rfl Tryz.underlying68 rfl rfl Tryz.sizeOf65 rfl)) rfl ?_
          refine Dr_st (St_gd [47] rfl rfl rfl rfl ⟨⟨_, rfl⟩, trivial⟩ (fun hg48 => Pu_loadb rfl Tryz.isAgg65 rfl rfl rfl)) rfl ?_
          refine Dr_st (St_gd [] rfl rfl rfl rfl trivial (fun hg49 => by exact Pu_move (.inl rfl) (by conv => lhs; whnf))) rfl ?_
          refine Dr_st (St_gd [48, 49] rfl rfl rfl rfl ⟨⟨_, rfl⟩, ⟨_, rfl⟩, trivial⟩ (fun hg50 => Pu_index rfl Tryz.underlying65 Tryz.sizeOf34 rfl rfl (rfl) (mapget hk))) rfl ?_
          refine Dr_st (St_gd [50] rfl rfl rfl rfl ⟨⟨_, rfl⟩, trivial⟩ (fun hg51 => Pu_field 0 rfl Tryz.underlying34 rfl rfl Tryz.sizeOf9 rfl)) rfl ?_
          refine Dr_st (St_gd [51] rfl rfl rfl rfl ⟨⟨_, rfl⟩, trivial⟩ (fun hg52 => Pu_load1 rfl Tryz.isAgg9 rfl rfl)) rfl ?_
          refine Dr_st (St_gd [] rfl rfl rfl rfl trivial (fun hg53 => Pu_field 0 rfl Tryz.underlying34 rfl rfl Tryz.sizeOf9 rfl)) rfl ?_
          refine Dr_st (St_gd [53] rfl rfl rfl rfl ⟨⟨_, rfl⟩, trivial⟩ (fun hg54 => Pu_load1 rfl Tryz.isAgg9 rfl rfl)) rfl ?_
          refine Dr_st (St_gd [52, 54] rfl rfl rfl rfl ⟨⟨_, rfl⟩, ⟨_, rfl⟩, trivial⟩ (fun hg55 => Pu_str rfl rfl rfl rfl)) rfl ?_
          refine Dr_st (St_gd [55] rfl rfl rfl rfl ⟨⟨_, rfl⟩, trivial⟩ (fun hg56 => by exact Pu_move (.inl rfl) (by conv => lhs; whnf))) rfl ?_
          refine Dr_st (St_gd2 [] rfl rfl rfl rfl trivial (fun hp57 hg57 => by exact Pu_move (.inl rfl) (by conv => lhs; whnf))) rfl ?_
          refine Dr_st (St_gd2 [57] rfl rfl rfl rfl ⟨⟨_, rfl⟩, trivial⟩ (fun hp58 hg58 => Pu_nilb rfl rfl)) rfl ?_
          refine Dr_st (St_gd2 [58] rfl rfl rfl rfl ⟨⟨_, rfl⟩, trivial⟩ (fun hp59 hg59 => Pu_fieldb 2 rfl Tryz.underlying68 rfl rfl Tryz.sizeOf65 rfl)) rfl ?_
          refine Dr_st (St_gd2 [59] rfl rfl rfl rfl ⟨⟨_, rfl⟩, trivial⟩ (fun hp60 hg60 => Pu_loadb rfl Tryz.isAgg65 rfl rfl rfl)) rfl ?_
          refine Dr_st (St_gd2 [] rfl rfl rfl rfl trivial (fun hp61 hg61 => by exact Pu_move (.inl rfl) (by conv => lhs; whnf))) rfl ?_
          refine Dr_st (St_gd2 [60, 61] rfl rfl rfl rfl ⟨⟨_, rfl⟩, ⟨_, rfl⟩, trivial⟩ (fun hp62 hg62 => Pu_index rfl Tryz.underlying65 Tryz.sizeOf34 rfl rfl (rfl) (mapget hk))) rfl ?_
          refine Dr_st (St_gd2 [62] rfl rfl rfl rfl ⟨⟨_, rfl⟩, trivial⟩ (fun hp63 hg63 => Pu_field 3 rfl Tryz.underlying34 rfl rfl Tryz.sizeOf31 rfl)) rfl ?_
          refine Dr_st (St_gd2 [63] rfl rfl rfl rfl ⟨⟨_, rfl⟩, trivial⟩ (fun hp64 hg64 => Pu_loadN rfl Tryz.isAgg31 Tryz.sizeOf31 rfl (Nat.le_of_ble_eq_true rfl))) rfl ?_
          refine Dr_st (St_gd2 [] rfl rfl rfl rfl trivial (fun hp65 hg65 => Pu_field 3 rfl Tryz.underlying34 rfl rfl Tryz.sizeOf31 rfl)) rfl ?_
          refine Dr_st (St_gd2 [65] rfl rfl rfl rfl ⟨⟨_, rfl⟩, trivial⟩ (fun hp66 hg66 => Pu_loadN rfl Tryz.isAgg31 Tryz.sizeOf31 rfl (Nat.le_of_ble_eq_true rfl))) rfl ?_
          refine Dr_st (St_gd2 [64, 66] rfl rfl rfl rfl ⟨⟨_, rfl⟩, ⟨_, rfl⟩, trivial⟩ (fun hp67 hg67 => Pu_eqrow [.int .i64 _, .int .i64 _] [.int .i64 _, .int .i64 _] (fun w => eqv31 _ _ _ _ _ _ w) rfl rfl rfl)) rfl ?_
          refine Dr_st (St_gd [56] rfl rfl rfl rfl ⟨⟨_, rfl⟩, trivial⟩ (fun hg68 => Pu_andG rfl rfl (fun h => ⟨hg68, h⟩) rfl rfl)) rfl ?_
          refine Dr_p (Pu_or rfl rfl rfl rfl) ?_
          refine Dr_nil ?_
          refine Al_p Pu_mvr ?_
          refine Al_nil (Aw_region ?_)
          refine Al_p Pu_mvl ?_
          refine Al_p (Pu_add rfl rfl rfl (fun h1 h2 => by simp only [A.inI, A.maxI] at *; omega)) ?_
          refine Al_p Pu_mvr ?_
          refine Al_nil ?_
          exact ⟨k + 1, by omega, by omega, Le.ov ⟨Sub.num (by omega), Sub.bool (by rw [hsc]; rfl), trivial⟩ ⟨Sub.rfl, Sub.rfl, trivial⟩ trivial ⟨rfl, rfl, rfl, trivial⟩⟩ -- loop 0 next.0
        · (try simp only [decide_eq_true_eq, decide_eq_false_iff_not, Bool.and_eq_true, Bool.or_eq_true, Bool.and_eq_false_iff, Bool.or_eq_false_iff, Bool.not_eq_true', Bool.not_eq_false', beq_iff_eq, Bool.not_eq_eq_eq_not, Bool.not_true, Bool.not_false, List.length_map, Bool.and_true, Bool.and_false, Bool.false_and, Bool.true_and, Bool.or_false, Bool.false_or] at h40)
          have hkk : k = p.wait.length := by omega
          have hth : p.thereK v k = p.there v := by unfold PS.thereK; rw [hkk, List.take_length]; rfl
          refine Aw_exit (Aw_seq (Aw_seq (Aw_region ?_)))
          refine Al_p Pu_mvl ?_
          refine Al_nil ?_
          refine Aw_cond rfl (fun h70 => ?_) (fun h70 => ?_)
          · skip
            have h70' : p.there v = true := by rw [← hth]; exact h70
            have e2 : p.arriveE v = 13 := by unfold PS.arriveE; rw [if_neg (by rw [h0]; decide), if_neg hf, if_pos h70']
            have e1 : p.arrive v = p := by unfold PS.arrive; rw [e2, if_neg (by decide)]
            refine Aw_seq (Aw_region ?_)
            refine Al_p Pu_mvr ?_
            refine Al_nil ?_
            rw [e1, e2]
            try rw [e4]
            refine Aw_ret ?_
            exact ⟨_, _, [], rfl, Sub.rfl, ⟨rfl, rfl, rfl, trivial⟩, rfl⟩ -- ret 4
          · skip
            have h70' : p.there v = false := by rw [← hth]; exact h70
            have e2 : p.arriveE v = J.pushE p.wait v := by unfold PS.arriveE; rw [if_neg (by rw [h0]; decide), if_neg hf, if_neg (by rw [h70']; decide)]
            refine Aw_skip (Aw_seq ?_)
            refine Aw_draw 10 (by kernel_rfl) (by kernel_rfl) ?_
            refine Dr_p Pu_mvl ?_
            refine Dr_p (Pu_nilb rfl rfl) ?_
            refine Dr_p (Pu_fieldb 2 rfl Tryz.underlying68 rfl rfl Tryz.sizeOf65 rfl) ?_
            refine Dr_p (Pu_loadb rfl Tryz.isAgg65 rfl rfl rfl) ?_
            refine Dr_p (Pu_loadN rfl Tryz.isAgg34 Tryz.sizeOf34 rfl (Nat.le_of_ble_eq_true rfl)) ?_
            refine Dr_p (Pu_call (rpush14_a p.wait v (by omega)) rfl ⟨Sub.rfl, Sub.rfl, trivial⟩) ?_
            refine Dr_p Pu_mvl ?_
            refine Dr_p (Pu_extract rfl rfl rfl) ?_
            refine Dr_p (Pu_extract rfl rfl rfl) ?_
            refine Dr_p Pu_mvr ?_
            refine Dr_nil ?_
            refine Al_p Pu_mvr ?_
            refine Al_nil (Aw_seq (Aw_seq (Aw_region ?_)))
            refine Al_p Pu_mvl ?_
            refine Al_p (Pu_cmp rfl rfl rfl rfl) ?_
            refine Al_nil ?_
            refine Aw_cond rfl (fun h81 => ?_) (fun h81 => ?_)
            · (try simp only [decide_eq_true_eq, decide_eq_false_iff_not, Bool.and_eq_true, Bool.or_eq_true, Bool.and_eq_false_iff, Bool.or_eq_false_iff, Bool.not_eq_true', Bool.not_eq_false', beq_iff_eq, Bool.not_eq_eq_eq_not, Bool.not_true, Bool.not_false, List.length_map, Bool.and_true, Bool.and_false, Bool.false_and, Bool.true_and, Bool.or_false, Bool.false_or] at h81)
              have e1 : p.arrive v = p := by unfold PS.arrive; rw [if_neg (by rw [e2]; exact h81)]
              refine Aw_seq (Aw_region ?_)
              refine Al_p Pu_mvl ?_
              refine Al_p Pu_mvr ?_
              refine Al_nil ?_
              rw [e1, e2]
              try rw [e4]
              refine Aw_ret ?_
              exact ⟨_, _, [], rfl, Sub.rfl, ⟨rfl, rfl, rfl, trivial⟩, rfl⟩ -- ret 5
            · (try simp only [decide_eq_true_eq, decide_eq_false_iff_not, Bool.and_eq_true, Bool.or_eq_true, Bool.and_eq_false_iff, Bool.or_eq_false_iff, Bool.not_eq_true', Bool.not_eq_false', beq_iff_eq, Bool.not_eq_eq_eq_not, Bool.not_true, Bool.not_false, List.length_map, Bool.and_true, Bool.and_false, Bool.false_and, Bool.true_and, Bool.or_false, Bool.false_or] at h81)
              have e4 : J.pushE p.wait v = 0 := by simpa using h81
              have e1 : p.arrive v = ({ p with wait := p.wait ++ [v] } : PS).clockP v := by unfold PS.arrive; rw [if_pos (e2.trans e4), if_neg hf]
              refine Aw_skip ?_
              rw [if_pos e4]
              refine Aw_region ?_
              refine Al_p Pu_mvl ?_
              refine Al_p Pu_mvl ?_
              refine Al_p (Pu_nilb rfl rfl) ?_
              refine Al_p (Pu_fieldb 2 rfl Tryz.underlying68 rfl rfl Tryz.sizeOf65 rfl) ?_
              refine Al_store1 rfl rfl rfl (by kernel_rfl) Tryz.isAgg65 Tryz.sizeOf65 rfl rfl (Nat.le_of_ble_eq_true rfl) (by conv => lhs; whnf) rfl ?_
              refine Al_nil (Aw_seq ?_)
              refine Aw_draw 11 (by kernel_rfl) (by kernel_rfl) ?_
              refine Dr_p Pu_mvl ?_
              refine Dr_p Pu_mvl ?_
              refine Dr_p (Pu_nilb rfl rfl) ?_
              refine Dr_p (Pu_fieldb 3 rfl Tryz.underlying68 rfl rfl Tryz.sizeOf31 rfl) ?_
              refine Dr_p (Pu_loadbN (r := [_, _]) rfl Tryz.isAgg31 Tryz.sizeOf31 rfl rfl rfl rfl) ?_
              refine Dr_p (Pu_field 3 rfl Tryz.underlying34 rfl rfl Tryz.sizeOf31 rfl) ?_
              refine Dr_p (Pu_loadN rfl Tryz.isAgg31 Tryz.sizeOf31 rfl (Nat.le_of_ble_eq_true rfl)) ?_
              refine Dr_p (Pu_buildSlice (aa := [(0, _), (1, _)]) rfl Tryz.underlying101 Tryz.sizeOf31 Tryz.zeroValue31 rfl (by decide) (by decide) (by decide) (by kernel_rfl) ⟨rfl, rfl, rfl, rfl, rfl, rfl, trivial⟩ ((rfl : _ = some [[iv p.n, iv p.s], [iv v.n, iv v.s]].flatten)) rfl rfl) ?_
              refine Dr_p (Pu_call (rmax_a [(p.n, p.s), (v.n, v.s)]) rfl ⟨Sub.rfl, trivial⟩) ?_
              refine Dr_p (Pu_nilb rfl rfl) ?_
              refine Dr_p (Pu_fieldb 3 rfl Tryz.underlying68 rfl rfl Tryz.sizeOf31 rfl) ?_
              refine Dr_nil ?_
              refine Al_storeN rfl rfl rfl (by kernel_rfl) Tryz.isAgg31 Tryz.sizeOf31 rfl rfl rfl rfl (Nat.le_of_ble_eq_true rfl) ?_
              refine Al_nil (Aw_seq (Aw_region ?_))
              refine Al_p Pu_mvr ?_
              refine Al_nil ?_
              rw [e1, e2]
              try rw [e4]
              refine Aw_ret ?_
              exact ⟨_, _, [], rfl, Sub.rfl, ⟨rfl, rfl, rfl, trivial⟩, rfl⟩ -- ret 6
    · (try simp only [decide_eq_true_eq, decide_eq_false_iff_not, Bool.and_eq_true, Bool.or_eq_true, Bool.and_eq_false_iff, Bool.or_eq_false_iff, Bool.not_eq_true', Bool.not_eq_false', beq_iff_eq, Bool.not_eq_eq_eq_not, Bool.not_true, Bool.not_false, List.length_map, Bool.and_true, Bool.and_false, Bool.false_and, Bool.true_and, Bool.or_false, Bool.false_or] at h20)
      have hf : findR p.rs v.key < 0 := by omega
      have e2 : p.arriveE v = 0 := by unfold PS.arriveE; rw [if_neg (by rw [h0]; decide), if_pos hf]
      have e1 : p.arrive v = p.clockP v := by unfold PS.arrive; rw [if_pos e2, if_pos hf]
      refine Aw_skip (Aw_seq ?_)
      refine Aw_draw 11 (by kernel_rfl) (by kernel_rfl) ?_
      refine Dr_p Pu_mvl ?_
      refine Dr_p Pu_mvl ?_
      refine Dr_p (Pu_nilb rfl rfl) ?_
      refine Dr_p (Pu_fieldb 3 rfl Tryz.underlying68 rfl rfl Tryz.sizeOf31 rfl) ?_
      refine Dr_p (Pu_loadbN (r := [_, _]) rfl Tryz.isAgg31 Tryz.sizeOf31 rfl rfl rfl rfl) ?_
      refine Dr_p (Pu_field 3 rfl Tryz.underlying34 rfl rfl Tryz.sizeOf31 rfl) ?_
      refine Dr_p (Pu_loadN rfl Tryz.isAgg31 Tryz.sizeOf31 rfl (Nat.le_of_ble_eq_true rfl)) ?_
      refine Dr_p (Pu_buildSlice (aa := [(0, _), (1, _)]) rfl Tryz.underlying101 Tryz.sizeOf31 Tryz.zeroValue31 rfl (by decide) (by decide) (by decide) (by kernel_rfl) ⟨rfl, rfl, rfl, rfl, rfl, rfl, trivial⟩ ((rfl : _ = some [[iv p.n, iv p.s], [iv v.n, iv v.s]].flatten)) rfl rfl) ?_
      refine Dr_p (Pu_call (rmax_a [(p.n, p.s), (v.n, v.s)]) rfl ⟨Sub.rfl, trivial⟩) ?_
      refine Dr_p (Pu_nilb rfl rfl) ?_
      refine Dr_p (Pu_fieldb 3 rfl Tryz.underlying68 rfl rfl Tryz.sizeOf31 rfl) ?_
      refine Dr_nil ?_
      refine Al_storeN rfl rfl rfl (by kernel_rfl) Tryz.isAgg31 Tryz.sizeOf31 rfl rfl rfl rfl (Nat.le_of_ble_eq_true rfl) ?_
      refine Al_nil (Aw_seq (Aw_region ?_))
      refine Al_p Pu_mvr ?_
      refine Al_nil ?_
      rw [e1, e2]
      try rw [e4]
      refine Aw_ret ?_
      exact ⟨_, _, [], rfl, Sub.rfl, ⟨rfl, rfl, rfl, trivial⟩, rfl⟩ -- ret 7
set_option maxHeartbeats 1000000 in
theorem rtStep_g {m : Nat} (hp : p.Rk m) (hm : m ≤ 1000) : GCall Tryz.prog 30 [.bx 1001 0 0] (RT p 1003) (some (RT p.step 1004, .d (.tup [.row (p.stepV.getD default).row, bv p.stepV.isSome]))) := by
  refine GCall_enterL (fun _ _ => by kernel_rfl) Tryz.func30 rfl Tryz.ntmps30 (ReadsS.cN1 Tryz.results30 Tryz.isAgg34 Tryz.sizeOf34) (Nat.le_of_ble_eq_true rfl) (fun hok hokB M0 w0 hl => ?_)
  have hwl := hp.ok.wl
  have hcl : p.cs.length ≤ 1000 := (hp.ok.sm.mono hm).1
  have hnx := rnext14_a p.wait (J.have' p.cs) p.rs hp.ok.rl (PS.wait_past hp.ok) (by omega)
  refine Aw_seq (Aw_region ?_)
  refine Al_alloc rfl rfl rfl (by decide) Tryz.zeroValue34 rfl (by kernel_rfl) (fun g2 => ?_)
  refine Al_p Pu_mvr ?_
  refine Al_nil (Aw_seq ?_)
  refine Aw_drawA 17 (by kernel_rfl) (by kernel_rfl) rfl rfl rfl rfl (by decide) Tryz.zeroValue103 rfl (by kernel_rfl) rfl ?_
  refine Dr_p Pu_mvl ?_
  refine Dr_p (Pu_nilb rfl rfl) ?_
  refine Dr_p (Pu_fieldb 2 rfl Tryz.underlying68 rfl rfl Tryz.sizeOf65 rfl) ?_
  refine Dr_p (Pu_loadb rfl Tryz.isAgg65 rfl rfl rfl) ?_
  refine Dr_p Pu_mvl ?_
  refine Dr_p (Pu_nilb rfl rfl) ?_
  refine Dr_p (Pu_fieldb 1 rfl Tryz.underlying68 rfl rfl Tryz.sizeOf66 rfl) ?_
  refine Dr_p (Pu_loadb rfl Tryz.isAgg66 rfl rfl rfl) ?_
  refine Dr_p (Pu_gcall [(1001, 1002, 0), (1002, 1003, 0)] (rhave13_g p.rs p.cs hcl hp.ok.rise) (RH_in ..) rfl ⟨rfl, rfl, trivial⟩ rfl ⟨Sub.rfl, trivial⟩) ?_
  refine Dr_p Pu_mvl ?_
  refine Dr_p (Pu_nilb rfl rfl) ?_
  refine Dr_p (Pu_fieldb 1 rfl Tryz.underlying68 rfl rfl Tryz.sizeOf66 rfl) ?_
  refine Dr_p (Pu_loadb rfl Tryz.isAgg66 rfl rfl rfl) ?_
  refine Dr_p (Pu_nilb rfl rfl) ?_
  refine Dr_p (Pu_fieldb 0 rfl Tryz.underlying76 rfl rfl Tryz.sizeOf26 rfl) ?_
  refine Dr_p (Pu_loadb rfl Tryz.isAgg26 rfl rfl rfl) ?_
  refine Dr_p (Pu_call (hnx) rfl ⟨Sub.rfl, Sub.rfl, Sub.rfl, trivial⟩) ?_
  refine Dr_nil ?_
  intro g4
  refine Al_storeN rfl rfl rfl (by kernel_rfl) Tryz.isAgg103 Tryz.sizeOf103 rfl rfl rfl rfl (Nat.le_of_ble_eq_true rfl) ?_
  refine Al_nil (Aw_seq (Aw_seq (Aw_region ?_)))
  refine Al_p (Pu_fieldb 7 rfl Tryz.underlying103 rfl rfl Tryz.sizeOf4 rfl) ?_
  refine Al_p (Pu_loadb rfl Tryz.isAgg4 rfl rfl rfl) ?_
  refine Al_p (Pu_not rfl rfl) ?_
  refine Al_nil ?_
  refine Aw_cond rfl (fun h24 => ?_) (fun h24 => ?_)
  · skip
    have hv : J.nextV p.wait (J.have' p.cs) p.rs = none := by simpa using h24
    have hv2 : p.stepV = none := hv
    have e1 : p.step = p := by unfold PS.step; rw [hv2]
    refine Aw_seq (Aw_region ?_)
    refine Al_p (Pu_build (aa := []) rfl Tryz.underlying34 Tryz.zeroValue34 (places34 Tryz.underlying34) (by kernel_rfl) trivial rfl) ?_
    refine Al_storeN rfl rfl rfl (by kernel_rfl) Tryz.isAgg34 Tryz.sizeOf34 rfl rfl rfl rfl (Nat.le_of_ble_eq_true rfl) ?_
    refine Al_p Pu_mvr ?_
    refine Al_nil ?_
    rw [e1, hv2]
    refine Aw_boxle (k := 2) ((default : Ver).row.map .d) rfl ⟨Sub.rfl, Sub.rfl, Sub.rfl, Sub.rfl, Sub.rfl, Sub.nil, trivial⟩ ?_
    refine Aw_ret ?_
    exact ⟨_, _, [(1004, 1003, 0)], rfl, ⟨_, rfl, _, _, _, _, _, [_, _, _, _, _, _], _, rfl, rfl, rfl, rfl, Sub.rfl, rfl⟩, ⟨rfl, rfl, rfl, trivial⟩, rfl⟩ -- ret 0
  · skip
    obtain ⟨v, hv⟩ := Option.isSome_iff_exists.1 (show (J.nextV p.wait (J.have' p.cs) p.rs).isSome = true by simpa using h24)
    have hv2 : p.stepV = some v := hv
    have e1 : p.step = { p with wait := J.nextL p.wait (J.have' p.cs) p.rs, cs := (J.sput p.rs p.cs v).1 } := by unfold PS.step; rw [hv2]
    rw [hv]
    refine Aw_skip (Aw_seq ?_)
    refine Aw_draw 6 (by kernel_rfl) (by kernel_rfl) ?_
    refine Dr_p Pu_mvl ?_
    refine Dr_p (Pu_nilb rfl rfl) ?_
    refine Dr_p (Pu_fieldb 1 rfl Tryz.underlying68 rfl rfl Tryz.sizeOf66 rfl) ?_
    refine Dr_p (Pu_loadb rfl Tryz.isAgg66 rfl rfl rfl) ?_
    refine Dr_p (Pu_fieldb 0 rfl Tryz.underlying103 rfl rfl Tryz.sizeOf34 rfl) ?_
    refine Dr_p (Pu_loadbN (r := [_, _, _, _, _, _]) rfl Tryz.isAgg34 Tryz.sizeOf34 rfl rfl rfl rfl) ?_
    refine Dr_nil ?_
    refine Al_gcall [(1001, 1002, 0), (1002, 1003, 0)] [(1003, 1030)] (rput13_g p.rs p.cs v hp.ok.rl hp.ok.rise (hp.ok.sm.mono hm) hp.ch) rfl rfl rfl (by decide) (by kernel_rfl) ⟨rfl, rfl, trivial⟩ rfl ⟨Sub.rfl, Sub.rfl, trivial⟩ (fun g32 => ?_)
    refine Al_nil (Aw_seq (Aw_region ?_))
    refine Al_p Pu_mvl ?_
    refine Al_p (Pu_fieldb 6 rfl Tryz.underlying103 rfl rfl Tryz.sizeOf65 rfl) ?_
    refine Al_p (Pu_loadb rfl Tryz.isAgg65 rfl rfl rfl) ?_
    refine Al_p (Pu_nilb rfl rfl) ?_
    refine Al_p (Pu_fieldb 2 rfl Tryz.underlying68 rfl rfl Tryz.sizeOf65 rfl) ?_
    refine Al_store1 rfl rfl rfl (by kernel_rfl) Tryz.isAgg65 Tryz.sizeOf65 rfl rfl (Nat.le_of_ble_eq_true rfl) (by conv => lhs; whnf) rfl ?_
    refine Al_nil (Aw_seq (Aw_region ?_))
    refine Al_p (Pu_fieldb 0 rfl Tryz.underlying103 rfl rfl Tryz.sizeOf34 rfl) ?_
    refine Al_p (Pu_loadbN (r := [_, _, _, _, _, _]) rfl Tryz.isAgg34 Tryz.sizeOf34 rfl rfl rfl rfl) ?_
    refine Al_storeN rfl rfl rfl (by kernel_rfl) Tryz.isAgg34 Tryz.sizeOf34 rfl rfl rfl rfl (Nat.le_of_ble_eq_true rfl) ?_
    refine Al_p Pu_mvr ?_
    refine Al_nil ?_
    rw [e1, hv2]
    refine Aw_ret ?_
    exact ⟨_, _, [(1004, 1030, g32)], rfl, ⟨_, rfl, _, _, _, _, _, [_, _, _, _, _, _], _, rfl, rfl, rfl, rfl, Sub.rfl, rfl⟩, ⟨rfl, rfl, rfl, trivial⟩, rfl⟩ -- ret 1
set_option maxHeartbeats 1000000 in
theorem rtMove_g (rs : List Rng) (hrl : rs.length ≤ 1000000) (l : List Ver) {m : Nat} (hp : p.Rk m) (hm : m + l.length ≤ 1000) (hks : ∀ k, J.Chns (p.mvK rs l k).cs) : GCall Tryz.prog 33 [.bx 1001 0 0, .d (rngA rs), .d (versA l)] (RT p 1003) (some (RT (p.move rs l) 1004, .d (.tup []))) := by
  refine GCall_enterL (fun _ _ => by kernel_rfl) Tryz.func33 rfl Tryz.ntmps33 (ReadsS.r0 Tryz.results33) (Nat.le_of_ble_eq_true rfl) (fun hok hokB M0 w0 hl => ?_)
  have hwl := hp.ok.wl
  have hcl : p.cs.length ≤ 1000 := (hp.ok.sm.mono (show m ≤ 1000 by omega)).1
  refine Aw_seq (Aw_region ?_)
  refine Al_p Pu_mvl ?_
  refine Al_p (Pu_nilb rfl rfl) ?_
  refine Al_p (Pu_fieldb 1 rfl Tryz.underlying68 rfl rfl Tryz.sizeOf66 rfl) ?_
  refine Al_p (Pu_loadb rfl Tryz.isAgg66 rfl rfl rfl) ?_
  refine Al_p Pu_mvl ?_
  refine Al_gcall [(1001, 1002, 0), (1002, 1003, 0)] [(1003, 1030)] (rmove13_g p.rs rs p.cs hcl hrl) rfl rfl rfl (by decide) (by kernel_rfl) ⟨rfl, rfl, trivial⟩ rfl ⟨Sub.rfl, Sub.rfl, trivial⟩ (fun g12 => ?_)
  refine Al_nil (Aw_seq (Aw_region ?_))
  refine Al_p Pu_mvl ?_
  refine Al_p Pu_mvl ?_
  refine Al_p (Pu_nilb rfl rfl) ?_
  refine Al_p (Pu_fieldb 2 rfl Tryz.underlying68 rfl rfl Tryz.sizeOf65 rfl) ?_
  refine Al_p (Pu_loadb rfl Tryz.isAgg65 rfl rfl rfl) ?_
  refine Al_p Pu_mvl ?_
  refine Al_p (Pu_call (rdrop14_a p.wait rs hrl (by omega)) rfl ⟨Sub.rfl, Sub.rfl, trivial⟩) ?_
  refine Al_p (Pu_nilb rfl rfl) ?_
  refine Al_p (Pu_fieldb 2 rfl Tryz.underlying68 rfl rfl Tryz.sizeOf65 rfl) ?_
  refine Al_store1 rfl rfl rfl (by kernel_rfl) Tryz.isAgg65 Tryz.sizeOf65 rfl rfl (Nat.le_of_ble_eq_true rfl) (by conv => lhs; whnf) rfl ?_
  refine Al_nil (Aw_seq (Aw_region ?_))
  refine Al_p Pu_mvr ?_
  refine Al_nil (Aw_block ?_)
  refine Aw_loopk (ι := Nat × Nat) [0, 2] [] (fun (k, g) => [(6, .d (iv k))]) (fun (k, g) => [(1001, 0, .box 68 [.d (iv (p.mvK rs l k).id), .bx 1002 0 0, .d (versA (p.mvK rs l k).wait), .d (iv (p.mvK rs l k).n), .d (iv (p.mvK rs l k).s)]), (1002, 0, .box 76 [.d (rngA (p.mvK rs l k).rs), .ow 1030 g]), (1030, g, .arr 108 2 ((p.mvK rs l k).cs.map chR))]) (fun (k, g) => k ≤ l.length) (fun (k, g) => l.length - k) ((0, g12)) (Nat.zero_le _) ⟨Sub.rfl, trivial⟩ ⟨rfl, rfl, rfl, trivial⟩ ?_
  rintro ⟨k, g⟩ hk0
  refine Aw_seq (Aw_seq (Aw_region ?_))
  refine Al_p Pu_mvl ?_
  refine Al_p Pu_mvl ?_
  refine Al_p (Pu_len rfl Tryz.underlying65 rfl (by first | exact List.length_map .. | exact rfl)) ?_
  refine Al_p (Pu_cmp rfl rfl rfl rfl) ?_
  refine Al_nil ?_
  refine Aw_cond rfl (fun h25 => ?_) (fun h25 => ?_)
  · (try simp only [decide_eq_true_eq, decide_eq_false_iff_not, Bool.and_eq_true, Bool.or_eq_true, Bool.and_eq_false_iff, Bool.or_eq_false_iff, Bool.not_eq_true', Bool.not_eq_false', beq_iff_eq, Bool.not_eq_eq_eq_not, Bool.not_true, Bool.not_false, List.length_map, Bool.and_true, Bool.and_false, Bool.false_and, Bool.true_and, Bool.or_false, Bool.false_or] at h25)
    have hk : k < l.length := by omega
    have hsc := p.mvK_succ rs l hk
    have hok2 := hp.ok.mvK rs hrl l k
    have hch2 := hks k
    refine Aw_skip (Aw_seq (Aw_block (Aw_seq ?_)))
    refine Aw_draw 8 (by kernel_rfl) (by kernel_rfl) ?_
    refine Dr_p Pu_mvl ?_
    refine Dr_p (Pu_nilb rfl rfl) ?_
    refine Dr_p (Pu_fieldb 1 rfl Tryz.underlying68 rfl rfl Tryz.sizeOf66 rfl) ?_
    refine Dr_p (Pu_loadb rfl Tryz.isAgg66 rfl rfl rfl) ?_
    refine Dr_p Pu_mvl ?_
    refine Dr_p Pu_mvl ?_
    refine Dr_p (Pu_index rfl Tryz.underlying65 Tryz.sizeOf34 rfl rfl (rfl) (mapgetD (d := default) hk)) ?_
    refine Dr_p (Pu_loadN rfl Tryz.isAgg34 Tryz.sizeOf34 rfl (Nat.le_of_ble_eq_true rfl)) ?_
    refine Dr_nil ?_
    refine Al_gcall [(1001, 1002, 0), (1002, 1030, g)] [(1003, 1030)] (rput13_g (p.mvK rs l k).rs (p.mvK rs l k).cs (l.getD k default) hok2.rl hok2.rise (hok2.sm.mono (by omega)) hch2) rfl rfl rfl (by decide) (by kernel_rfl) ⟨rfl, rfl, trivial⟩ rfl ⟨Sub.rfl, Sub.rfl, trivial⟩ (fun g36 => ?_)
    refine Al_nil ?_
    refine Aw_draw 14 (by kernel_rfl) (by kernel_rfl) ?_
    refine Dr_p Pu_mvl ?_
    refine Dr_p Pu_mvl ?_
    refine Dr_p (Pu_nilb rfl rfl) ?_
    refine Dr_p (Pu_fieldb 3 rfl Tryz.underlying68 rfl rfl Tryz.sizeOf31 rfl) ?_
    refine Dr_p (Pu_loadbN (r := [_, _]) rfl Tryz.isAgg31 Tryz.sizeOf31 rfl rfl rfl rfl) ?_
    refine Dr_p Pu_mvl ?_
    refine Dr_p Pu_mvl ?_
    refine Dr_p (Pu_index rfl Tryz.underlying65 Tryz.sizeOf34 rfl rfl (rfl) (mapgetD (d := default) hk)) ?_
    refine Dr_p (Pu_field 3 rfl Tryz.underlying34 rfl rfl Tryz.sizeOf31 rfl) ?_
    refine Dr_p (Pu_loadN rfl Tryz.isAgg31 Tryz.sizeOf31 rfl (Nat.le_of_ble_eq_true rfl)) ?_
    refine Dr_p (Pu_buildSlice (aa := [(0, _), (1, _)]) rfl Tryz.underlying101 Tryz.sizeOf31 Tryz.zeroValue31 rfl (by decide) (by decide) (by decide) (by kernel_rfl) ⟨rfl, rfl, rfl, rfl, rfl, rfl, trivial⟩ ((rfl : _ = some [[iv (p.mvK rs l k).n, iv (p.mvK rs l k).s], [iv (l.getD k default).n, iv (l.getD k default).s]].flatten)) rfl rfl) ?_
    refine Dr_p (Pu_call (rmax_a [((p.mvK rs l k).n, (p.mvK rs l k).s), ((l.getD k default).n, (l.getD k default).s)]) rfl ⟨Sub.rfl, trivial⟩) ?_
    refine Dr_p (Pu_nilb rfl rfl) ?_
    refine Dr_p (Pu_fieldb 3 rfl Tryz.underlying68 rfl rfl Tryz.sizeOf31 rfl) ?_
    refine Dr_nil ?_
    refine Al_storeN rfl rfl rfl (by kernel_rfl) Tryz.isAgg31 Tryz.sizeOf31 rfl rfl rfl rfl (Nat.le_of_ble_eq_true rfl) ?_
    refine Al_nil (Aw_region ?_)
    refine Al_p Pu_mvl ?_
    refine Al_p (Pu_add rfl rfl rfl (fun h1 h2 => by simp only [A.inI, A.maxI] at *; omega)) ?_
    refine Al_p Pu_mvr ?_
    refine Al_nil ?_
    exact ⟨(k + 1, g36), by omega, by simp only []; omega, Le.ov ⟨Sub.num (by omega), trivial⟩ ⟨Sub.rfl, Sub.rfl, trivial⟩ ⟨by rw [hsc]; rfl, by rw [hsc]; rfl, by rw [hsc]; rfl, trivial⟩ trivial⟩ -- loop 0 next.0
  · (try simp only [decide_eq_true_eq, decide_eq_false_iff_not, Bool.and_eq_true, Bool.or_eq_true, Bool.and_eq_false_iff, Bool.or_eq_false_iff, Bool.not_eq_true', Bool.not_eq_false', beq_iff_eq, Bool.not_eq_eq_eq_not, Bool.not_true, Bool.not_false, List.length_map, Bool.and_true, Bool.and_false, Bool.false_and, Bool.true_and, Bool.or_false, Bool.false_or] at h25)
    have hkk : k = l.length := by omega
    have hml : p.mvK rs l k = p.move rs l := by rw [hkk, p.mvK_all]
    refine Aw_exit ?_
    exact ⟨_, _, [(1004, 1030, g)], rfl, rfl, ⟨by rw [← hml]; rfl, by rw [← hml]; rfl, by rw [← hml]; rfl, trivial⟩, rfl⟩ -- ret 0
end
end Go.Proofs.YtmbaeloiepjakaaGreat
end

section
namespace Go.Proofs.YtmbaeloiepjakaaGreat
open Go.RowKit A R
namespace TOp
def id6 (z : Int) : Int := Int.tmod (Int.tmod z 6 + 6) 6
theorem id6_le (z : Int) : (0 ≤ id6 z ∧ id6 z < 6) ∧ -6 < Int.tmod z 6 ∧ Int.tmod z 6 < 6 := by
  have h0 : -6 < Int.tmod z 6 := Int.lt_tmod_of_pos _ (by decide)
  have h1 : Int.tmod z 6 < 6 := Int.tmod_lt_of_pos _ (by decide)
  unfold id6
  have h2 : 0 ≤ Int.tmod z 6 + 6 := by omega
  exact ⟨⟨Int.tmod_nonneg _ h2, Int.tmod_lt_of_pos _ (by decide)⟩, h0, h1⟩
end TOp
end Go.Proofs.YtmbaeloiepjakaaGreat
end
