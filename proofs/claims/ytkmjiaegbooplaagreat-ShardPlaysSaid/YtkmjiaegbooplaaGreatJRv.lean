/- The reference's versions and chains: ref04.Check, ref06.Check, ref12.Put, Head, At, Below, Keeps, Clean (over chains that rise). -/
import Derived.Test.YtkmjiaegbooplaaGreatJLf
set_option linter.unusedSimpArgs false
set_option linter.unusedVariables false
set_option maxRecDepth 100000
namespace Go.Proofs.YtkmjiaegbooplaaGreat
open Go.RowKit A R
open A.RowT
namespace J
theorem frm_eq {l : List Ver} {n s : Int} {i : Nat} (hi : i < l.length) (h1 : notB n s l[i] = true) (h2 : ¬ frm l n s < i) : frm l n s = i := by
  unfold frm at *
  rcases Nat.lt_trichotomy (l.findIdx (notB n s)) i with h | h | h
  · exact (h2 h).elim
  · exact h
  · have := List.not_of_lt_findIdx h
    rw [h1] at this; simp at this
theorem frm_ne {l : List Ver} {n s : Int} {i : Nat} (hi : i < l.length) (h1 : notB n s l[i] = false) : frm l n s ≠ i := fun e => by
  have h : l.findIdx (notB n s) < l.length := by unfold frm at e; omega
  have h2 := List.findIdx_getElem (w := h)
  have h3 : l[l.findIdx (notB n s)] = l[i] := by congr 1
  rw [h3, h1] at h2; cases h2
theorem beq2_comm {a b c d : Int} (h : ((a == b) && (c == d)) = false) : ((b == a) && (d == c)) = false := by
  rw [BEq.comm (a := b), BEq.comm (a := d)]; exact h
/-- What ref12.Put has put together. -/
def outI (l : List Ver) (v : Ver) (i : Nat) : List Ver := if frm l v.n v.s < i then l.take (frm l v.n v.s) ++ v :: (l.take i).drop (frm l v.n v.s) else l.take i
theorem outI_zero (l : List Ver) (v : Ver) : outI l v 0 = [] := by unfold outI; rw [if_neg (by omega)]; rfl
theorem outI_at {l : List Ver} {v : Ver} {i : Nat} (hi : i < l.length) (h : frm l v.n v.s = i) : outI l v (i + 1) = outI l v i ++ [v] ++ [l[i]] := by
  unfold outI
  rw [if_pos (by omega), if_neg (by omega), h, List.take_succ_eq_append_getElem hi, List.drop_append, List.drop_of_length_le (by rw [List.length_take]; omega)]
  simp [show i - min i l.length = 0 from by omega]
theorem outI_ne {l : List Ver} {v : Ver} {i : Nat} (hi : i < l.length) (h : frm l v.n v.s ≠ i) : outI l v (i + 1) = outI l v i ++ [l[i]] := by
  unfold outI
  rcases Nat.lt_or_ge (frm l v.n v.s) i with h1 | h1
  · rw [if_pos (by omega), if_pos h1, List.take_succ_eq_append_getElem hi, List.drop_append_of_le_length (by simp; omega)]
    simp
  · rw [if_neg (by omega), if_neg (by omega), List.take_succ_eq_append_getElem hi]
theorem outI_len (l : List Ver) (v : Ver) (i : Nat) : (outI l v i).length ≤ l.length + 1 := by
  unfold outI
  split
  · simp; omega
  · simp; omega
theorem put_eq {l : List Ver} {v : Ver} (h1 : checkB v = true) (h2 : ∀ x, l[0]? = some x → x.key.toList = v.key.toList) (h3 : ∀ x ∈ l, isSt v.n v.s x = false) : put l v = some (if frm l v.n v.s < l.length then outI l v l.length else outI l v l.length ++ [v]) := by
  unfold put
  rw [if_pos ⟨h1, h2, fun x hx => h3 x (List.mem_of_getElem? hx)⟩]
  congr 1
  unfold outI
  split
  · rw [List.take_length]
  · rename_i h
    have := frm_le l v.n v.s
    rw [show frm l v.n v.s = l.length from by omega]
    simp
theorem put_st {l : List Ver} {v : Ver} (hc : Chn l) {i : Nat} (hi : i < l.length) (h : isSt v.n v.s l[i] = true) : put l v = none := by
  have hst : l[i].n = v.n ∧ l[i].s = v.s := by unfold isSt at h; simpa using h
  have hf : frm l v.n v.s = i := by
    refine frm_eq hi ?_ fun hlt => ?_
    · unfold notB; rw [hst.1, hst.2]; unfold D.lessB; simp
    · have hfl : l.findIdx (notB v.n v.s) < l.length := by unfold frm at hlt; omega
      have h2 := List.findIdx_getElem (w := hfl)
      have h3 : D.lessB l[l.findIdx (notB v.n v.s)].n l[l.findIdx (notB v.n v.s)].s l[i].n l[i].s = true := List.pairwise_iff_getElem.1 hc _ i hfl hi hlt
      rw [hst.1, hst.2] at h3
      have h5 : notB v.n v.s l[l.findIdx (notB v.n v.s)] = false := by
        show (!D.lessB _ _ _ _) = false
        rw [h3]; rfl
      rw [h5] at h2; cases h2
  unfold put
  rw [if_neg]
  rintro ⟨_, _, h4⟩
  have := h4 l[i] (by rw [hf, List.getElem?_eq_getElem hi])
  rw [h] at this; cases this
/-- The last one of those ahead of i that is not above. -/
def belI (l : List Ver) (n s : Int) (i : Nat) : Option Ver := ((l.take i).filter fun x => !D.lessB n s x.n x.s).getLast?
theorem belI_succ {l : List Ver} {n s : Int} {i : Nat} (hi : i < l.length) : belI l n s (i + 1) = if D.lessB n s l[i].n l[i].s then belI l n s i else some l[i] := by
  unfold belI
  rw [List.take_succ_eq_append_getElem hi, List.filter_append]
  cases h : D.lessB n s l[i].n l[i].s with
  | true => simp [h]
  | false => simp [h]
theorem told_last {l : List Ver} : ∀ {k : Nat}, k ≤ l.length → told l ((k : Int) - 1) = (l.take k).getLast?
  | 0, _ => by rw [told_no (.inl (by omega))]; rfl
  | k + 1, h => by
    rw [show (((k + 1 : Nat) : Int) - 1) = (k : Nat) from by omega, told_at (show k < l.length by omega), List.take_succ_eq_append_getElem (by omega), List.getLast?_concat]
theorem bel_below {l : List Ver} (n s : Int) (hc : Chn l) : belI l n s l.length = below l n s := by
  obtain ⟨f, hfr⟩ : ∃ f, f = frm l n s := ⟨_, rfl⟩
  have hfl : f ≤ l.length := by rw [hfr]; exact frm_le l n s
  have h1 : ∀ x ∈ l.take f, D.lessB x.n x.s n s = true := fun x hx => by
    obtain ⟨i, hi, rfl⟩ := List.mem_iff_getElem.1 hx
    have hi2 : i < f := by simp at hi; omega
    have h2 : notB n s (l[i]'(by omega)) = false := by
      have := List.not_of_lt_findIdx (p := notB n s) (xs := l) (i := i) (by unfold frm at hfr; omega)
      simpa using this
    rw [List.getElem_take]
    unfold notB at h2
    simpa using h2
  have f1 : (l.take f).filter (fun x => !D.lessB n s x.n x.s) = l.take f := List.filter_eq_self.2 fun x hx => by rw [less_asymm (h1 x hx)]; rfl
  have e : l.filter (fun x => !D.lessB n s x.n x.s) = l.take f ++ (l.drop f).filter (fun x => !D.lessB n s x.n x.s) := by
    conv => lhs; rw [← List.take_append_drop f l]
    rw [List.filter_append, f1]
  unfold belI
  rw [List.take_length, e]
  rcases Nat.lt_or_ge f l.length with hf | hf
  · have hd : l.drop f = l[f] :: l.drop (f + 1) := List.drop_eq_getElem_cons hf
    have hr : ∀ x ∈ l.drop (f + 1), D.lessB l[f].n l[f].s x.n x.s = true := by
      have h2 : Chn (l.drop f) := List.Pairwise.sublist (List.drop_sublist f l) hc
      rw [hd] at h2
      exact (List.pairwise_cons.1 h2).1
    have hnb : notB n s l[f] = true := by
      have h2 := List.findIdx_getElem (p := notB n s) (xs := l) (w := by unfold frm at hfr; omega)
      have h3 : l[l.findIdx (notB n s)]'(by unfold frm at hfr; omega) = l[f] := by congr 1; exact hfr.symm
      rw [h3] at h2; exact h2
    have hat : atc l n s = if isSt n s l[f] then some l[f] else none := by
      unfold atc
      rw [← hfr, List.getElem?_eq_getElem hf, Option.filter_some]
    rw [hd, List.filter_cons]
    unfold below
    rw [hat]
    cases hst : isSt n s l[f] with
    | true =>
      have he : l[f].n = n ∧ l[f].s = s := by unfold isSt at hst; simpa using hst
      have hno : D.lessB n s l[f].n l[f].s = false := by rw [he.1, he.2]; unfold D.lessB; simp
      have hnil : (l.drop (f + 1)).filter (fun x => !D.lessB n s x.n x.s) = [] := List.filter_eq_nil_iff.2 fun x hx => by
        have := hr x hx
        rw [he.1, he.2] at this
        rw [this]; decide
      rw [hno, hnil]
      simp only [Bool.not_false, if_true]
      exact List.getLast?_concat ..
    | false =>
      have hls : D.lessB n s l[f].n l[f].s = true := less_tri (by unfold notB at hnb; simpa using hnb) hst
      have hnil : (l.drop (f + 1)).filter (fun x => !D.lessB n s x.n x.s) = [] := List.filter_eq_nil_iff.2 fun x hx => by
        rw [less_trans hls (hr x hx)]; decide
      rw [hls, hnil, ← hfr]
      simp only [Bool.not_true, Bool.false_eq_true, if_false, List.append_nil]
      exact (told_last hfl).symm
  · have hat : atc l n s = none := by
      unfold atc
      rw [← hfr, List.getElem?_eq_none hf]; rfl
    unfold below
    rw [hat, ← hfr, List.drop_of_length_le hf]
    simp only [List.filter_nil, List.append_nil]
    exact (told_last hfl).symm
end J
theorem rpcheck_a (p : List Dep) : ACall Tryz.prog 78 [.sl 3 (p.map Dep.row)] (bv (J.pastB p)) := by
  refine ACall_enter (fun _ _ => by kernel_rfl) Tryz.func78 rfl Tryz.ntmps78 Tryz.results78 (Nat.le_of_ble_eq_true rfl) (fun hok M0 w0 hnl => ?_)
  have hlen := (hok _ (List.mem_cons_self ..)).len
  rw [List.length_map] at hlen
  refine Aw_seq ?_
  refine Aw_region ?_
  refine Al_pu (Pu_move (.inr rfl) (by conv => lhs; whnf)) rfl rfl (by decide) (by kernel_rfl) ?_
  refine Al_nil ?_
  refine Aw_seq ?_
  refine Aw_seq ?_
  refine Aw_region ?_
  refine Al_pu (Pu_move (.inr rfl) (by conv => lhs; whnf)) rfl rfl (by decide) (by kernel_rfl) ?_
  refine Al_nil ?_
  refine Aw_block ?_
  refine Aw_loopk (ι := Nat) [0] [] (fun k => [(3, .d (iv k))]) (fun k => []) (fun k => k ≤ p.length ∧ ∀ i, i < k → J.okAt p i = true) (fun k => p.length - k) (0) (⟨Nat.zero_le _, by intros; omega⟩) ⟨Sub.rfl, trivial⟩ trivial ?_
  rintro k ⟨hk0, hno⟩
  refine Aw_seq ?_
  refine Aw_seq ?_
  refine Aw_region ?_
  refine Al_pu (Pu_move (.inl rfl) (by conv => lhs; whnf)) rfl rfl (by decide) (by kernel_rfl) ?_
  refine Al_pu (Pu_move (.inl rfl) (by conv => lhs; whnf)) rfl rfl (by decide) (by kernel_rfl) ?_
  refine Al_pu (Pu_len rfl Tryz.underlying34 rfl (by first | exact List.length_map .. | exact rfl)) rfl rfl (by decide) (by kernel_rfl) ?_
  refine Al_pu (Pu_cmp rfl rfl rfl rfl) rfl rfl (by decide) (by kernel_rfl) ?_
  refine Al_nil ?_
  refine Aw_cond rfl (fun h9 => ?_) (fun h9 => ?_)
  · (try simp only [decide_eq_true_eq, decide_eq_false_iff_not, List.length_map] at h9)
    have hk : k < p.length := by omega
    refine Aw_skip ?_
    refine Aw_seq ?_
    refine Aw_block ?_
    refine Aw_seq ?_
    refine Aw_region ?_
    refine Al_pu (Pu_move (.inl rfl) (by conv => lhs; whnf)) rfl rfl (by decide) (by kernel_rfl) ?_
    refine Al_pu (Pu_move (.inl rfl) (by conv => lhs; whnf)) rfl rfl (by decide) (by kernel_rfl) ?_
    refine Al_pu (Pu_index rfl Tryz.underlying34 Tryz.sizeOf38 rfl rfl (rfl) (mapgetD (d := default) hk)) rfl rfl (by decide) (by kernel_rfl) ?_
    refine Al_pu (Pu_field 0 rfl Tryz.underlying38 rfl rfl Tryz.sizeOf9 rfl) rfl rfl (by decide) (by kernel_rfl) ?_
    refine Al_pu (Pu_load1 rfl Tryz.isAgg9 rfl rfl) rfl rfl (by decide) (by kernel_rfl) ?_
    refine Al_pu (Pu_call (rcheck_a _) rfl ⟨Sub.rfl, trivial⟩) rfl rfl (by decide) (by kernel_rfl) ?_
    refine Al_pu (Pu_move (.inr rfl) (by conv => lhs; whnf)) rfl rfl (by decide) (by kernel_rfl) ?_
    refine Al_nil ?_
    refine Aw_seq ?_
    refine Aw_region ?_
    refine Al_pu (Pu_move (.inl rfl) (by conv => lhs; whnf)) rfl rfl (by decide) (by kernel_rfl) ?_
    refine Al_pu (Pu_move (.inl rfl) (by conv => lhs; whnf)) rfl rfl (by decide) (by kernel_rfl) ?_
    refine Al_pu (Pu_index rfl Tryz.underlying34 Tryz.sizeOf38 rfl rfl (rfl) (mapgetD (d := default) hk)) rfl rfl (by decide) (by kernel_rfl) ?_
    refine Al_pu (Pu_field 1 rfl Tryz.underlying38 rfl rfl Tryz.sizeOf33 rfl) rfl rfl (by decide) (by kernel_rfl) ?_
    refine Al_pu (Pu_loadN rfl Tryz.isAgg33 Tryz.sizeOf33 rfl (Nat.le_of_ble_eq_true rfl)) rfl rfl (by decide) (by kernel_rfl) ?_
    refine Al_pu (Pu_call (rstcheck_a _ _) rfl ⟨Sub.rfl, trivial⟩) rfl rfl (by decide) (by kernel_rfl) ?_
    refine Al_pu (Pu_move (.inr rfl) (by conv => lhs; whnf)) rfl rfl (by decide) (by kernel_rfl) ?_
    refine Al_nil ?_
    refine Aw_seq ?_
    refine Aw_draw 24 (by kernel_rfl) (by kernel_rfl) ?_
    refine Dr_pu (Pu_move (.inl rfl) (by conv => lhs; whnf)) rfl rfl ?_
    refine Dr_pu (Pu_not rfl rfl) rfl rfl ?_
    refine Dr_pu (Pu_move (.inl rfl) (by conv => lhs; whnf)) rfl rfl ?_
    refine Dr_st (St_gd [] rfl rfl rfl rfl trivial (fun hg27 => by exact Pu_move (.inl rfl) (by conv => lhs; whnf))) rfl ?_
    refine Dr_st (St_gd [27] rfl rfl rfl rfl ⟨⟨_, rfl⟩, trivial⟩ (fun hg28 => Pu_not rfl rfl)) rfl ?_
    refine Dr_pu (Pu_or rfl rfl rfl rfl) rfl rfl ?_
    refine Dr_pu (Pu_move (.inl rfl) (by conv => lhs; whnf)) rfl rfl ?_
    refine Dr_st (St_gd [] rfl rfl rfl rfl trivial (fun hg31 => by exact Pu_move (.inl rfl) (by conv => lhs; whnf))) rfl ?_
    refine Dr_st (St_gd [31] rfl rfl rfl rfl ⟨⟨_, rfl⟩, trivial⟩ (fun hg32 => Pu_cmp rfl rfl rfl rfl)) rfl ?_
    refine Dr_st (St_gd [32] rfl rfl rfl rfl ⟨⟨_, rfl⟩, trivial⟩ (fun hg33 => by exact Pu_move (.inl rfl) (by conv => lhs; whnf))) rfl ?_
    refine Dr_st (St_gd2 [] rfl rfl rfl rfl trivial (fun hp34 hg34 => by exact Pu_move (.inl rfl) (by conv => lhs; whnf))) rfl ?_
    refine Dr_st (St_gd2 [] rfl rfl rfl rfl trivial (fun hp35 hg35 => by exact Pu_move (.inl rfl) (by conv => lhs; whnf))) rfl ?_
    refine Dr_st (St_gd2 [35] rfl rfl rfl rfl ⟨⟨_, rfl⟩, trivial⟩ (fun hp36 hg36 => by exact Pu_sub rfl rfl rfl (fun h1 h2 => by simp only [A.inI, A.maxI] at *; omega))) rfl ?_
    refine Dr_st (St_gd2 [34, 36] rfl rfl rfl rfl ⟨⟨_, rfl⟩, ⟨_, rfl⟩, trivial⟩ (fun hp37 hg37 => by exact Pu_index rfl Tryz.underlying34 Tryz.sizeOf38 rfl rfl ((show ((k : Int) - 1) = ((k - 1 : Nat) : Int) from by have := of_decide_eq_true hg37; omega)) (mapgetD (d := default) (show k - 1 < p.length by omega)))) rfl ?_
    refine Dr_st (St_gd2 [37] rfl rfl rfl rfl ⟨⟨_, rfl⟩, trivial⟩ (fun hp38 hg38 => Pu_field 0 rfl Tryz.underlying38 rfl rfl Tryz.sizeOf9 rfl)) rfl ?_
    refine Dr_st (St_gd2 [38] rfl rfl rfl rfl ⟨⟨_, rfl⟩, trivial⟩ (fun hp39 hg39 => Pu_load1 rfl Tryz.isAgg9 rfl rfl)) rfl ?_
    refine Dr_st (St_gd2 [] rfl rfl rfl rfl trivial (fun hp40 hg40 => by exact Pu_move (.inl rfl) (by conv => lhs; whnf))) rfl ?_
    refine Dr_st (St_gd2 [] rfl rfl rfl rfl trivial (fun hp41 hg41 => by exact Pu_move (.inl rfl) (by conv => lhs; whnf))) rfl ?_
    refine Dr_st (St_gd2 [40, 41] rfl rfl rfl rfl ⟨⟨_, rfl⟩, ⟨_, rfl⟩, trivial⟩ (fun hp42 hg42 => Pu_index rfl Tryz.underlying34 Tryz.sizeOf38 rfl rfl (rfl) (mapgetD (d := default) hk))) rfl ?_
    refine Dr_st (St_gd2 [42] rfl rfl rfl rfl ⟨⟨_, rfl⟩, trivial⟩ (fun hp43 hg43 => Pu_field 0 rfl Tryz.underlying38 rfl rfl Tryz.sizeOf9 rfl)) rfl ?_
    refine Dr_st (St_gd2 [43] rfl rfl rfl rfl ⟨⟨_, rfl⟩, trivial⟩ (fun hp44 hg44 => Pu_load1 rfl Tryz.isAgg9 rfl rfl)) rfl ?_
    refine Dr_st (St_gd2 [39, 44] rfl rfl rfl rfl ⟨⟨_, rfl⟩, ⟨_, rfl⟩, trivial⟩ (fun hp45 hg45 => Pu_str rfl rfl rfl rfl)) rfl ?_
    refine Dr_st (St_gd [33] rfl rfl rfl rfl ⟨⟨_, rfl⟩, trivial⟩ (fun hg46 => Pu_andG rfl rfl (fun h => ⟨hg46, h⟩) rfl rfl)) rfl ?_
    refine Dr_pu (Pu_or rfl rfl rfl rfl) rfl rfl ?_
    refine Dr_nil ?_
    refine Al_nil ?_
    refine Aw_cond rfl (fun h47 => ?_) (fun h47 => ?_)
    · skip
      have hf : J.okAt p k = false := by
        unfold J.okAt D.okB
        rcases Nat.eq_zero_or_pos k with h0 | h0
        · subst h0
          cases h1 : K.checkB (p.getD 0 default).key with
          | false => rfl
          | true => cases h2 : V.stampB (p.getD 0 default).n (p.getD 0 default).s with
            | false => rfl
            | true => rw [h1, h2] at h47; simp at h47
        · rw [show decide (k = 0) = false from by simp; omega, Bool.false_or]
          simp only [Bool.or_eq_true, Bool.not_eq_true', Bool.and_eq_true, decide_eq_true_eq] at h47
          rcases h47 with (h | h) | h
          · rw [h]; rfl
          · rw [h]; simp
          · rw [h.2, Bool.and_false]
      refine Aw_seq ?_
      refine Aw_region ?_
      refine Al_pu (Pu_move (.inr rfl) (by conv => lhs; whnf)) rfl rfl (by decide) (by kernel_rfl) ?_
      refine Al_nil ?_
      refine Aw_ret ?_
      exact Sub.bool (J.past_no hk hf).symm -- ret 0
    · skip
      have hf : J.okAt p k = true := by
        unfold J.okAt D.okB
        rcases Nat.eq_zero_or_pos k with h0 | h0
        · subst h0
          simpa using h47
        · rw [show decide (k = 0) = false from by simp; omega, Bool.false_or]
          simp only [Bool.or_eq_false_iff, Bool.not_eq_false', Bool.and_eq_false_iff, decide_eq_false_iff_not] at h47
          obtain ⟨⟨h1, h3⟩, h2⟩ := h47
          rw [h1, h3, Bool.true_and]
          rcases h2 with h | h
          · omega
          · simpa using h
      refine Aw_skip ?_
      refine Aw_region ?_
      refine Al_pu (Pu_move (.inl rfl) (by conv => lhs; whnf)) rfl rfl (by decide) (by kernel_rfl) ?_
      refine Al_pu (Pu_add rfl rfl rfl (fun h1 h2 => by simp only [A.inI, A.maxI] at *; omega)) rfl rfl (by decide) (by kernel_rfl) ?_
      refine Al_pu (Pu_move (.inr rfl) (by conv => lhs; whnf)) rfl rfl (by decide) (by kernel_rfl) ?_
      refine Al_nil ?_
      exact ⟨k + 1, ⟨by omega, fun i hi => by
        rcases Nat.lt_succ_iff_lt_or_eq.1 hi with h | rfl
        · exact hno i h
        · exact hf⟩, by omega, Le.ov ⟨Sub.num (by omega), trivial⟩ ⟨Sub.rfl, trivial⟩ trivial trivial⟩ -- loop 0 next.0
  · (try simp only [decide_eq_true_eq, decide_eq_false_iff_not, List.length_map] at h9)
    have hk : k = p.length := by omega
    refine Aw_exit ?_
    refine Aw_seq ?_
    refine Aw_region ?_
    refine Al_pu (Pu_move (.inl rfl) (by conv => lhs; whnf)) rfl rfl (by decide) (by kernel_rfl) ?_
    refine Al_pu (Pu_len rfl Tryz.underlying34 rfl (by first | exact List.length_map .. | exact rfl)) rfl rfl (by decide) (by kernel_rfl) ?_
    refine Al_pu (Pu_cmp rfl rfl rfl rfl) rfl rfl (by decide) (by kernel_rfl) ?_
    refine Al_pu (Pu_move (.inr rfl) (by conv => lhs; whnf)) rfl rfl (by decide) (by kernel_rfl) ?_
    refine Al_nil ?_
    refine Aw_ret ?_
    exact Sub.bool (J.past_all (by subst hk; exact hno)).symm -- ret 1
theorem rvcheck_a (v : Ver) : ACall Tryz.prog 58 [.row v.row] (bv (J.checkB v)) := by
  refine ACall_enter (fun _ _ => by kernel_rfl) Tryz.func58 rfl Tryz.ntmps58 Tryz.results58 (Nat.le_of_ble_eq_true rfl) (fun hok M0 w0 hnl => ?_)
  refine Aw_seq ?_
  refine Aw_region ?_
  refine Al_pu (Pu_boxN rfl rfl) rfl rfl (by decide) (by kernel_rfl) ?_
  refine Al_pu (Pu_move (.inr rfl) (by conv => lhs; whnf)) rfl rfl (by decide) (by kernel_rfl) ?_
  refine Al_nil ?_
  refine Aw_seq ?_
  refine Aw_region ?_
  refine Al_pu (Pu_field 0 rfl Tryz.underlying36 rfl rfl Tryz.sizeOf9 rfl) rfl rfl (by decide) (by kernel_rfl) ?_
  refine Al_pu (Pu_load1 rfl Tryz.isAgg9 rfl rfl) rfl rfl (by decide) (by kernel_rfl) ?_
  refine Al_pu (Pu_call (rcheck_a _) rfl ⟨Sub.rfl, trivial⟩) rfl rfl (by decide) (by kernel_rfl) ?_
  refine Al_pu (Pu_move (.inr rfl) (by conv => lhs; whnf)) rfl rfl (by decide) (by kernel_rfl) ?_
  refine Al_nil ?_
  refine Aw_seq ?_
  refine Aw_region ?_
  refine Al_pu (Pu_field 3 rfl Tryz.underlying36 rfl rfl Tryz.sizeOf33 rfl) rfl rfl (by decide) (by kernel_rfl) ?_
  refine Al_pu (Pu_loadN rfl Tryz.isAgg33 Tryz.sizeOf33 rfl (Nat.le_of_ble_eq_true rfl)) rfl rfl (by decide) (by kernel_rfl) ?_
  refine Al_pu (Pu_call (rstcheck_a _ _) rfl ⟨Sub.rfl, trivial⟩) rfl rfl (by decide) (by kernel_rfl) ?_
  refine Al_pu (Pu_move (.inr rfl) (by conv => lhs; whnf)) rfl rfl (by decide) (by kernel_rfl) ?_
  refine Al_nil ?_
  refine Aw_seq ?_
  refine Aw_region ?_
  refine Al_pu (Pu_field 5 rfl Tryz.underlying36 rfl rfl Tryz.sizeOf34 rfl) rfl rfl (by decide) (by kernel_rfl) ?_
  refine Al_pu (Pu_load1 rfl Tryz.isAgg34 rfl rfl) rfl rfl (by decide) (by kernel_rfl) ?_
  refine Al_pu (Pu_call (rpcheck_a v.past) rfl ⟨Sub.rfl, trivial⟩) rfl rfl (by decide) (by kernel_rfl) ?_
  refine Al_pu (Pu_move (.inr rfl) (by conv => lhs; whnf)) rfl rfl (by decide) (by kernel_rfl) ?_
  refine Al_nil ?_
  refine Aw_seq ?_
  refine Aw_region ?_
  refine Al_pu (Pu_move (.inl rfl) (by conv => lhs; whnf)) rfl rfl (by decide) (by kernel_rfl) ?_
  refine Al_pu (Pu_move (.inl rfl) (by conv => lhs; whnf)) rfl rfl (by decide) (by kernel_rfl) ?_
  refine Al_st (St_gd [] rfl rfl rfl rfl trivial (fun hg17 => by exact Pu_move (.inl rfl) (by conv => lhs; whnf))) rfl (by decide) (by kernel_rfl) (by intro j b oj dj h1 h2 h3; cases h1; cases h2; cases h3; decide) ?_
  refine Al_pu (Pu_and rfl rfl rfl rfl) rfl rfl (by decide) (by kernel_rfl) ?_
  refine Al_pu (Pu_move (.inl rfl) (by conv => lhs; whnf)) rfl rfl (by decide) (by kernel_rfl) ?_
  refine Al_st (St_gd [] rfl rfl rfl rfl trivial (fun hg20 => by exact Pu_move (.inl rfl) (by conv => lhs; whnf))) rfl (by decide) (by kernel_rfl) (by intro j b oj dj h1 h2 h3; cases h1; cases h2; cases h3; decide) ?_
  refine Al_pu (Pu_and rfl rfl rfl rfl) rfl rfl (by decide) (by kernel_rfl) ?_
  refine Al_pu (Pu_move (.inl rfl) (by conv => lhs; whnf)) rfl rfl (by decide) (by kernel_rfl) ?_
  refine Al_st (St_gd [] rfl rfl rfl rfl trivial (fun hg23 => Pu_field 1 rfl Tryz.underlying36 rfl rfl Tryz.sizeOf9 rfl)) rfl (by decide) (by kernel_rfl) (by intro j b oj dj h1 h2 h3; cases h1; cases h2; cases h3; decide) ?_
  refine Al_st (St_gd [23] rfl rfl rfl rfl ⟨⟨_, rfl⟩, trivial⟩ (fun hg24 => Pu_load1 rfl Tryz.isAgg9 rfl rfl)) rfl (by decide) (by kernel_rfl) (by intro j b oj dj h1 h2 h3; cases h1; cases h2; cases h3; decide) ?_
  refine Al_st (St_gd [24] rfl rfl rfl rfl ⟨⟨_, rfl⟩, trivial⟩ (fun hg25 => Pu_lenS rfl Tryz.underlying9 rfl)) rfl (by decide) (by kernel_rfl) (by intro j b oj dj h1 h2 h3; cases h1; cases h2; cases h3; decide) ?_
  refine Al_st (St_gd [25] rfl rfl rfl rfl ⟨⟨_, rfl⟩, trivial⟩ (fun hg26 => Pu_cmp rfl rfl rfl rfl)) rfl (by decide) (by kernel_rfl) (by intro j b oj dj h1 h2 h3; cases h1; cases h2; cases h3; decide) ?_
  refine Al_pu (Pu_and rfl rfl rfl rfl) rfl rfl (by decide) (by kernel_rfl) ?_
  refine Al_pu (Pu_move (.inl rfl) (by conv => lhs; whnf)) rfl rfl (by decide) (by kernel_rfl) ?_
  refine Al_st (St_gd [] rfl rfl rfl rfl trivial (fun hg29 => Pu_field 2 rfl Tryz.underlying36 rfl rfl Tryz.sizeOf4 rfl)) rfl (by decide) (by kernel_rfl) (by intro j b oj dj h1 h2 h3; cases h1; cases h2; cases h3; decide) ?_
  refine Al_st (St_gd [29] rfl rfl rfl rfl ⟨⟨_, rfl⟩, trivial⟩ (fun hg30 => Pu_load1 rfl Tryz.isAgg4 rfl rfl)) rfl (by decide) (by kernel_rfl) (by intro j b oj dj h1 h2 h3; cases h1; cases h2; cases h3; decide) ?_
  refine Al_st (St_gd [30] rfl rfl rfl rfl ⟨⟨_, rfl⟩, trivial⟩ (fun hg31 => Pu_not rfl rfl)) rfl (by decide) (by kernel_rfl) (by intro j b oj dj h1 h2 h3; cases h1; cases h2; cases h3; decide) ?_
  refine Al_st (St_gd [31] rfl rfl rfl rfl ⟨⟨_, rfl⟩, trivial⟩ (fun hg32 => by exact Pu_move (.inl rfl) (by conv => lhs; whnf))) rfl (by decide) (by kernel_rfl) (by intro j b oj dj h1 h2 h3; cases h1; cases h2; cases h3; decide) ?_
  refine Al_st (St_gd2 [] rfl rfl rfl rfl trivial (fun hp33 hg33 => Pu_field 1 rfl Tryz.underlying36 rfl rfl Tryz.sizeOf9 rfl)) rfl (by decide) (by kernel_rfl) (by intro j b oj dj h1 h2 h3; cases h1; cases h2; cases h3; decide) ?_
  refine Al_st (St_gd2 [33] rfl rfl rfl rfl ⟨⟨_, rfl⟩, trivial⟩ (fun hp34 hg34 => Pu_load1 rfl Tryz.isAgg9 rfl rfl)) rfl (by decide) (by kernel_rfl) (by intro j b oj dj h1 h2 h3; cases h1; cases h2; cases h3; decide) ?_
  refine Al_st (St_gd2 [34] rfl rfl rfl rfl ⟨⟨_, rfl⟩, trivial⟩ (fun hp35 hg35 => Pu_str rfl rfl rfl rfl)) rfl (by decide) (by kernel_rfl) (by intro j b oj dj h1 h2 h3; cases h1; cases h2; cases h3; decide) ?_
  refine Al_st (St_gd [32] rfl rfl rfl rfl ⟨⟨_, rfl⟩, trivial⟩ (fun hg36 => Pu_orG rfl rfl rfl (fun h => ⟨hg36, h⟩) rfl)) rfl (by decide) (by kernel_rfl) (by intro j b oj dj h1 h2 h3; cases h1; cases h2; cases h3; decide) ?_
  refine Al_pu (Pu_and rfl rfl rfl rfl) rfl rfl (by decide) (by kernel_rfl) ?_
  refine Al_pu (Pu_move (.inr rfl) (by conv => lhs; whnf)) rfl rfl (by decide) (by kernel_rfl) ?_
  refine Al_nil ?_
  refine Aw_ret ?_
  exact Sub.bool (by unfold J.checkB; simp only [Bool.and_assoc]) -- ret 0
theorem rhead12_a (l : List Ver) : ACall Tryz.prog 19 [versA l] (verA (J.head l)) := by
  refine ACall_enterG (fun _ _ => by kernel_rfl) Tryz.func19 rfl Tryz.ntmps19 (Reads.cN1 Tryz.results19 Tryz.isAgg36 Tryz.sizeOf36) (Nat.le_of_ble_eq_true rfl) (fun hok M0 w0 hnl => ?_)
  have hlen := (hok _ (List.mem_cons_self ..)).len
  rw [List.length_map] at hlen
  refine Aw_seq ?_
  refine Aw_region ?_
  refine Al_alloc rfl rfl rfl (by decide) Tryz.zeroValue36 rfl (by kernel_rfl) (fun g2 => ?_)
  refine Al_pu (Pu_move (.inr rfl) (by conv => lhs; whnf)) rfl rfl (by decide) (by kernel_rfl) ?_
  refine Al_nil ?_
  refine Aw_seq ?_
  refine Aw_seq ?_
  refine Aw_region ?_
  refine Al_pu (Pu_move (.inl rfl) (by conv => lhs; whnf)) rfl rfl (by decide) (by kernel_rfl) ?_
  refine Al_pu (Pu_len rfl Tryz.underlying47 rfl (by first | exact List.length_map .. | exact rfl)) rfl rfl (by decide) (by kernel_rfl) ?_
  refine Al_pu (Pu_cmp rfl rfl rfl rfl) rfl rfl (by decide) (by kernel_rfl) ?_
  refine Al_nil ?_
  refine Aw_cond rfl (fun h6 => ?_) (fun h6 => ?_)
  · (try simp only [decide_eq_true_eq, decide_eq_false_iff_not, List.length_map] at h6)
    have hl : l = [] := List.eq_nil_of_length_eq_zero (by omega)
    subst hl
    refine Aw_seq ?_
    refine Aw_region ?_
    refine Al_pu (Pu_build (aa := []) rfl Tryz.underlying36 Tryz.zeroValue36 (places36 Tryz.underlying36) (by kernel_rfl) trivial rfl) rfl rfl (by decide) (by kernel_rfl) ?_
    refine Al_storeN rfl rfl rfl (by kernel_rfl) Tryz.isAgg36 Tryz.sizeOf36 rfl rfl rfl rfl (Nat.le_of_ble_eq_true rfl) ?_
    refine Al_pu (Pu_move (.inr rfl) (by conv => lhs; whnf)) rfl rfl (by decide) (by kernel_rfl) ?_
    refine Al_nil ?_
    refine Aw_boxle (k := 2) ((default : Ver).row.map .d) rfl ⟨Sub.rfl, Sub.rfl, Sub.rfl, Sub.rfl, Sub.rfl, Sub.nil, trivial⟩ ?_
    refine Aw_ret ?_
    exact ⟨_, _, _, _, _, [_, _, _, _, _, _], _, rfl, rfl, rfl, rfl, Sub.rfl, rfl⟩ -- ret 0
  · (try simp only [decide_eq_true_eq, decide_eq_false_iff_not, List.length_map] at h6)
    have hk : l.length - 1 < l.length := by omega
    have hh : J.head l = some (l.getD (l.length - 1) default) := by
      unfold J.head
      rw [show ((l.length : Int) - 1) = ((l.length - 1 : Nat) : Int) from by omega, J.told_at hk, List.getD_eq_getElem?_getD, List.getElem?_eq_getElem hk]; rfl
    refine Aw_skip ?_
    refine Aw_seq ?_
    refine Aw_region ?_
    refine Al_pu (Pu_move (.inl rfl) (by conv => lhs; whnf)) rfl rfl (by decide) (by kernel_rfl) ?_
    refine Al_pu (Pu_move (.inl rfl) (by conv => lhs; whnf)) rfl rfl (by decide) (by kernel_rfl) ?_
    refine Al_pu (Pu_len rfl Tryz.underlying47 rfl (by first | exact List.length_map .. | exact rfl)) rfl rfl (by decide) (by kernel_rfl) ?_
    refine Al_pu (Pu_sub rfl rfl rfl (fun h1 h2 => by simp only [A.inI, A.maxI] at *; omega)) rfl rfl (by decide) (by kernel_rfl) ?_
    refine Al_pu (Pu_index rfl Tryz.underlying47 Tryz.sizeOf36 rfl rfl ((show ((l.length : Int) - 1) = ((l.length - 1 : Nat) : Int) from by omega)) (mapgetD (d := default) hk)) rfl rfl (by decide) (by kernel_rfl) ?_
    refine Al_pu (Pu_loadN rfl Tryz.isAgg36 Tryz.sizeOf36 rfl (Nat.le_of_ble_eq_true rfl)) rfl rfl (by decide) (by kernel_rfl) ?_
    refine Al_storeN rfl rfl rfl (by kernel_rfl) Tryz.isAgg36 Tryz.sizeOf36 rfl rfl rfl rfl (Nat.le_of_ble_eq_true rfl) ?_
    refine Al_pu (Pu_move (.inr rfl) (by conv => lhs; whnf)) rfl rfl (by decide) (by kernel_rfl) ?_
    refine Al_nil ?_
    refine Aw_ret ?_
    exact ⟨_, _, _, _, _, [_, _, _, _, _, _], _, rfl, rfl, rfl, rfl, Sub.rfl, by rw [hh]; rfl⟩ -- ret 1
theorem rat12_a (l : List Ver) (n s : Int) (hc : J.Chn l) : ACall Tryz.prog 13 [versA l, .row [iv n, iv s]] (verA (J.atc l n s)) := by
  refine ACall_enterG (fun _ _ => by kernel_rfl) Tryz.func13 rfl Tryz.ntmps13 (Reads.cN1 Tryz.results13 Tryz.isAgg36 Tryz.sizeOf36) (Nat.le_of_ble_eq_true rfl) (fun hok M0 w0 hnl => ?_)
  have hlen := (hok _ (List.mem_cons_self ..)).len
  rw [List.length_map] at hlen
  refine Aw_seq ?_
  refine Aw_region ?_
  refine Al_pu (Pu_boxN rfl rfl) rfl rfl (by decide) (by kernel_rfl) ?_
  refine Al_alloc rfl rfl rfl (by decide) Tryz.zeroValue36 rfl (by kernel_rfl) (fun g4 => ?_)
  refine Al_pu (Pu_move (.inr rfl) (by conv => lhs; whnf)) rfl rfl (by decide) (by kernel_rfl) ?_
  refine Al_nil ?_
  refine Aw_seq ?_
  refine Aw_seq ?_
  refine Aw_region ?_
  refine Al_pu (Pu_move (.inr rfl) (by conv => lhs; whnf)) rfl rfl (by decide) (by kernel_rfl) ?_
  refine Al_nil ?_
  refine Aw_block ?_
  refine Aw_loopk (ι := Nat) [0, 3, 4] [3, 4] (fun k => [(6, .d (iv k))]) (fun k => []) (fun k => k ≤ l.length ∧ ∀ i, i < k → J.isSt n s (l.getD i default) = false) (fun k => l.length - k) (0) (⟨Nat.zero_le _, by intros; omega⟩) ⟨Sub.rfl, trivial⟩ trivial ?_
  rintro k ⟨hk0, hno⟩
  refine Aw_seq ?_
  refine Aw_seq ?_
  refine Aw_region ?_
  refine Al_pu (Pu_move (.inl rfl) (by conv => lhs; whnf)) rfl rfl (by decide) (by kernel_rfl) ?_
  refine Al_pu (Pu_move (.inl rfl) (by conv => lhs; whnf)) rfl rfl (by decide) (by kernel_rfl) ?_
  refine Al_pu (Pu_len rfl Tryz.underlying47 rfl (by first | exact List.length_map .. | exact rfl)) rfl rfl (by decide) (by kernel_rfl) ?_
  refine Al_pu (Pu_cmp rfl rfl rfl rfl) rfl rfl (by decide) (by kernel_rfl) ?_
  refine Al_nil ?_
  refine Aw_cond rfl (fun h10 => ?_) (fun h10 => ?_)
  · (try simp only [decide_eq_true_eq, decide_eq_false_iff_not, List.length_map] at h10)
    have hk : k < l.length := by omega
    refine Aw_skip ?_
    refine Aw_seq ?_
    refine Aw_block ?_
    refine Aw_seq ?_
    refine Aw_draw 7 (by kernel_rfl) (by kernel_rfl) ?_
    refine Dr_pu (Pu_move (.inl rfl) (by conv => lhs; whnf)) rfl rfl ?_
    refine Dr_pu (Pu_move (.inl rfl) (by conv => lhs; whnf)) rfl rfl ?_
    refine Dr_pu (Pu_index rfl Tryz.underlying47 Tryz.sizeOf36 rfl rfl (rfl) (mapgetD (d := default) hk)) rfl rfl ?_
    refine Dr_pu (Pu_field 3 rfl Tryz.underlying36 rfl rfl Tryz.sizeOf33 rfl) rfl rfl ?_
    refine Dr_pu (Pu_loadN rfl Tryz.isAgg33 Tryz.sizeOf33 rfl (Nat.le_of_ble_eq_true rfl)) rfl rfl ?_
    refine Dr_pu (Pu_loadN rfl Tryz.isAgg33 Tryz.sizeOf33 rfl (Nat.le_of_ble_eq_true rfl)) rfl rfl ?_
    refine Dr_pu (Pu_eqrow [.int .i64 _, .int .i64 _] [.int .i64 _, .int .i64 _] (fun w => eqv33 _ _ _ _ _ _ w) rfl rfl rfl) rfl rfl ?_
    refine Dr_nil ?_
    refine Al_nil ?_
    refine Aw_cond rfl (fun h19 => ?_) (fun h19 => ?_)
    · skip
      have hyes : J.atc l n s = some (l.getD k default) := by
        rw [J.atc_find n s hc, List.find?_eq_some_iff_getElem]
        refine ⟨h19, k, hk, ?_, fun j hj => ?_⟩
        · simp [hk]
        · have := hno j hj
          rw [List.getD_eq_getElem?_getD, List.getElem?_eq_getElem (by omega), Option.getD_some] at this
          rw [this]; rfl
      refine Aw_seq ?_
      refine Aw_region ?_
      refine Al_pu (Pu_move (.inl rfl) (by conv => lhs; whnf)) rfl rfl (by decide) (by kernel_rfl) ?_
      refine Al_pu (Pu_move (.inl rfl) (by conv => lhs; whnf)) rfl rfl (by decide) (by kernel_rfl) ?_
      refine Al_pu (Pu_index rfl Tryz.underlying47 Tryz.sizeOf36 rfl rfl (rfl) (mapgetD (d := default) hk)) rfl rfl (by decide) (by kernel_rfl) ?_
      refine Al_pu (Pu_loadN rfl Tryz.isAgg36 Tryz.sizeOf36 rfl (Nat.le_of_ble_eq_true rfl)) rfl rfl (by decide) (by kernel_rfl) ?_
      refine Al_storeN rfl rfl rfl (by kernel_rfl) Tryz.isAgg36 Tryz.sizeOf36 rfl rfl rfl rfl (Nat.le_of_ble_eq_true rfl) ?_
      refine Al_pu (Pu_move (.inr rfl) (by conv => lhs; whnf)) rfl rfl (by decide) (by kernel_rfl) ?_
      refine Al_nil ?_
      refine Aw_ret ?_
      exact ⟨_, _, _, _, _, [_, _, _, _, _, _], _, rfl, rfl, rfl, rfl, Sub.rfl, by rw [hyes]; rfl⟩ -- ret 0
    · skip
      refine Aw_skip ?_
      refine Aw_region ?_
      refine Al_pu (Pu_move (.inl rfl) (by conv => lhs; whnf)) rfl rfl (by decide) (by kernel_rfl) ?_
      refine Al_pu (Pu_add rfl rfl rfl (fun h1 h2 => by simp only [A.inI, A.maxI] at *; omega)) rfl rfl (by decide) (by kernel_rfl) ?_
      refine Al_pu (Pu_move (.inr rfl) (by conv => lhs; whnf)) rfl rfl (by decide) (by kernel_rfl) ?_
      refine Al_nil ?_
      exact ⟨k + 1, ⟨by omega, fun i hi => by
        rcases Nat.lt_succ_iff_lt_or_eq.1 hi with h | rfl
        · exact hno i h
        · exact h19⟩, by omega, Le.ov ⟨Sub.num (by omega), trivial⟩ ⟨Sub.rfl, Sub.rfl, Sub.rfl, trivial⟩ trivial ⟨rfl, rfl, trivial⟩⟩ -- loop 0 next.0
  · (try simp only [decide_eq_true_eq, decide_eq_false_iff_not, List.length_map] at h10)
    have hno2 : J.atc l n s = none := by
      rw [J.atc_find n s hc, List.find?_eq_none]
      intro x hx
      obtain ⟨i, hi, rfl⟩ := List.mem_iff_getElem.1 hx
      have := hno i (by omega)
      rw [List.getD_eq_getElem?_getD, List.getElem?_eq_getElem hi, Option.getD_some] at this
      rw [this]; decide
    refine Aw_exit ?_
    refine Aw_seq ?_
    refine Aw_region ?_
    refine Al_pu (Pu_build (aa := []) rfl Tryz.underlying36 Tryz.zeroValue36 (places36 Tryz.underlying36) (by kernel_rfl) trivial rfl) rfl rfl (by decide) (by kernel_rfl) ?_
    refine Al_storeN rfl rfl rfl (by kernel_rfl) Tryz.isAgg36 Tryz.sizeOf36 rfl rfl rfl rfl (Nat.le_of_ble_eq_true rfl) ?_
    refine Al_pu (Pu_move (.inr rfl) (by conv => lhs; whnf)) rfl rfl (by decide) (by kernel_rfl) ?_
    refine Al_nil ?_
    refine Aw_boxle (k := 4) ((default : Ver).row.map .d) rfl ⟨Sub.rfl, Sub.rfl, Sub.rfl, Sub.rfl, Sub.rfl, Sub.nil, trivial⟩ ?_
    refine Aw_ret ?_
    exact ⟨_, _, _, _, _, [_, _, _, _, _, _], _, rfl, rfl, rfl, rfl, Sub.rfl, by rw [hno2]; rfl⟩ -- ret 1
theorem rbelow12_a (l : List Ver) (n s : Int) (hc : J.Chn l) : ACall Tryz.prog 69 [versA l, .row [iv n, iv s]] (verA (J.below l n s)) := by
  refine ACall_enterG (fun _ _ => by kernel_rfl) Tryz.func69 rfl Tryz.ntmps69 (Reads.cN1 Tryz.results69 Tryz.isAgg36 Tryz.sizeOf36) (Nat.le_of_ble_eq_true rfl) (fun hok M0 w0 hnl => ?_)
  have hlen := (hok _ (List.mem_cons_self ..)).len
  rw [List.length_map] at hlen
  refine Aw_seq ?_
  refine Aw_region ?_
  refine Al_pu (Pu_boxN rfl rfl) rfl rfl (by decide) (by kernel_rfl) ?_
  refine Al_alloc rfl rfl rfl (by decide) Tryz.zeroValue36 rfl (by kernel_rfl) (fun g4 => ?_)
  refine Al_pu (Pu_move (.inr rfl) (by conv => lhs; whnf)) rfl rfl (by decide) (by kernel_rfl) ?_
  refine Al_nil ?_
  refine Aw_seq ?_
  refine Aw_region ?_
  refine Al_pu (Pu_build (aa := []) rfl Tryz.underlying36 Tryz.zeroValue36 (places36 Tryz.underlying36) (by kernel_rfl) trivial rfl) rfl rfl (by decide) (by kernel_rfl) ?_
  refine Al_alloc rfl rfl rfl (by decide) Tryz.zeroValue36 rfl (by kernel_rfl) (fun g6 => ?_)
  refine Al_storeN rfl rfl rfl (by kernel_rfl) Tryz.isAgg36 Tryz.sizeOf36 rfl rfl rfl rfl (Nat.le_of_ble_eq_true rfl) ?_
  refine Al_nil ?_
  refine Aw_seq ?_
  refine Aw_region ?_
  refine Al_pu (Pu_move (.inr rfl) (by conv => lhs; whnf)) rfl rfl (by decide) (by kernel_rfl) ?_
  refine Al_nil ?_
  refine Aw_seq ?_
  refine Aw_seq ?_
  refine Aw_region ?_
  refine Al_pu (Pu_move (.inr rfl) (by conv => lhs; whnf)) rfl rfl (by decide) (by kernel_rfl) ?_
  refine Al_nil ?_
  refine Aw_block ?_
  refine Aw_boxle (k := 6) ((default : Ver).row.map .d) rfl ⟨Sub.rfl, Sub.rfl, Sub.rfl, Sub.rfl, Sub.rfl, Sub.nil, trivial⟩ ?_
  refine Aw_loopk (ι := Nat) [0, 3, 4, 6] [3, 4] (fun k => [(8, .d (iv k)), (7, .d (bv (J.belI l n s k).isSome))]) (fun k => [(6, g6, .box 36 (((J.belI l n s k).getD default).row.map .d))]) (fun k => k ≤ l.length) (fun k => l.length - k) (0) (Nat.zero_le _) ⟨Sub.rfl, Sub.rfl, trivial⟩ ⟨rfl, trivial⟩ ?_
  rintro k hk0
  refine Aw_seq ?_
  refine Aw_seq ?_
  refine Aw_region ?_
  refine Al_pu (Pu_move (.inl rfl) (by conv => lhs; whnf)) rfl rfl (by decide) (by kernel_rfl) ?_
  refine Al_pu (Pu_move (.inl rfl) (by conv => lhs; whnf)) rfl rfl (by decide) (by kernel_rfl) ?_
  refine Al_pu (Pu_len rfl Tryz.underlying47 rfl (by first | exact List.length_map .. | exact rfl)) rfl rfl (by decide) (by kernel_rfl) ?_
  refine Al_pu (Pu_cmp rfl rfl rfl rfl) rfl rfl (by decide) (by kernel_rfl) ?_
  refine Al_nil ?_
  refine Aw_cond rfl (fun h13 => ?_) (fun h13 => ?_)
  · (try simp only [decide_eq_true_eq, decide_eq_false_iff_not, List.length_map] at h13)
    have hk : k < l.length := by omega
    have hbs := J.belI_succ (n := n) (s := s) hk
    have hgd : l.getD k default = l[k] := by simp [hk]
    refine Aw_skip ?_
    -- join 0: live [0, 3, 4, 6, 7, 8], turned [7]
    refine Aw_seq ?_
    refine Aw_block ?_
    refine Aw_seq ?_
    refine Aw_draw 8 (by kernel_rfl) (by kernel_rfl) ?_
    refine Dr_pu (Pu_loadN rfl Tryz.isAgg33 Tryz.sizeOf33 rfl (Nat.le_of_ble_eq_true rfl)) rfl rfl ?_
    refine Dr_pu (Pu_move (.inl rfl) (by conv => lhs; whnf)) rfl rfl ?_
    refine Dr_pu (Pu_move (.inl rfl) (by conv => lhs; whnf)) rfl rfl ?_
    refine Dr_pu (Pu_index rfl Tryz.underlying47 Tryz.sizeOf36 rfl rfl (rfl) (mapgetD (d := default) hk)) rfl rfl ?_
    refine Dr_pu (Pu_field 3 rfl Tryz.underlying36 rfl rfl Tryz.sizeOf33 rfl) rfl rfl ?_
    refine Dr_pu (Pu_loadN rfl Tryz.isAgg33 Tryz.sizeOf33 rfl (Nat.le_of_ble_eq_true rfl)) rfl rfl ?_
    refine Dr_pu (Pu_call (rless_a n s _ _) rfl ⟨Sub.rfl, Sub.rfl, trivial⟩) rfl rfl ?_
    refine Dr_pu (Pu_not rfl rfl) rfl rfl ?_
    refine Dr_nil ?_
    refine Al_nil ?_
    refine Aw_cond rfl (fun h23 => ?_) (fun h23 => ?_)
    · skip
      rw [hgd] at h23
      rw [if_neg (by simpa using h23)] at hbs
      refine Aw_seq ?_
      refine Aw_region ?_
      refine Al_pu (Pu_move (.inl rfl) (by conv => lhs; whnf)) rfl rfl (by decide) (by kernel_rfl) ?_
      refine Al_pu (Pu_move (.inl rfl) (by conv => lhs; whnf)) rfl rfl (by decide) (by kernel_rfl) ?_
      refine Al_pu (Pu_index rfl Tryz.underlying47 Tryz.sizeOf36 rfl rfl (rfl) (mapgetD (d := default) hk)) rfl rfl (by decide) (by kernel_rfl) ?_
      refine Al_pu (Pu_loadN rfl Tryz.isAgg36 Tryz.sizeOf36 rfl (Nat.le_of_ble_eq_true rfl)) rfl rfl (by decide) (by kernel_rfl) ?_
      refine Al_storeN rfl rfl rfl (by kernel_rfl) Tryz.isAgg36 Tryz.sizeOf36 rfl rfl rfl rfl (Nat.le_of_ble_eq_true rfl) ?_
      refine Al_nil ?_
      refine Aw_region ?_
      refine Al_pu (Pu_move (.inr rfl) (by conv => lhs; whnf)) rfl rfl (by decide) (by kernel_rfl) ?_
      refine Al_nil ?_
      refine Aw_region ?_
      refine Al_pu (Pu_move (.inl rfl) (by conv => lhs; whnf)) rfl rfl (by decide) (by kernel_rfl) ?_
      refine Al_pu (Pu_add rfl rfl rfl (fun h1 h2 => by simp only [A.inI, A.maxI] at *; omega)) rfl rfl (by decide) (by kernel_rfl) ?_
      refine Al_pu (Pu_move (.inr rfl) (by conv => lhs; whnf)) rfl rfl (by decide) (by kernel_rfl) ?_
      refine Al_nil ?_
      exact ⟨k + 1, by omega, by omega, Le.ov ⟨Sub.num (by omega), Sub.bool (by rw [hbs]; rfl), trivial⟩ ⟨Sub.rfl, Sub.rfl, Sub.rfl, Sub.rfl, trivial⟩ ⟨J.bxeq (by rw [hbs, ← hgd]; rfl), trivial⟩ ⟨rfl, rfl, trivial⟩⟩ -- loop 0 next.0
    · skip
      rw [hgd] at h23
      rw [if_pos (by simpa using h23)] at hbs
      refine Aw_skip ?_
      refine Aw_region ?_
      refine Al_pu (Pu_move (.inl rfl) (by conv => lhs; whnf)) rfl rfl (by decide) (by kernel_rfl) ?_
      refine Al_pu (Pu_add rfl rfl rfl (fun h1 h2 => by simp only [A.inI, A.maxI] at *; omega)) rfl rfl (by decide) (by kernel_rfl) ?_
      refine Al_pu (Pu_move (.inr rfl) (by conv => lhs; whnf)) rfl rfl (by decide) (by kernel_rfl) ?_
      refine Al_nil ?_
      exact ⟨k + 1, by omega, by omega, Le.ov ⟨Sub.num (by omega), Sub.bool (by rw [hbs]), trivial⟩ ⟨Sub.rfl, Sub.rfl, Sub.rfl, Sub.rfl, trivial⟩ ⟨J.bxeq (by rw [hbs]), trivial⟩ ⟨rfl, rfl, trivial⟩⟩ -- loop 0 next.1
  · (try simp only [decide_eq_true_eq, decide_eq_false_iff_not, List.length_map] at h13)
    have hkn : k = l.length := by omega
    refine Aw_exit ?_
    refine Aw_seq ?_
    refine Aw_region ?_
    refine Al_pu (Pu_loadbN (r := [_, _, _, _, _, _]) rfl Tryz.isAgg36 Tryz.sizeOf36 rfl rfl rfl rfl) rfl rfl (by decide) (by kernel_rfl) ?_
    refine Al_pu (Pu_move (.inl rfl) (by conv => lhs; whnf)) rfl rfl (by decide) (by kernel_rfl) ?_
    refine Al_storeN rfl rfl rfl (by kernel_rfl) Tryz.isAgg36 Tryz.sizeOf36 rfl rfl rfl rfl (Nat.le_of_ble_eq_true rfl) ?_
    refine Al_pu (Pu_move (.inr rfl) (by conv => lhs; whnf)) rfl rfl (by decide) (by kernel_rfl) ?_
    refine Al_nil ?_
    refine Aw_ret ?_
    exact ⟨_, _, _, _, _, [_, _, _, _, _, _], _, rfl, rfl, rfl, rfl, Sub.rfl, by rw [hkn, J.bel_below n s hc]; rfl⟩ -- ret 0
theorem rkeeps12_a (l : List Ver) (n s : Int) (pins : List (Int × Int)) (v : Ver) (hc : J.Chn l) : ACall Tryz.prog 49 [versA l, .row [iv n, iv s], .sl 2 (pins.map stA), .row v.row] (bv (J.keeps l n s pins v)) := by
  refine ACall_enter (fun _ _ => by kernel_rfl) Tryz.func49 rfl Tryz.ntmps49 Tryz.results49 (Nat.le_of_ble_eq_true rfl) (fun hok M0 w0 hnl => ?_)
  have hlen := (hok (.sl 2 (pins.map stA)) (by simp)).len
  rw [List.length_map] at hlen
  refine Aw_seq ?_
  refine Aw_region ?_
  refine Al_pu (Pu_boxN rfl rfl) rfl rfl (by decide) (by kernel_rfl) ?_
  refine Al_pu (Pu_boxN rfl rfl) rfl rfl (by decide) (by kernel_rfl) ?_
  refine Al_pu (Pu_move (.inr rfl) (by conv => lhs; whnf)) rfl rfl (by decide) (by kernel_rfl) ?_
  refine Al_nil ?_
  refine Aw_seq ?_
  refine Aw_seq ?_
  refine Aw_region ?_
  refine Al_pu (Pu_move (.inr rfl) (by conv => lhs; whnf)) rfl rfl (by decide) (by kernel_rfl) ?_
  refine Al_nil ?_
  refine Aw_block ?_
  refine Aw_loopk (ι := Nat) [0, 2, 5, 7] [5, 7] (fun k => [(9, .d (iv k))]) (fun k => []) (fun k => k ≤ pins.length ∧ ∀ i, i < k → ((v.n == (pins.getD i default).1) && (v.s == (pins.getD i default).2)) = false) (fun k => pins.length - k) (0) (⟨Nat.zero_le _, by intros; omega⟩) ⟨Sub.rfl, trivial⟩ trivial ?_
  rintro k ⟨hk0, hno⟩
  refine Aw_seq ?_
  refine Aw_seq ?_
  refine Aw_region ?_
  refine Al_pu (Pu_move (.inl rfl) (by conv => lhs; whnf)) rfl rfl (by decide) (by kernel_rfl) ?_
  refine Al_pu (Pu_move (.inl rfl) (by conv => lhs; whnf)) rfl rfl (by decide) (by kernel_rfl) ?_
  refine Al_pu (Pu_len rfl Tryz.underlying71 rfl (by first | exact List.length_map .. | exact rfl)) rfl rfl (by decide) (by kernel_rfl) ?_
  refine Al_pu (Pu_cmp rfl rfl rfl rfl) rfl rfl (by decide) (by kernel_rfl) ?_
  refine Al_nil ?_
  refine Aw_cond rfl (fun h17 => ?_) (fun h17 => ?_)
  · (try simp only [decide_eq_true_eq, decide_eq_false_iff_not, List.length_map] at h17)
    have hk : k < pins.length := by omega
    refine Aw_skip ?_
    refine Aw_seq ?_
    refine Aw_block ?_
    refine Aw_seq ?_
    refine Aw_draw 7 (by kernel_rfl) (by kernel_rfl) ?_
    refine Dr_pu (Pu_move (.inl rfl) (by conv => lhs; whnf)) rfl rfl ?_
    refine Dr_pu (Pu_move (.inl rfl) (by conv => lhs; whnf)) rfl rfl ?_
    refine Dr_pu (Pu_index rfl Tryz.underlying71 Tryz.sizeOf33 rfl rfl (rfl) (mapgetD (d := default) hk)) rfl rfl ?_
    refine Dr_pu (Pu_loadN rfl Tryz.isAgg33 Tryz.sizeOf33 rfl (Nat.le_of_ble_eq_true rfl)) rfl rfl ?_
    refine Dr_pu (Pu_field 3 rfl Tryz.underlying36 rfl rfl Tryz.sizeOf33 rfl) rfl rfl ?_
    refine Dr_pu (Pu_loadN rfl Tryz.isAgg33 Tryz.sizeOf33 rfl (Nat.le_of_ble_eq_true rfl)) rfl rfl ?_
    refine Dr_pu (Pu_eqrow [.int .i64 _, .int .i64 _] [.int .i64 _, .int .i64 _] (fun w => eqv33 _ _ _ _ _ _ w) rfl rfl rfl) rfl rfl ?_
    refine Dr_nil ?_
    refine Al_nil ?_
    refine Aw_cond rfl (fun h26 => ?_) (fun h26 => ?_)
    · skip
      have hyes : J.keeps l n s pins v = true := by
        unfold J.keeps
        have : (pins.any fun p => (v.n == p.1) && (v.s == p.2)) = true := List.any_eq_true.2 ⟨pins[k], List.getElem_mem hk, by
          have h2 : pins.getD k default = pins[k] := by simp [hk]
          rw [h2] at h26
          simp only [Bool.and_eq_true, beq_iff_eq] at h26 ⊢
          exact ⟨h26.1.symm, h26.2.symm⟩⟩
        rw [this]; rfl
      refine Aw_seq ?_
      refine Aw_region ?_
      refine Al_pu (Pu_move (.inr rfl) (by conv => lhs; whnf)) rfl rfl (by decide) (by kernel_rfl) ?_
      refine Al_nil ?_
      refine Aw_ret ?_
      exact Sub.bool hyes.symm -- ret 0
    · skip
      refine Aw_skip ?_
      refine Aw_region ?_
      refine Al_pu (Pu_move (.inl rfl) (by conv => lhs; whnf)) rfl rfl (by decide) (by kernel_rfl) ?_
      refine Al_pu (Pu_add rfl rfl rfl (fun h1 h2 => by simp only [A.inI, A.maxI] at *; omega)) rfl rfl (by decide) (by kernel_rfl) ?_
      refine Al_pu (Pu_move (.inr rfl) (by conv => lhs; whnf)) rfl rfl (by decide) (by kernel_rfl) ?_
      refine Al_nil ?_
      exact ⟨k + 1, ⟨by omega, fun i hi => by
        rcases Nat.lt_succ_iff_lt_or_eq.1 hi with h | rfl
        · exact hno i h
        · rw [Bool.and_eq_false_iff] at h26 ⊢
          rcases h26 with h | h
          · exact .inl (by rw [beq_eq_false_iff_ne] at h ⊢; exact fun e => h e.symm)
          · exact .inr (by rw [beq_eq_false_iff_ne] at h ⊢; exact fun e => h e.symm)⟩, by omega, Le.ov ⟨Sub.num (by omega), trivial⟩ ⟨Sub.rfl, Sub.rfl, Sub.rfl, Sub.rfl, trivial⟩ trivial ⟨rfl, rfl, trivial⟩⟩ -- loop 0 next.0
  · (try simp only [decide_eq_true_eq, decide_eq_false_iff_not, List.length_map] at h17)
    have hany : (pins.any fun p => (v.n == p.1) && (v.s == p.2)) = false := by
      rw [List.any_eq_false]
      intro x hx
      obtain ⟨i, hi, rfl⟩ := List.mem_iff_getElem.1 hx
      have := hno i (by omega)
      rw [List.getD_eq_getElem?_getD, List.getElem?_eq_getElem hi, Option.getD_some] at this
      rw [this]; decide
    obtain ⟨oh, hoh⟩ : ∃ o, o = J.head l := ⟨_, rfl⟩
    obtain ⟨ob, hob⟩ : ∃ o, o = J.below l n s := ⟨_, rfl⟩
    have ch := rhead12_a l
    have cb := rbelow12_a l n s hc
    rw [← hoh] at ch
    rw [← hob] at cb
    refine Aw_exit ?_
    refine Aw_seq ?_
    refine Aw_region ?_
    refine Al_pu (Pu_move (.inl rfl) (by conv => lhs; whnf)) rfl rfl (by decide) (by kernel_rfl) ?_
    refine Al_pu (Pu_call (ch) rfl ⟨Sub.rfl, trivial⟩) rfl rfl (by decide) (by kernel_rfl) ?_
    refine Al_pu (Pu_move (.inl rfl) (by conv => lhs; whnf)) rfl rfl (by decide) (by kernel_rfl) ?_
    refine Al_pu (Pu_extract rfl rfl rfl) rfl rfl (by decide) (by kernel_rfl) ?_
    refine Al_pu (Pu_extract rfl rfl rfl) rfl rfl (by decide) (by kernel_rfl) ?_
    refine Al_alloc rfl rfl rfl (by decide) Tryz.zeroValue36 rfl (by kernel_rfl) (fun g10 => ?_)
    refine Al_storeN rfl rfl rfl (by kernel_rfl) Tryz.isAgg36 Tryz.sizeOf36 rfl rfl rfl rfl (Nat.le_of_ble_eq_true rfl) ?_
    refine Al_pu (Pu_move (.inr rfl) (by conv => lhs; whnf)) rfl rfl (by decide) (by kernel_rfl) ?_
    refine Al_nil ?_
    refine Aw_seq ?_
    refine Aw_region ?_
    refine Al_pu (Pu_move (.inl rfl) (by conv => lhs; whnf)) rfl rfl (by decide) (by kernel_rfl) ?_
    refine Al_pu (Pu_loadN rfl Tryz.isAgg33 Tryz.sizeOf33 rfl (Nat.le_of_ble_eq_true rfl)) rfl rfl (by decide) (by kernel_rfl) ?_
    refine Al_pu (Pu_call (cb) rfl ⟨Sub.rfl, Sub.rfl, trivial⟩) rfl rfl (by decide) (by kernel_rfl) ?_
    refine Al_pu (Pu_move (.inl rfl) (by conv => lhs; whnf)) rfl rfl (by decide) (by kernel_rfl) ?_
    refine Al_pu (Pu_extract rfl rfl rfl) rfl rfl (by decide) (by kernel_rfl) ?_
    refine Al_pu (Pu_extract rfl rfl rfl) rfl rfl (by decide) (by kernel_rfl) ?_
    refine Al_alloc rfl rfl rfl (by decide) Tryz.zeroValue36 rfl (by kernel_rfl) (fun g12 => ?_)
    refine Al_storeN rfl rfl rfl (by kernel_rfl) Tryz.isAgg36 Tryz.sizeOf36 rfl rfl rfl rfl (Nat.le_of_ble_eq_true rfl) ?_
    refine Al_pu (Pu_move (.inr rfl) (by conv => lhs; whnf)) rfl rfl (by decide) (by kernel_rfl) ?_
    refine Al_nil ?_
    refine Aw_seq ?_
    refine Aw_region ?_
    refine Al_pu (Pu_move (.inl rfl) (by conv => lhs; whnf)) rfl rfl (by decide) (by kernel_rfl) ?_
    refine Al_pu (Pu_move (.inl rfl) (by conv => lhs; whnf)) rfl rfl (by decide) (by kernel_rfl) ?_
    refine Al_st (St_gd [] rfl rfl rfl rfl trivial (fun hg40 => Pu_loadbN (r := [_, _, _, _, _, _]) rfl Tryz.isAgg36 Tryz.sizeOf36 rfl rfl rfl rfl)) rfl (by decide) (by kernel_rfl) (by intro j b oj dj h1 h2 h3; cases h1; cases h2; cases h3; decide) ?_
    refine Al_st (St_gd [] rfl rfl rfl rfl trivial (fun hg41 => Pu_loadN rfl Tryz.isAgg36 Tryz.sizeOf36 rfl (Nat.le_of_ble_eq_true rfl))) rfl (by decide) (by kernel_rfl) (by intro j b oj dj h1 h2 h3; cases h1; cases h2; cases h3; decide) ?_
    refine Al_st (St_gd [40, 41] rfl rfl rfl rfl ⟨⟨_, rfl⟩, ⟨_, rfl⟩, trivial⟩ (fun hg42 => Pu_call (rvsame_a (oh.getD default) v) rfl ⟨Sub.rfl, Sub.rfl, trivial⟩)) rfl (by decide) (by kernel_rfl) (by intro j b oj dj h1 h2 h3; cases h1; cases h2; cases h3; decide) ?_
    refine Al_pu (Pu_and rfl rfl rfl rfl) rfl rfl (by decide) (by kernel_rfl) ?_
    refine Al_pu (Pu_move (.inl rfl) (by conv => lhs; whnf)) rfl rfl (by decide) (by kernel_rfl) ?_
    refine Al_st (St_gd [] rfl rfl rfl rfl trivial (fun hg45 => by exact Pu_move (.inl rfl) (by conv => lhs; whnf))) rfl (by decide) (by kernel_rfl) (by intro j b oj dj h1 h2 h3; cases h1; cases h2; cases h3; decide) ?_
    refine Al_st (St_gd [45] rfl rfl rfl rfl ⟨⟨_, rfl⟩, trivial⟩ (fun hg46 => by exact Pu_move (.inl rfl) (by conv => lhs; whnf))) rfl (by decide) (by kernel_rfl) (by intro j b oj dj h1 h2 h3; cases h1; cases h2; cases h3; decide) ?_
    refine Al_st (St_gd2 [] rfl rfl rfl rfl trivial (fun hp47 hg47 => Pu_loadbN (r := [_, _, _, _, _, _]) rfl Tryz.isAgg36 Tryz.sizeOf36 rfl rfl rfl rfl)) rfl (by decide) (by kernel_rfl) (by intro j b oj dj h1 h2 h3; cases h1; cases h2; cases h3; decide) ?_
    refine Al_st (St_gd2 [] rfl rfl rfl rfl trivial (fun hp48 hg48 => Pu_loadN rfl Tryz.isAgg36 Tryz.sizeOf36 rfl (Nat.le_of_ble_eq_true rfl))) rfl (by decide) (by kernel_rfl) (by intro j b oj dj h1 h2 h3; cases h1; cases h2; cases h3; decide) ?_
    refine Al_st (St_gd2 [47, 48] rfl rfl rfl rfl ⟨⟨_, rfl⟩, ⟨_, rfl⟩, trivial⟩ (fun hp49 hg49 => Pu_call (rvsame_a (ob.getD default) v) rfl ⟨Sub.rfl, Sub.rfl, trivial⟩)) rfl (by decide) (by kernel_rfl) (by intro j b oj dj h1 h2 h3; cases h1; cases h2; cases h3; decide) ?_
    refine Al_st (St_gd [46] rfl rfl rfl rfl ⟨⟨_, rfl⟩, trivial⟩ (fun hg50 => Pu_andG rfl rfl (fun h => ⟨hg50, h⟩) rfl rfl)) rfl (by decide) (by kernel_rfl) (by intro j b oj dj h1 h2 h3; cases h1; cases h2; cases h3; decide) ?_
    refine Al_pu (Pu_or rfl rfl rfl rfl) rfl rfl (by decide) (by kernel_rfl) ?_
    refine Al_pu (Pu_move (.inl rfl) (by conv => lhs; whnf)) rfl rfl (by decide) (by kernel_rfl) ?_
    refine Al_st (St_gd [] rfl rfl rfl rfl trivial (fun hg53 => Pu_field 3 rfl Tryz.underlying36 rfl rfl Tryz.sizeOf33 rfl)) rfl (by decide) (by kernel_rfl) (by intro j b oj dj h1 h2 h3; cases h1; cases h2; cases h3; decide) ?_
    refine Al_st (St_gd [53] rfl rfl rfl rfl ⟨⟨_, rfl⟩, trivial⟩ (fun hg54 => Pu_loadN rfl Tryz.isAgg33 Tryz.sizeOf33 rfl (Nat.le_of_ble_eq_true rfl))) rfl (by decide) (by kernel_rfl) (by intro j b oj dj h1 h2 h3; cases h1; cases h2; cases h3; decide) ?_
    refine Al_st (St_gd [] rfl rfl rfl rfl trivial (fun hg55 => Pu_loadN rfl Tryz.isAgg33 Tryz.sizeOf33 rfl (Nat.le_of_ble_eq_true rfl))) rfl (by decide) (by kernel_rfl) (by intro j b oj dj h1 h2 h3; cases h1; cases h2; cases h3; decide) ?_
    refine Al_st (St_gd [54, 55] rfl rfl rfl rfl ⟨⟨_, rfl⟩, ⟨_, rfl⟩, trivial⟩ (fun hg56 => Pu_call (rless_a _ _ _ _) rfl ⟨Sub.rfl, Sub.rfl, trivial⟩)) rfl (by decide) (by kernel_rfl) (by intro j b oj dj h1 h2 h3; cases h1; cases h2; cases h3; decide) ?_
    refine Al_st (St_gd [56] rfl rfl rfl rfl ⟨⟨_, rfl⟩, trivial⟩ (fun hg57 => Pu_not rfl rfl)) rfl (by decide) (by kernel_rfl) (by intro j b oj dj h1 h2 h3; cases h1; cases h2; cases h3; decide) ?_
    refine Al_pu (Pu_or rfl rfl rfl rfl) rfl rfl (by decide) (by kernel_rfl) ?_
    refine Al_pu (Pu_move (.inr rfl) (by conv => lhs; whnf)) rfl rfl (by decide) (by kernel_rfl) ?_
    refine Al_nil ?_
    refine Aw_ret ?_
    exact Sub.bool (by
      unfold J.keeps J.isO
      rw [hany, hoh, hob]
      generalize (!D.lessB v.n v.s n s) = a
      generalize ((J.head l).isSome && decide ((J.head l).getD default = v)) = b
      generalize ((J.below l n s).isSome && decide ((J.below l n s).getD default = v)) = c
      cases a <;> cases b <;> cases c <;> rfl) -- ret 1
theorem rclean12_a (l : List Ver) (n s : Int) (pins : List (Int × Int)) (hc : J.Chn l) (hl : l.length ≤ 1000000) : ACall Tryz.prog 35 [versA l, .row [iv n, iv s], .sl 2 (pins.map stA)] (versA (J.clean l n s pins)) := by
  refine ACall_enter (fun _ _ => by kernel_rfl) Tryz.func35 rfl Tryz.ntmps35 Tryz.results35 (Nat.le_of_ble_eq_true rfl) (fun hok M0 w0 hnl => ?_)
  refine Aw_seq ?_
  refine Aw_region ?_
  refine Al_pu (Pu_boxN rfl rfl) rfl rfl (by decide) (by kernel_rfl) ?_
  refine Al_pu (Pu_move (.inr rfl) (by conv => lhs; whnf)) rfl rfl (by decide) (by kernel_rfl) ?_
  refine Al_nil ?_
  refine Aw_seq ?_
  refine Aw_region ?_
  refine Al_pu (Pu_move (.inr rfl) (by conv => lhs; whnf)) rfl rfl (by decide) (by kernel_rfl) ?_
  refine Al_nil ?_
  refine Aw_seq ?_
  refine Aw_seq ?_
  refine Aw_region ?_
  refine Al_pu (Pu_move (.inr rfl) (by conv => lhs; whnf)) rfl rfl (by decide) (by kernel_rfl) ?_
  refine Al_nil ?_
  refine Aw_block ?_
  refine Aw_own (j := 7) (k := 7) (T := 36) (n := 6) rfl (fun g0 => ?_)
  refine Aw_loopk (ι := Nat × Nat) [0, 2, 4] [4] (fun (k, g) => [(8, .d (iv k)), (7, .ow 7 g)]) (fun (k, g) => [(7, g, .arr 36 6 (((l.take k).filter (J.keeps l n s pins)).map Ver.row))]) (fun (k, g) => k ≤ l.length) (fun (k, g) => l.length - k) ((0, g0)) (Nat.zero_le _) ⟨Sub.rfl, Sub.rfl, trivial⟩ ⟨rfl, trivial⟩ ?_
  rintro ⟨k, g⟩ hk0
  refine Aw_seq ?_
  refine Aw_seq ?_
  refine Aw_region ?_
  refine Al_pu (Pu_move (.inl rfl) (by conv => lhs; whnf)) rfl rfl (by decide) (by kernel_rfl) ?_
  refine Al_pu (Pu_move (.inl rfl) (by conv => lhs; whnf)) rfl rfl (by decide) (by kernel_rfl) ?_
  refine Al_pu (Pu_len rfl Tryz.underlying47 rfl (by first | exact List.length_map .. | exact rfl)) rfl rfl (by decide) (by kernel_rfl) ?_
  refine Al_pu (Pu_cmp rfl rfl rfl rfl) rfl rfl (by decide) (by kernel_rfl) ?_
  refine Al_nil ?_
  refine Aw_cond rfl (fun h13 => ?_) (fun h13 => ?_)
  · (try simp only [decide_eq_true_eq, decide_eq_false_iff_not, List.length_map] at h13)
    have hk : k < l.length := by omega
    have hgd : l.getD k default = l[k] := by simp [hk]
    have hfl : ((l.take k).filter (J.keeps l n s pins)).length ≤ 1000000 := Nat.le_trans (List.length_filter_le ..) (by simp; omega)
    refine Aw_skip ?_
    -- join 0: live [0, 2, 4, 7, 8], turned [7]
    refine Aw_seq ?_
    refine Aw_block ?_
    refine Aw_seq ?_
    refine Aw_draw 8 (by kernel_rfl) (by kernel_rfl) ?_
    refine Dr_pu (Pu_move (.inl rfl) (by conv => lhs; whnf)) rfl rfl ?_
    refine Dr_pu (Pu_loadN rfl Tryz.isAgg33 Tryz.sizeOf33 rfl (Nat.le_of_ble_eq_true rfl)) rfl rfl ?_
    refine Dr_pu (Pu_move (.inl rfl) (by conv => lhs; whnf)) rfl rfl ?_
    refine Dr_pu (Pu_move (.inl rfl) (by conv => lhs; whnf)) rfl rfl ?_
    refine Dr_pu (Pu_move (.inl rfl) (by conv => lhs; whnf)) rfl rfl ?_
    refine Dr_pu (Pu_index rfl Tryz.underlying47 Tryz.sizeOf36 rfl rfl (rfl) (mapgetD (d := default) hk)) rfl rfl ?_
    refine Dr_pu (Pu_loadN rfl Tryz.isAgg36 Tryz.sizeOf36 rfl (Nat.le_of_ble_eq_true rfl)) rfl rfl ?_
    refine Dr_pu (Pu_call (rkeeps12_a l n s pins (l.getD k default) hc) rfl ⟨Sub.rfl, Sub.rfl, Sub.rfl, Sub.rfl, trivial⟩) rfl rfl ?_
    refine Dr_nil ?_
    refine Al_pu (Pu_move (.inr rfl) (by conv => lhs; whnf)) rfl rfl (by decide) (by kernel_rfl) ?_
    refine Al_nil ?_
    refine Aw_seq ?_
    refine Aw_region ?_
    refine Al_pu (Pu_move (.inl rfl) (by conv => lhs; whnf)) rfl rfl (by decide) (by kernel_rfl) ?_
    refine Al_nil ?_
    refine Aw_cond rfl (fun h24 => ?_) (fun h24 => ?_)
    · skip
      refine Aw_region ?_
      refine Al_pu (Pu_move (.inl rfl) (by conv => lhs; whnf)) rfl rfl (by decide) (by kernel_rfl) ?_
      refine Al_pu (Pu_move (.inl rfl) (by conv => lhs; whnf)) rfl rfl (by decide) (by kernel_rfl) ?_
      refine Al_pu (Pu_move (.inl rfl) (by conv => lhs; whnf)) rfl rfl (by decide) (by kernel_rfl) ?_
      refine Al_pu (Pu_index rfl Tryz.underlying47 Tryz.sizeOf36 rfl rfl (rfl) (mapgetD (d := default) hk)) rfl rfl (by decide) (by kernel_rfl) ?_
      refine Al_pu (Pu_loadN rfl Tryz.isAgg36 Tryz.sizeOf36 rfl (Nat.le_of_ble_eq_true rfl)) rfl rfl (by decide) (by kernel_rfl) ?_
      refine Al_pu (Pu_slice1 rfl Tryz.underlying47 Tryz.sizeOf36 Tryz.zeroValue36 rfl (by decide) (by decide) (by kernel_rfl) rfl rfl rfl) rfl rfl (by decide) (by kernel_rfl) ?_
      refine Al_append rfl rfl rfl (by decide) (by kernel_rfl) elem47 (by decide) Tryz.sizeOf36 rfl rfl rfl (by simp only [List.length_map, List.length_cons, List.length_nil]; omega) (by decide) (fun g31 => ?_)
      refine Al_pu (Pu_move (.inr rfl) (by conv => lhs; whnf)) rfl rfl (by decide) (by kernel_rfl) ?_
      refine Al_nil ?_
      refine Aw_region ?_
      refine Al_pu (Pu_move (.inl rfl) (by conv => lhs; whnf)) rfl rfl (by decide) (by kernel_rfl) ?_
      refine Al_pu (Pu_add rfl rfl rfl (fun h1 h2 => by simp only [A.inI, A.maxI] at *; omega)) rfl rfl (by decide) (by kernel_rfl) ?_
      refine Al_pu (Pu_move (.inr rfl) (by conv => lhs; whnf)) rfl rfl (by decide) (by kernel_rfl) ?_
      refine Al_nil ?_
      exact ⟨(k + 1, g31), by omega, by simp only []; omega, Le.ov ⟨Sub.num (by omega), Sub.rfl, trivial⟩ ⟨Sub.rfl, Sub.rfl, Sub.rfl, trivial⟩ ⟨obeq (by rw [List.take_succ_eq_append_getElem hk, List.filter_append, List.filter_cons, if_pos (by rw [← hgd]; exact h24), List.filter_nil, List.map_append, ← hgd]; rfl), trivial⟩ ⟨rfl, trivial⟩⟩ -- loop 0 next.0
    · skip
      refine Aw_skip ?_
      refine Aw_region ?_
      refine Al_pu (Pu_move (.inl rfl) (by conv => lhs; whnf)) rfl rfl (by decide) (by kernel_rfl) ?_
      refine Al_pu (Pu_add rfl rfl rfl (fun h1 h2 => by simp only [A.inI, A.maxI] at *; omega)) rfl rfl (by decide) (by kernel_rfl) ?_
      refine Al_pu (Pu_move (.inr rfl) (by conv => lhs; whnf)) rfl rfl (by decide) (by kernel_rfl) ?_
      refine Al_nil ?_
      exact ⟨(k + 1, g), by omega, by simp only []; omega, Le.ov ⟨Sub.num (by omega), Sub.rfl, trivial⟩ ⟨Sub.rfl, Sub.rfl, Sub.rfl, trivial⟩ ⟨obeq (by rw [List.take_succ_eq_append_getElem hk, List.filter_append, List.filter_cons, if_neg (by rw [← hgd, h24]; decide), List.filter_nil, List.append_nil]), trivial⟩ ⟨rfl, trivial⟩⟩ -- loop 0 next.1
  · (try simp only [decide_eq_true_eq, decide_eq_false_iff_not, List.length_map] at h13)
    have hkn : k = l.length := by omega
    refine Aw_exit ?_
    refine Aw_seq ?_
    refine Aw_frz hnl (k := 7) [7] rfl ⟨rfl, trivial⟩ ?_
    refine Aw_region ?_
    refine Al_pu (Pu_move (.inl rfl) (by conv => lhs; whnf)) rfl rfl (by decide) (by kernel_rfl) ?_
    refine Al_pu (Pu_move (.inr rfl) (by conv => lhs; whnf)) rfl rfl (by decide) (by kernel_rfl) ?_
    refine Al_nil ?_
    refine Aw_ret ?_
    exact Sub.d (by rw [hkn, List.take_length]; rfl) -- ret 0
theorem rput12_a (l : List Ver) (v : Ver) (hc : J.Chn l) (hl : l.length ≤ 1000000) : ACall Tryz.prog 41 [versA l, .row v.row] (.tup [versA ((J.put l v).getD l), bv (J.put l v).isSome]) := by
  refine ACall_enter2 (fun _ _ => by kernel_rfl) Tryz.func41 rfl Tryz.ntmps41 Tryz.results41 (Nat.le_of_ble_eq_true rfl) (fun hok M0 w0 hnl => ?_)
  refine Aw_seq ?_
  refine Aw_region ?_
  refine Al_pu (Pu_boxN rfl rfl) rfl rfl (by decide) (by kernel_rfl) ?_
  refine Al_pu (Pu_move (.inr rfl) (by conv => lhs; whnf)) rfl rfl (by decide) (by kernel_rfl) ?_
  refine Al_pu (Pu_move (.inr rfl) (by conv => lhs; whnf)) rfl rfl (by decide) (by kernel_rfl) ?_
  refine Al_nil ?_
  refine Aw_seq ?_
  refine Aw_region ?_
  refine Al_pu (Pu_loadN rfl Tryz.isAgg36 Tryz.sizeOf36 rfl (Nat.le_of_ble_eq_true rfl)) rfl rfl (by decide) (by kernel_rfl) ?_
  refine Al_pu (Pu_call (rvcheck_a v) rfl ⟨Sub.rfl, trivial⟩) rfl rfl (by decide) (by kernel_rfl) ?_
  refine Al_pu (Pu_move (.inr rfl) (by conv => lhs; whnf)) rfl rfl (by decide) (by kernel_rfl) ?_
  refine Al_nil ?_
  refine Aw_seq ?_
  refine Aw_seq ?_
  refine Aw_draw 16 (by kernel_rfl) (by kernel_rfl) ?_
  refine Dr_pu (Pu_move (.inl rfl) (by conv => lhs; whnf)) rfl rfl ?_
  refine Dr_pu (Pu_not rfl rfl) rfl rfl ?_
  refine Dr_pu (Pu_move (.inl rfl) (by conv => lhs; whnf)) rfl rfl ?_
  refine Dr_st (St_gd [] rfl rfl rfl rfl trivial (fun hg15 => by exact Pu_move (.inl rfl) (by conv => lhs; whnf))) rfl ?_
  refine Dr_st (St_gd [15] rfl rfl rfl rfl ⟨⟨_, rfl⟩, trivial⟩ (fun hg16 => by exact Pu_len rfl Tryz.underlying47 rfl (by first | exact List.length_map .. | exact rfl))) rfl ?_
  refine Dr_st (St_gd [16] rfl rfl rfl rfl ⟨⟨_, rfl⟩, trivial⟩ (fun hg17 => Pu_cmp rfl rfl rfl rfl)) rfl ?_
  refine Dr_st (St_gd [17] rfl rfl rfl rfl ⟨⟨_, rfl⟩, trivial⟩ (fun hg18 => by exact Pu_move (.inl rfl) (by conv => lhs; whnf))) rfl ?_
  refine Dr_st (St_gd2 [] rfl rfl rfl rfl trivial (fun hp19 hg19 => by exact Pu_move (.inl rfl) (by conv => lhs; whnf))) rfl ?_
  refine Dr_st (St_gd2 [19] rfl rfl rfl rfl ⟨⟨_, rfl⟩, trivial⟩ (fun hp20 hg20 => by exact Pu_index rfl Tryz.underlying47 Tryz.sizeOf36 rfl rfl (rfl) (mapgetD (d := default) (show 0 < l.length by have := of_decide_eq_true hg20; omega)))) rfl ?_
  refine Dr_st (St_gd2 [20] rfl rfl rfl rfl ⟨⟨_, rfl⟩, trivial⟩ (fun hp21 hg21 => Pu_field 0 rfl Tryz.underlying36 rfl rfl Tryz.sizeOf9 rfl)) rfl ?_
  refine Dr_st (St_gd2 [21] rfl rfl rfl rfl ⟨⟨_, rfl⟩, trivial⟩ (fun hp22 hg22 => Pu_load1 rfl Tryz.isAgg9 rfl rfl)) rfl ?_
  refine Dr_st (St_gd2 [] rfl rfl rfl rfl trivial (fun hp23 hg23 => Pu_field 0 rfl Tryz.underlying36 rfl rfl Tryz.sizeOf9 rfl)) rfl ?_
  refine Dr_st (St_gd2 [23] rfl rfl rfl rfl ⟨⟨_, rfl⟩, trivial⟩ (fun hp24 hg24 => Pu_load1 rfl Tryz.isAgg9 rfl rfl)) rfl ?_
  refine Dr_st (St_gd2 [22, 24] rfl rfl rfl rfl ⟨⟨_, rfl⟩, ⟨_, rfl⟩, trivial⟩ (fun hp25 hg25 => Pu_str rfl rfl rfl rfl)) rfl ?_
  refine Dr_st (St_gd [18] rfl rfl rfl rfl ⟨⟨_, rfl⟩, trivial⟩ (fun hg26 => Pu_andG rfl rfl (fun h => ⟨hg26, h⟩) rfl rfl)) rfl ?_
  refine Dr_pu (Pu_or rfl rfl rfl rfl) rfl rfl ?_
  refine Dr_nil ?_
  refine Al_nil ?_
  refine Aw_cond rfl (fun h27 => ?_) (fun h27 => ?_)
  · skip
    have hno : J.put l v = none := by
      unfold J.put
      rw [if_neg]
      rintro ⟨h1, h2, _⟩
      rw [h1] at h27
      simp only [Bool.not_true, Bool.false_or, Bool.and_eq_true, decide_eq_true_eq] at h27
      have hk : 0 < l.length := by omega
      have := h2 (l.getD 0 default) (by simp [hk])
      rw [this] at h27
      simp at h27
    refine Aw_seq ?_
    refine Aw_region ?_
    refine Al_pu (Pu_move (.inl rfl) (by conv => lhs; whnf)) rfl rfl (by decide) (by kernel_rfl) ?_
    refine Al_pu (Pu_move (.inr rfl) (by conv => lhs; whnf)) rfl rfl (by decide) (by kernel_rfl) ?_
    refine Al_pu (Pu_move (.inr rfl) (by conv => lhs; whnf)) rfl rfl (by decide) (by kernel_rfl) ?_
    refine Al_nil ?_
    refine Aw_ret ?_
    exact ⟨Sub.d (by rw [hno]; rfl), Sub.bool (by rw [hno]; rfl)⟩ -- ret 0
  · skip
    have hck : J.checkB v = true := by
      cases h : J.checkB v with
      | true => rfl
      | false => rw [h] at h27; simp at h27
    have hke : ∀ x, l[0]? = some x → x.key.toList = v.key.toList := fun x hx => by
      rw [hck] at h27
      obtain ⟨hk, rfl⟩ := List.getElem?_eq_some_iff.1 hx
      simp only [Bool.not_true, Bool.false_or, Bool.and_eq_false_iff, decide_eq_false_iff_not] at h27
      rcases h27 with h | h
      · omega
      · rw [show l.getD 0 default = l[0] from by simp [hk]] at h
        simpa using h
    refine Aw_skip ?_
    refine Aw_seq ?_
    refine Aw_region ?_
    refine Al_pu (Pu_move (.inr rfl) (by conv => lhs; whnf)) rfl rfl (by decide) (by kernel_rfl) ?_
    refine Al_nil ?_
    refine Aw_seq ?_
    refine Aw_region ?_
    refine Al_pu (Pu_move (.inr rfl) (by conv => lhs; whnf)) rfl rfl (by decide) (by kernel_rfl) ?_
    refine Al_nil ?_
    refine Aw_seq ?_
    refine Aw_seq ?_
    refine Aw_region ?_
    refine Al_pu (Pu_move (.inr rfl) (by conv => lhs; whnf)) rfl rfl (by decide) (by kernel_rfl) ?_
    refine Al_nil ?_
    refine Aw_block ?_
    refine Aw_own (j := 7) (k := 7) (T := 36) (n := 6) rfl (fun g0 => ?_)
    refine Aw_loopk (ι := Nat × Nat) [0, 3] [3] (fun (k, g) => [(9, .d (iv k)), (7, .ow 7 g), (8, .d (bv (decide (J.frm l v.n v.s < k))))]) (fun (k, g) => [(7, g, .arr 36 6 ((J.outI l v k).map Ver.row))]) (fun (k, g) => k ≤ l.length ∧ ∀ i, i < k → J.isSt v.n v.s (l.getD i default) = false) (fun (k, g) => l.length - k) ((0, g0)) (⟨Nat.zero_le _, by intros; omega⟩) ⟨Sub.rfl, Sub.rfl, Sub.bool (by simp), trivial⟩ ⟨obeq (by rw [J.outI_zero]; rfl), trivial⟩ ?_
    rintro ⟨k, g⟩ ⟨hk0, hno⟩
    refine Aw_seq ?_
    refine Aw_seq ?_
    refine Aw_region ?_
    refine Al_pu (Pu_move (.inl rfl) (by conv => lhs; whnf)) rfl rfl (by decide) (by kernel_rfl) ?_
    refine Al_pu (Pu_move (.inl rfl) (by conv => lhs; whnf)) rfl rfl (by decide) (by kernel_rfl) ?_
    refine Al_pu (Pu_len rfl Tryz.underlying47 rfl (by first | exact List.length_map .. | exact rfl)) rfl rfl (by decide) (by kernel_rfl) ?_
    refine Al_pu (Pu_cmp rfl rfl rfl rfl) rfl rfl (by decide) (by kernel_rfl) ?_
    refine Al_nil ?_
    refine Aw_cond rfl (fun h32 => ?_) (fun h32 => ?_)
    · (try simp only [decide_eq_true_eq, decide_eq_false_iff_not, List.length_map] at h32)
      have hk : k < l.length := by omega
      have hgd : l.getD k default = l[k] := by simp [hk]
      have hol := J.outI_len l v k
      refine Aw_skip ?_
      -- join 0: live [0, 3, 7, 8, 9], turned [7, 8]
      refine Aw_seq ?_
      refine Aw_block ?_
      refine Aw_seq ?_
      refine Aw_seq ?_
      refine Aw_draw 8 (by kernel_rfl) (by kernel_rfl) ?_
      refine Dr_pu (Pu_move (.inl rfl) (by conv => lhs; whnf)) rfl rfl ?_
      refine Dr_pu (Pu_move (.inl rfl) (by conv => lhs; whnf)) rfl rfl ?_
      refine Dr_pu (Pu_index rfl Tryz.underlying47 Tryz.sizeOf36 rfl rfl (rfl) (mapgetD (d := default) hk)) rfl rfl ?_
      refine Dr_pu (Pu_field 3 rfl Tryz.underlying36 rfl rfl Tryz.sizeOf33 rfl) rfl rfl ?_
      refine Dr_pu (Pu_loadN rfl Tryz.isAgg33 Tryz.sizeOf33 rfl (Nat.le_of_ble_eq_true rfl)) rfl rfl ?_
      refine Dr_pu (Pu_field 3 rfl Tryz.underlying36 rfl rfl Tryz.sizeOf33 rfl) rfl rfl ?_
      refine Dr_pu (Pu_loadN rfl Tryz.isAgg33 Tryz.sizeOf33 rfl (Nat.le_of_ble_eq_true rfl)) rfl rfl ?_
      refine Dr_pu (Pu_eqrow [.int .i64 _, .int .i64 _] [.int .i64 _, .int .i64 _] (fun w => eqv33 _ _ _ _ _ _ w) rfl rfl rfl) rfl rfl ?_
      refine Dr_nil ?_
      refine Al_nil ?_
      refine Aw_cond rfl (fun h42 => ?_) (fun h42 => ?_)
      · skip
        have hnone : J.put l v = none := J.put_st hc hk (by rw [← hgd]; exact h42)
        refine Aw_seq ?_
        refine Aw_region ?_
        refine Al_pu (Pu_move (.inl rfl) (by conv => lhs; whnf)) rfl rfl (by decide) (by kernel_rfl) ?_
        refine Al_pu (Pu_move (.inr rfl) (by conv => lhs; whnf)) rfl rfl (by decide) (by kernel_rfl) ?_
        refine Al_pu (Pu_move (.inr rfl) (by conv => lhs; whnf)) rfl rfl (by decide) (by kernel_rfl) ?_
        refine Al_nil ?_
        refine Aw_ret ?_
        exact ⟨Sub.d (by rw [hnone]; rfl), Sub.bool (by rw [hnone]; rfl)⟩ -- ret 1
      · skip
        refine Aw_skip ?_
        -- join 1: live [0, 3, 7, 8, 9], turned [7, 8]
        refine Aw_seq ?_
        refine Aw_seq ?_
        refine Aw_draw 12 (by kernel_rfl) (by kernel_rfl) ?_
        refine Dr_pu (Pu_move (.inl rfl) (by conv => lhs; whnf)) rfl rfl ?_
        refine Dr_pu (Pu_not rfl rfl) rfl rfl ?_
        refine Dr_pu (Pu_move (.inl rfl) (by conv => lhs; whnf)) rfl rfl ?_
        refine Dr_st (St_gd [] rfl rfl rfl rfl trivial (fun hg47 => Pu_field 3 rfl Tryz.underlying36 rfl rfl Tryz.sizeOf33 rfl)) rfl ?_
        refine Dr_st (St_gd [47] rfl rfl rfl rfl ⟨⟨_, rfl⟩, trivial⟩ (fun hg48 => Pu_loadN rfl Tryz.isAgg33 Tryz.sizeOf33 rfl (Nat.le_of_ble_eq_true rfl))) rfl ?_
        refine Dr_st (St_gd [] rfl rfl rfl rfl trivial (fun hg49 => by exact Pu_move (.inl rfl) (by conv => lhs; whnf))) rfl ?_
        refine Dr_st (St_gd [] rfl rfl rfl rfl trivial (fun hg50 => by exact Pu_move (.inl rfl) (by conv => lhs; whnf))) rfl ?_
        refine Dr_st (St_gd [49, 50] rfl rfl rfl rfl ⟨⟨_, rfl⟩, ⟨_, rfl⟩, trivial⟩ (fun hg51 => Pu_index rfl Tryz.underlying47 Tryz.sizeOf36 rfl rfl (rfl) (mapgetD (d := default) hk))) rfl ?_
        refine Dr_st (St_gd [51] rfl rfl rfl rfl ⟨⟨_, rfl⟩, trivial⟩ (fun hg52 => Pu_field 3 rfl Tryz.underlying36 rfl rfl Tryz.sizeOf33 rfl)) rfl ?_
        refine Dr_st (St_gd [52] rfl rfl rfl rfl ⟨⟨_, rfl⟩, trivial⟩ (fun hg53 => Pu_loadN rfl Tryz.isAgg33 Tryz.sizeOf33 rfl (Nat.le_of_ble_eq_true rfl))) rfl ?_
        refine Dr_st (St_gd [48, 53] rfl rfl rfl rfl ⟨⟨_, rfl⟩, ⟨_, rfl⟩, trivial⟩ (fun hg54 => Pu_call (rless_a _ _ _ _) rfl ⟨Sub.rfl, Sub.rfl, trivial⟩)) rfl ?_
        refine Dr_pu (Pu_and rfl rfl rfl rfl) rfl rfl ?_
        refine Dr_nil ?_
        refine Al_nil ?_
        refine Aw_cond rfl (fun h55 => ?_) (fun h55 => ?_)
        · skip
          have hfk : J.frm l v.n v.s = k := by
            simp only [Bool.and_eq_true, Bool.not_eq_true', decide_eq_false_iff_not] at h55
            exact J.frm_eq hk (by rw [hgd] at h55; show (!D.lessB _ _ _ _) = true; rw [J.less_asymm h55.2]; rfl) h55.1
          have hst := J.outI_at hk hfk
          refine Aw_seq ?_
          refine Aw_region ?_
          refine Al_pu (Pu_move (.inl rfl) (by conv => lhs; whnf)) rfl rfl (by decide) (by kernel_rfl) ?_
          refine Al_pu (Pu_loadN rfl Tryz.isAgg36 Tryz.sizeOf36 rfl (Nat.le_of_ble_eq_true rfl)) rfl rfl (by decide) (by kernel_rfl) ?_
          refine Al_pu (Pu_slice1 rfl Tryz.underlying47 Tryz.sizeOf36 Tryz.zeroValue36 rfl (by decide) (by decide) (by kernel_rfl) rfl rfl rfl) rfl rfl (by decide) (by kernel_rfl) ?_
          refine Al_append rfl rfl rfl (by decide) (by kernel_rfl) elem47 (by decide) Tryz.sizeOf36 rfl rfl rfl (by simp only [List.length_map, List.length_cons, List.length_nil]; omega) (by decide) (fun g59 => ?_)
          refine Al_pu (Pu_move (.inr rfl) (by conv => lhs; whnf)) rfl rfl (by decide) (by kernel_rfl) ?_
          refine Al_nil ?_
          refine Aw_region ?_
          refine Al_pu (Pu_move (.inr rfl) (by conv => lhs; whnf)) rfl rfl (by decide) (by kernel_rfl) ?_
          refine Al_nil ?_
          refine Aw_region ?_
          refine Al_pu (Pu_move (.inl rfl) (by conv => lhs; whnf)) rfl rfl (by decide) (by kernel_rfl) ?_
          refine Al_pu (Pu_move (.inl rfl) (by conv => lhs; whnf)) rfl rfl (by decide) (by kernel_rfl) ?_
          refine Al_pu (Pu_move (.inl rfl) (by conv => lhs; whnf)) rfl rfl (by decide) (by kernel_rfl) ?_
          refine Al_pu (Pu_index rfl Tryz.underlying47 Tryz.sizeOf36 rfl rfl (rfl) (mapgetD (d := default) hk)) rfl rfl (by decide) (by kernel_rfl) ?_
          refine Al_pu (Pu_loadN rfl Tryz.isAgg36 Tryz.sizeOf36 rfl (Nat.le_of_ble_eq_true rfl)) rfl rfl (by decide) (by kernel_rfl) ?_
          refine Al_pu (Pu_slice1 rfl Tryz.underlying47 Tryz.sizeOf36 Tryz.zeroValue36 rfl (by decide) (by decide) (by kernel_rfl) rfl rfl rfl) rfl rfl (by decide) (by kernel_rfl) ?_
          refine Al_append rfl rfl rfl (by decide) (by kernel_rfl) elem47 (by decide) Tryz.sizeOf36 rfl rfl rfl (by simp only [List.length_map, List.length_cons, List.length_nil, List.length_append]; omega) (by decide) (fun g66 => ?_)
          refine Al_pu (Pu_move (.inr rfl) (by conv => lhs; whnf)) rfl rfl (by decide) (by kernel_rfl) ?_
          refine Al_nil ?_
          refine Aw_region ?_
          refine Al_pu (Pu_move (.inl rfl) (by conv => lhs; whnf)) rfl rfl (by decide) (by kernel_rfl) ?_
          refine Al_pu (Pu_add rfl rfl rfl (fun h1 h2 => by simp only [A.inI, A.maxI] at *; omega)) rfl rfl (by decide) (by kernel_rfl) ?_
          refine Al_pu (Pu_move (.inr rfl) (by conv => lhs; whnf)) rfl rfl (by decide) (by kernel_rfl) ?_
          refine Al_nil ?_
          exact ⟨(k + 1, g66), ⟨by omega, fun i hi => by
            rcases Nat.lt_succ_iff_lt_or_eq.1 hi with h | rfl
            · exact hno i h
            · exact h42⟩, by simp only []; omega, Le.ov ⟨Sub.num (by omega), Sub.rfl, Sub.bool (by simp; omega), trivial⟩ ⟨Sub.rfl, Sub.rfl, trivial⟩ ⟨obeq (by rw [hst, List.map_append, List.map_append, ← hgd]; rfl), trivial⟩ ⟨rfl, trivial⟩⟩ -- loop 0 next.0
        · skip
          have hfk : J.frm l v.n v.s ≠ k := fun e => by
            rw [e, hgd] at h55
            simp only [Nat.lt_irrefl, decide_false, Bool.not_false, Bool.true_and] at h55
            rw [hgd] at h42
            have h2 := J.less_tri h55 (J.beq2_comm h42)
            exact J.frm_ne hk (by show (!D.lessB _ _ _ _) = false; rw [h2]; rfl) e
          have hst := J.outI_ne hk hfk
          refine Aw_skip ?_
          refine Aw_region ?_
          refine Al_pu (Pu_move (.inl rfl) (by conv => lhs; whnf)) rfl rfl (by decide) (by kernel_rfl) ?_
          refine Al_pu (Pu_move (.inl rfl) (by conv => lhs; whnf)) rfl rfl (by decide) (by kernel_rfl) ?_
          refine Al_pu (Pu_move (.inl rfl) (by conv => lhs; whnf)) rfl rfl (by decide) (by kernel_rfl) ?_
          refine Al_pu (Pu_index rfl Tryz.underlying47 Tryz.sizeOf36 rfl rfl (rfl) (mapgetD (d := default) hk)) rfl rfl (by decide) (by kernel_rfl) ?_
          refine Al_pu (Pu_loadN rfl Tryz.isAgg36 Tryz.sizeOf36 rfl (Nat.le_of_ble_eq_true rfl)) rfl rfl (by decide) (by kernel_rfl) ?_
          refine Al_pu (Pu_slice1 rfl Tryz.underlying47 Tryz.sizeOf36 Tryz.zeroValue36 rfl (by decide) (by decide) (by kernel_rfl) rfl rfl rfl) rfl rfl (by decide) (by kernel_rfl) ?_
          refine Al_append rfl rfl rfl (by decide) (by kernel_rfl) elem47 (by decide) Tryz.sizeOf36 rfl rfl rfl (by simp only [List.length_map, List.length_cons, List.length_nil, List.length_append]; omega) (by decide) (fun g66 => ?_)
          refine Al_pu (Pu_move (.inr rfl) (by conv => lhs; whnf)) rfl rfl (by decide) (by kernel_rfl) ?_
          refine Al_nil ?_
          refine Aw_region ?_
          refine Al_pu (Pu_move (.inl rfl) (by conv => lhs; whnf)) rfl rfl (by decide) (by kernel_rfl) ?_
          refine Al_pu (Pu_add rfl rfl rfl (fun h1 h2 => by simp only [A.inI, A.maxI] at *; omega)) rfl rfl (by decide) (by kernel_rfl) ?_
          refine Al_pu (Pu_move (.inr rfl) (by conv => lhs; whnf)) rfl rfl (by decide) (by kernel_rfl) ?_
          refine Al_nil ?_
          exact ⟨(k + 1, g66), ⟨by omega, fun i hi => by
            rcases Nat.lt_succ_iff_lt_or_eq.1 hi with h | rfl
            · exact hno i h
            · exact h42⟩, by simp only []; omega, Le.ov ⟨Sub.num (by omega), Sub.rfl, Sub.bool (decide_eq_decide.2 ⟨by omega, by omega⟩), trivial⟩ ⟨Sub.rfl, Sub.rfl, trivial⟩ ⟨obeq (by rw [hst, List.map_append, ← hgd]; rfl), trivial⟩ ⟨rfl, trivial⟩⟩ -- loop 0 next.1
    · (try simp only [decide_eq_true_eq, decide_eq_false_iff_not, List.length_map] at h32)
      have hkn : k = l.length := by omega
      have hpe := J.put_eq hck hke (fun x hx => by
        obtain ⟨i, hi, rfl⟩ := List.mem_iff_getElem.1 hx
        have := hno i (by omega)
        rw [List.getD_eq_getElem?_getD, List.getElem?_eq_getElem hi, Option.getD_some] at this
        exact this)
      have hol := J.outI_len l v k
      refine Aw_exit ?_
      -- join 2: live [7], turned [7]
      refine Aw_seq ?_
      refine Aw_seq ?_
      refine Aw_region ?_
      refine Al_pu (Pu_move (.inl rfl) (by conv => lhs; whnf)) rfl rfl (by decide) (by kernel_rfl) ?_
      refine Al_pu (Pu_not rfl rfl) rfl rfl (by decide) (by kernel_rfl) ?_
      refine Al_nil ?_
      refine Aw_cond rfl (fun h68 => ?_) (fun h68 => ?_)
      · (try simp only [decide_eq_true_eq, decide_eq_false_iff_not, List.length_map] at h68)
        rw [if_neg (by simpa [hkn] using h68)] at hpe
        refine Aw_region ?_
        refine Al_pu (Pu_move (.inl rfl) (by conv => lhs; whnf)) rfl rfl (by decide) (by kernel_rfl) ?_
        refine Al_pu (Pu_loadN rfl Tryz.isAgg36 Tryz.sizeOf36 rfl (Nat.le_of_ble_eq_true rfl)) rfl rfl (by decide) (by kernel_rfl) ?_
        refine Al_pu (Pu_slice1 rfl Tryz.underlying47 Tryz.sizeOf36 Tryz.zeroValue36 rfl (by decide) (by decide) (by kernel_rfl) rfl rfl rfl) rfl rfl (by decide) (by kernel_rfl) ?_
        refine Al_append rfl rfl rfl (by decide) (by kernel_rfl) elem47 (by decide) Tryz.sizeOf36 rfl rfl rfl (by simp only [List.length_map, List.length_cons, List.length_nil]; omega) (by decide) (fun g72 => ?_)
        refine Al_pu (Pu_move (.inr rfl) (by conv => lhs; whnf)) rfl rfl (by decide) (by kernel_rfl) ?_
        refine Al_nil ?_
        refine Aw_seq ?_
        refine Aw_frz hnl (k := 7) [7] rfl ⟨rfl, trivial⟩ ?_
        refine Aw_region ?_
        refine Al_pu (Pu_move (.inl rfl) (by conv => lhs; whnf)) rfl rfl (by decide) (by kernel_rfl) ?_
        refine Al_pu (Pu_move (.inr rfl) (by conv => lhs; whnf)) rfl rfl (by decide) (by kernel_rfl) ?_
        refine Al_pu (Pu_move (.inr rfl) (by conv => lhs; whnf)) rfl rfl (by decide) (by kernel_rfl) ?_
        refine Al_nil ?_
        refine Aw_ret ?_
        exact ⟨Sub.d (by rw [hpe, hkn, Option.getD_some]; show _ = AV.sl 6 ((J.outI l v l.length ++ [v]).map Ver.row); rw [List.map_append]; rfl), Sub.bool (by rw [hpe]; rfl)⟩ -- ret 2
      · (try simp only [decide_eq_true_eq, decide_eq_false_iff_not, List.length_map] at h68)
        rw [if_pos (by simpa [hkn] using h68)] at hpe
        refine Aw_skip ?_
        refine Aw_seq ?_
        refine Aw_frz hnl (k := 7) [7] rfl ⟨rfl, trivial⟩ ?_
        refine Aw_region ?_
        refine Al_pu (Pu_move (.inl rfl) (by conv => lhs; whnf)) rfl rfl (by decide) (by kernel_rfl) ?_
        refine Al_pu (Pu_move (.inr rfl) (by conv => lhs; whnf)) rfl rfl (by decide) (by kernel_rfl) ?_
        refine Al_pu (Pu_move (.inr rfl) (by conv => lhs; whnf)) rfl rfl (by decide) (by kernel_rfl) ?_
        refine Al_nil ?_
        refine Aw_ret ?_
        exact ⟨Sub.d (by rw [hpe, hkn]; rfl), Sub.bool (by rw [hpe]; rfl)⟩ -- ret 3
end Go.Proofs.YtkmjiaegbooplaaGreat
