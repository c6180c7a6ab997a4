/- GraphOrder: what is ahead makes an order. -/
import Derived.Test.YtgoncpjgpkoacaaGLa
set_option linter.unusedSimpArgs false
set_option linter.unusedVariables false
namespace Go.Proofs.Ytgoncpjgpkoacaa
open Go.RowKit A R
open A.RowT
namespace G
theorem beforeB_iff {l : List Event} {i j : Nat} (hj : j < l.length) : beforeB l i j = true ↔ ah l j i = true := by
  unfold beforeB
  rw [aheadI_at l hj, List.any_eq_true]
  constructor
  · rintro ⟨y, h1, h2⟩
    obtain ⟨z, hz, rfl⟩ := List.mem_map.1 h1
    have h2 := of_decide_eq_true h2
    obtain rfl : i = z := by omega
    exact (List.mem_filter.1 hz).2
  · intro h
    exact ⟨i, List.mem_map.2 ⟨i, List.mem_filter.2 ⟨List.mem_range.2 (by have := ah_lt h; omega), h⟩, rfl⟩, by simp⟩
theorem aheadI_mem {l : List Event} {j k : Nat} (hj : j < l.length) : k ∈ aheadI l j ↔ ah l j k = true := by
  rw [aheadI_at l hj]
  unfold aheadN
  rw [List.mem_filter, List.mem_range]
  exact ⟨fun h => h.2, fun h => ⟨by have := ah_lt h; omega, h⟩⟩
theorem depTo_get (l : List Event) : ∀ (n i : Nat), i < n → (depTo l n).getD i 0 = depAt l (depTo l i) i (dirN l i).length
  | 0, _, h => by omega
  | n + 1, i, h => by
    rw [depTo, List.getD_eq_getElem?_getD]
    rcases Nat.lt_or_ge i n with h1 | h1
    · rw [List.getElem?_append_left (by rw [depTo_len]; exact h1), ← List.getD_eq_getElem?_getD]
      exact depTo_get l n i h1
    · obtain rfl : i = n := by omega
      rw [List.getElem?_append_right (by rw [depTo_len]; exact Nat.le_refl _), depTo_len, Nat.sub_self]; rfl
theorem fold_ge (ds : List Nat) : ∀ (ks : List Nat) (n : Nat), n ≤ ks.foldl (depS ds) n ∧ ∀ k ∈ ks, ds.getD k 0 + 1 ≤ ks.foldl (depS ds) n
  | [], n => ⟨Nat.le_refl _, fun k h => by cases h⟩
  | k :: ks, n => by
    obtain ⟨h1, h2⟩ := fold_ge ds ks (depS ds n k)
    rw [List.foldl_cons]
    have h3 : n ≤ depS ds n k ∧ ds.getD k 0 + 1 ≤ depS ds n k := ⟨Nat.le_max_left _ _, Nat.le_max_right _ _⟩
    refine ⟨by omega, fun x hx => ?_⟩
    rcases List.mem_cons.1 hx with rfl | hx
    · omega
    · exact h2 x hx
theorem depths_len (l : List Event) : (depths l).length = l.length := depTo_len l l.length
theorem depths_dir {l : List Event} {j i : Nat} (hj : j < l.length) (h : i ∈ dirN l j) : (depths l).getD i 0 < (depths l).getD j 0 := by
  unfold depths
  have hij := dirN_lt h
  rw [depTo_get l l.length j hj, depTo_get l l.length i (by omega), ← depTo_get l j i hij]
  have := (fold_ge (depTo l j) (dirN l j) 1).2 i h
  unfold depAt
  rw [List.take_length]
  omega
theorem depths_ah {l : List Event} : ∀ {j i : Nat}, j < l.length → ah l j i = true → (depths l).getD i 0 < (depths l).getD j 0 := by
  intro j
  induction j using Nat.strongRecOn with
  | ind j ih =>
    intro i hj h
    obtain ⟨d, h1, h2⟩ := ah_iff.1 h
    have h3 := depths_dir hj h1
    have := dirN_lt h1
    rcases h2 with rfl | h2
    · exact h3
    · have := ih d this (by omega) h2; omega
theorem client_ah {l : List Event} : ∀ {j i : Nat}, j < l.length → i < j → (l.getD i default).client = (l.getD j default).client → ah l j i = true := by
  intro j
  induction j using Nat.strongRecOn with
  | ind j ih =>
    intro i hj hij hc
    have hgi : l.getD i default = l[i]'(by omega) := by simp [show i < l.length by omega]
    cases hm : last l j (l.getD j default).client with
    | none => exact absurd (by rw [← hgi]; exact hc) (last_none hm i (by omega) hij)
    | some m =>
      obtain ⟨h1, h2, h3, h4⟩ := last_lt hm
      have hmd : m ∈ dirN l j := dirN_mem.2 ⟨h1, by unfold dirB; rw [hm]; simp⟩
      rcases Nat.lt_trichotomy i m with h5 | h5 | h5
      · have hgm : l.getD m default = l[m] := by simp [h2]
        exact ah_trans (ah_dir hmd) (ih m h1 h2 h5 (by rw [hgm, h3]; exact hc))
      · rw [h5]; exact ah_dir hmd
      · exact absurd (by rw [← hgi]; exact hc) (h4 i (by omega) h5 hij)
end G
theorem natsA_get {s : List Nat} {i : Nat} (h : i < s.length) : (natsA s)[i]? = some [iv (s.getD i 0 : Nat)] := by
  unfold natsA
  rw [List.getElem?_map, List.getElem?_eq_getElem h, List.getD_eq_getElem?_getD, List.getElem?_eq_getElem h]; rfl
set_option maxRecDepth 100000 in
set_option maxHeartbeats 2000000 in
theorem gorder_law (l : List Act) : ACall Try.prog 6 [.sl 5 (l.map Act.row)] (bv true) := by
  have hmd := made_a l
  have hml := G.made_len l
  generalize G.made l = e at hmd hml
  refine ACall_enter (fun _ _ => by kernel_rfl) Try.func6 rfl Try.ntmps6 Try.results6 (Nat.le_of_ble_eq_true rfl) (fun hok M0 w0 hnl => ?_)
  have hde := gdepth_a e (by omega)
  have hdl : (natsA (G.depths e)).length = e.length := by rw [natsA_len, G.depths_len]
  have hdl2 := G.depths_len e
  refine Aw_seq ?_
  refine Aw_region ?_
  refine Al_pu (Pu_move (.inr rfl) (by conv => lhs; whnf)) rfl rfl (by decide) (by kernel_rfl) ?_
  refine Al_nil ?_
  refine Aw_seq ?_
  refine Aw_region ?_
  refine Al_pu (Pu_call (gawake_a) rfl trivial) rfl rfl (by decide) (by kernel_rfl) ?_
  refine Al_pu (Pu_move (.inr rfl) (by conv => lhs; whnf)) rfl rfl (by decide) (by kernel_rfl) ?_
  refine Al_nil ?_
  refine Aw_seq ?_
  refine Aw_region ?_
  refine Al_pu (Pu_move (.inl rfl) (by conv => lhs; whnf)) rfl rfl (by decide) (by kernel_rfl) ?_
  refine Al_pu (Pu_call (hmd) rfl ⟨Sub.rfl, trivial⟩) rfl rfl (by decide) (by kernel_rfl) ?_
  refine Al_pu (Pu_move (.inr rfl) (by conv => lhs; whnf)) rfl rfl (by decide) (by kernel_rfl) ?_
  refine Al_nil ?_
  refine Aw_seq ?_
  refine Aw_region ?_
  refine Al_pu (Pu_move (.inl rfl) (by conv => lhs; whnf)) rfl rfl (by decide) (by kernel_rfl) ?_
  refine Al_pu (Pu_call (hde) rfl ⟨Sub.rfl, trivial⟩) rfl rfl (by decide) (by kernel_rfl) ?_
  refine Al_pu (Pu_move (.inr rfl) (by conv => lhs; whnf)) rfl rfl (by decide) (by kernel_rfl) ?_
  refine Al_nil ?_
  refine Aw_seq ?_
  refine Aw_seq ?_
  refine Aw_region ?_
  refine Al_pu (Pu_move (.inl rfl) (by conv => lhs; whnf)) rfl rfl (by decide) (by kernel_rfl) ?_
  refine Al_pu (Pu_len rfl Try.underlying27 rfl (by first | exact List.length_map .. | exact rfl)) rfl rfl (by decide) (by kernel_rfl) ?_
  refine Al_pu (Pu_move (.inl rfl) (by conv => lhs; whnf)) rfl rfl (by decide) (by kernel_rfl) ?_
  refine Al_pu (Pu_len rfl Try.underlying24 rfl (by first | exact List.length_map .. | exact rfl)) rfl rfl (by decide) (by kernel_rfl) ?_
  refine Al_pu (Pu_cmp rfl rfl rfl rfl) rfl rfl (by decide) (by kernel_rfl) ?_
  refine Al_nil ?_
  refine Aw_cond rfl (fun h22 => ?_) (fun h22 => ?_)
  · (try simp only [decide_eq_true_eq, decide_eq_false_iff_not, Bool.and_eq_true, Bool.or_eq_true, Bool.and_eq_false_iff, Bool.or_eq_false_iff, Bool.not_eq_true', Bool.not_eq_false', beq_iff_eq, Bool.not_eq_eq_eq_not, Bool.not_true, Bool.not_false, List.length_map, Bool.and_true, Bool.and_false, Bool.false_and, Bool.true_and, Bool.or_false, Bool.false_or] at h22)
    exfalso; omega
  · (try simp only [decide_eq_true_eq, decide_eq_false_iff_not, Bool.and_eq_true, Bool.or_eq_true, Bool.and_eq_false_iff, Bool.or_eq_false_iff, Bool.not_eq_true', Bool.not_eq_false', beq_iff_eq, Bool.not_eq_eq_eq_not, Bool.not_true, Bool.not_false, List.length_map, Bool.and_true, Bool.and_false, Bool.false_and, Bool.true_and, Bool.or_false, Bool.false_or] at h22)
    refine Aw_skip ?_
    refine Aw_seq ?_
    refine Aw_seq ?_
    refine Aw_region ?_
    refine Al_pu (Pu_move (.inr rfl) (by conv => lhs; whnf)) rfl rfl (by decide) (by kernel_rfl) ?_
    refine Al_nil ?_
    refine Aw_block ?_
    refine Aw_loopk (ι := Nat) [3, 4, 5] [] (fun j => [(6, .d (iv j))]) (fun j => []) (fun j => j ≤ e.length) (fun j => e.length - j) (0) (Nat.zero_le _) ⟨Sub.rfl, trivial⟩ trivial ?_
    rintro j hk0
    refine Aw_seq ?_
    refine Aw_seq ?_
    refine Aw_region ?_
    refine Al_pu (Pu_move (.inl rfl) (by conv => lhs; whnf)) rfl rfl (by decide) (by kernel_rfl) ?_
    refine Al_pu (Pu_move (.inl rfl) (by conv => lhs; whnf)) rfl rfl (by decide) (by kernel_rfl) ?_
    refine Al_pu (Pu_len rfl Try.underlying24 rfl (by first | exact List.length_map .. | exact rfl)) rfl rfl (by decide) (by kernel_rfl) ?_
    refine Al_pu (Pu_cmp rfl rfl rfl rfl) rfl rfl (by decide) (by kernel_rfl) ?_
    refine Al_nil ?_
    refine Aw_cond rfl (fun h26 => ?_) (fun h26 => ?_)
    · (try simp only [decide_eq_true_eq, decide_eq_false_iff_not, Bool.and_eq_true, Bool.or_eq_true, Bool.and_eq_false_iff, Bool.or_eq_false_iff, Bool.not_eq_true', Bool.not_eq_false', beq_iff_eq, Bool.not_eq_eq_eq_not, Bool.not_true, Bool.not_false, List.length_map, Bool.and_true, Bool.and_false, Bool.false_and, Bool.true_and, Bool.or_false, Bool.false_or] at h26)
      have hj : j < e.length := by omega
      have hA := gahead_a e (by omega) j
      have hal1 := G.aheadI_len e j
      refine Aw_skip ?_
      refine Aw_seq ?_
      refine Aw_block ?_
      refine Aw_seq ?_
      refine Aw_region ?_
      refine Al_pu (Pu_move (.inl rfl) (by conv => lhs; whnf)) rfl rfl (by decide) (by kernel_rfl) ?_
      refine Al_pu (Pu_move (.inl rfl) (by conv => lhs; whnf)) rfl rfl (by decide) (by kernel_rfl) ?_
      refine Al_pu (Pu_call (hA) rfl ⟨Sub.rfl, Sub.rfl, trivial⟩) rfl rfl (by decide) (by kernel_rfl) ?_
      refine Al_pu (Pu_move (.inr rfl) (by conv => lhs; whnf)) rfl rfl (by decide) (by kernel_rfl) ?_
      refine Al_nil ?_
      refine Aw_seq ?_
      refine Aw_seq ?_
      refine Aw_region ?_
      refine Al_pu (Pu_move (.inr rfl) (by conv => lhs; whnf)) rfl rfl (by decide) (by kernel_rfl) ?_
      refine Al_nil ?_
      refine Aw_block ?_
      refine Aw_loopk (ι := Nat) [3, 4, 5, 6, 7] [] (fun k => [(8, .d (iv k))]) (fun k => []) (fun k => k ≤ (G.aheadI e j).length) (fun k => (G.aheadI e j).length - k) (0) (Nat.zero_le _) ⟨Sub.rfl, trivial⟩ trivial ?_
      rintro k hk1
      refine Aw_seq ?_
      refine Aw_seq ?_
      refine Aw_region ?_
      refine Al_pu (Pu_move (.inl rfl) (by conv => lhs; whnf)) rfl rfl (by decide) (by kernel_rfl) ?_
      refine Al_pu (Pu_move (.inl rfl) (by conv => lhs; whnf)) rfl rfl (by decide) (by kernel_rfl) ?_
      refine Al_pu (Pu_len rfl Try.underlying27 rfl (by first | exact List.length_map .. | exact rfl)) rfl rfl (by decide) (by kernel_rfl) ?_
      refine Al_pu (Pu_cmp rfl rfl rfl rfl) rfl rfl (by decide) (by kernel_rfl) ?_
      refine Al_nil ?_
      refine Aw_cond rfl (fun h35 => ?_) (fun h35 => ?_)
      · (try simp only [decide_eq_true_eq, decide_eq_false_iff_not, Bool.and_eq_true, Bool.or_eq_true, Bool.and_eq_false_iff, Bool.or_eq_false_iff, Bool.not_eq_true', Bool.not_eq_false', beq_iff_eq, Bool.not_eq_eq_eq_not, Bool.not_true, Bool.not_false, List.length_map, Bool.and_true, Bool.and_false, Bool.false_and, Bool.true_and, Bool.or_false, Bool.false_or] at h35)
        have hk : k < (G.aheadI e j).length := by omega
        have hah := (G.aheadI_mem hj).1 (List.getElem_mem hk)
        have hij := G.ah_lt hah
        have hdd := G.depths_ah hj hah
        have hAi := gahead_a e (by omega) ((G.aheadI e j)[k]'hk)
        have hgb := fun (x : Nat) => gbefore_a e (by omega) (x : Int) (j : Int)
        have hal2 := G.aheadI_len e ((G.aheadI e j)[k]'hk)
        have hd52 := natsA_get (s := G.depths e) (i := (G.aheadI e j)[k]'hk) (by omega)
        have hd56 := natsA_get (s := G.depths e) (i := j) (by omega)
        refine Aw_skip ?_
        refine Aw_seq ?_
        refine Aw_block ?_
        refine Aw_seq ?_
        refine Aw_region ?_
        refine Al_pu (Pu_move (.inl rfl) (by conv => lhs; whnf)) rfl rfl (by decide) (by kernel_rfl) ?_
        refine Al_pu (Pu_move (.inl rfl) (by conv => lhs; whnf)) rfl rfl (by decide) (by kernel_rfl) ?_
        refine Al_pu (Pu_index rfl Try.underlying27 Try.sizeOf3 rfl rfl (rfl) (mapget hk)) rfl rfl (by decide) (by kernel_rfl) ?_
        refine Al_pu (Pu_load1 rfl Try.isAgg3 rfl rfl) rfl rfl (by decide) (by kernel_rfl) ?_
        refine Al_pu (Pu_move (.inr rfl) (by conv => lhs; whnf)) rfl rfl (by decide) (by kernel_rfl) ?_
        refine Al_nil ?_
        refine Aw_seq ?_
        refine Aw_seq ?_
        refine Aw_draw 18 (by kernel_rfl) (by kernel_rfl) ?_
        refine Dr_pu (Pu_move (.inl rfl) (by conv => lhs; whnf)) rfl rfl ?_
        refine Dr_pu (Pu_cmp rfl rfl rfl rfl) rfl rfl ?_
        refine Dr_pu (Pu_move (.inl rfl) (by conv => lhs; whnf)) rfl rfl ?_
        refine Dr_st (St_gd [] rfl rfl rfl rfl trivial (fun hg45 => by exact Pu_move (.inl rfl) (by conv => lhs; whnf))) rfl ?_
        refine Dr_st (St_gd [] rfl rfl rfl rfl trivial (fun hg46 => by exact Pu_move (.inl rfl) (by conv => lhs; whnf))) rfl ?_
        refine Dr_st (St_gd [45, 46] rfl rfl rfl rfl ⟨⟨_, rfl⟩, ⟨_, rfl⟩, trivial⟩ (fun hg47 => Pu_cmp rfl rfl rfl rfl)) rfl ?_
        refine Dr_pu (Pu_or rfl rfl rfl rfl) rfl rfl ?_
        refine Dr_pu (Pu_move (.inl rfl) (by conv => lhs; whnf)) rfl rfl ?_
        refine Dr_st (St_gd [] rfl rfl rfl rfl trivial (fun hg50 => by exact Pu_move (.inl rfl) (by conv => lhs; whnf))) rfl ?_
        refine Dr_st (St_gd [] rfl rfl rfl rfl trivial (fun hg51 => by exact Pu_move (.inl rfl) (by conv => lhs; whnf))) rfl ?_
        refine Dr_st (St_gd [50, 51] rfl rfl rfl rfl ⟨⟨_, rfl⟩, ⟨_, rfl⟩, trivial⟩ (fun hg52 => Pu_index rfl Try.underlying27 Try.sizeOf3 rfl rfl (rfl) (hd52))) rfl ?_
        refine Dr_st (St_gd [52] rfl rfl rfl rfl ⟨⟨_, rfl⟩, trivial⟩ (fun hg53 => Pu_load1 rfl Try.isAgg3 rfl rfl)) rfl ?_
        refine Dr_st (St_gd [] rfl rfl rfl rfl trivial (fun hg54 => by exact Pu_move (.inl rfl) (by conv => lhs; whnf))) rfl ?_
        refine Dr_st (St_gd [] rfl rfl rfl rfl trivial (fun hg55 => by exact Pu_move (.inl rfl) (by conv => lhs; whnf))) rfl ?_
        refine Dr_st (St_gd [54, 55] rfl rfl rfl rfl ⟨⟨_, rfl⟩, ⟨_, rfl⟩, trivial⟩ (fun hg56 => Pu_index rfl Try.underlying27 Try.sizeOf3 rfl rfl (rfl) (hd56))) rfl ?_
        refine Dr_st (St_gd [56] rfl rfl rfl rfl ⟨⟨_, rfl⟩, trivial⟩ (fun hg57 => Pu_load1 rfl Try.isAgg3 rfl rfl)) rfl ?_
        refine Dr_st (St_gd [53, 57] rfl rfl rfl rfl ⟨⟨_, rfl⟩, ⟨_, rfl⟩, trivial⟩ (fun hg58 => Pu_cmp rfl rfl rfl rfl)) rfl ?_
        refine Dr_pu (Pu_or rfl rfl rfl rfl) rfl rfl ?_
        refine Dr_nil ?_
        refine Al_nil ?_
        refine Aw_cond rfl (fun h59 => ?_) (fun h59 => ?_)
        · (try simp only [decide_eq_true_eq, decide_eq_false_iff_not, Bool.and_eq_true, Bool.or_eq_true, Bool.and_eq_false_iff, Bool.or_eq_false_iff, Bool.not_eq_true', Bool.not_eq_false', beq_iff_eq, Bool.not_eq_eq_eq_not, Bool.not_true, Bool.not_false, List.length_map, Bool.and_true, Bool.and_false, Bool.false_and, Bool.true_and, Bool.or_false, Bool.false_or] at h59)
          exfalso; omega
        · (try simp only [decide_eq_true_eq, decide_eq_false_iff_not, Bool.and_eq_true, Bool.or_eq_true, Bool.and_eq_false_iff, Bool.or_eq_false_iff, Bool.not_eq_true', Bool.not_eq_false', beq_iff_eq, Bool.not_eq_eq_eq_not, Bool.not_true, Bool.not_false, List.length_map, Bool.and_true, Bool.and_false, Bool.false_and, Bool.true_and, Bool.or_false, Bool.false_or] at h59)
          refine Aw_skip ?_
          refine Aw_seq ?_
          refine Aw_region ?_
          refine Al_pu (Pu_move (.inl rfl) (by conv => lhs; whnf)) rfl rfl (by decide) (by kernel_rfl) ?_
          refine Al_pu (Pu_move (.inl rfl) (by conv => lhs; whnf)) rfl rfl (by decide) (by kernel_rfl) ?_
          refine Al_pu (Pu_call (hAi) rfl ⟨Sub.rfl, Sub.rfl, trivial⟩) rfl rfl (by decide) (by kernel_rfl) ?_
          refine Al_pu (Pu_move (.inr rfl) (by conv => lhs; whnf)) rfl rfl (by decide) (by kernel_rfl) ?_
          refine Al_nil ?_
          refine Aw_seq ?_
          refine Aw_region ?_
          refine Al_pu (Pu_move (.inr rfl) (by conv => lhs; whnf)) rfl rfl (by decide) (by kernel_rfl) ?_
          refine Al_nil ?_
          refine Aw_block ?_
          refine Aw_loopk (ι := Nat) [3, 4, 5, 6, 7, 8, 10] [] (fun x => [(11, .d (iv x))]) (fun x => []) (fun x => x ≤ (G.aheadI e ((G.aheadI e j)[k]'hk)).length) (fun x => (G.aheadI e ((G.aheadI e j)[k]'hk)).length - x) (0) (Nat.zero_le _) ⟨Sub.rfl, trivial⟩ trivial ?_
          rintro x hk2
          refine Aw_seq ?_
          refine Aw_seq ?_
          refine Aw_region ?_
          refine Al_pu (Pu_move (.inl rfl) (by conv => lhs; whnf)) rfl rfl (by decide) (by kernel_rfl) ?_
          refine Al_pu (Pu_move (.inl rfl) (by conv => lhs; whnf)) rfl rfl (by decide) (by kernel_rfl) ?_
          refine Al_pu (Pu_len rfl Try.underlying27 rfl (by first | exact List.length_map .. | exact rfl)) rfl rfl (by decide) (by kernel_rfl) ?_
          refine Al_pu (Pu_cmp rfl rfl rfl rfl) rfl rfl (by decide) (by kernel_rfl) ?_
          refine Al_nil ?_
          refine Aw_cond rfl (fun h66 => ?_) (fun h66 => ?_)
          · (try simp only [decide_eq_true_eq, decide_eq_false_iff_not, Bool.and_eq_true, Bool.or_eq_true, Bool.and_eq_false_iff, Bool.or_eq_false_iff, Bool.not_eq_true', Bool.not_eq_false', beq_iff_eq, Bool.not_eq_eq_eq_not, Bool.not_true, Bool.not_false, List.length_map, Bool.and_true, Bool.and_false, Bool.false_and, Bool.true_and, Bool.or_false, Bool.false_or] at h66)
            have hx : x < (G.aheadI e ((G.aheadI e j)[k]'hk)).length := by omega
            have hah2 := (G.aheadI_mem (by omega)).1 (List.getElem_mem hx)
            have hbe := hgb ((G.aheadI e ((G.aheadI e j)[k]'hk))[x]'hx)
            rw [(G.beforeB_iff hj).2 (G.ah_trans hah hah2)] at hbe
            refine Aw_skip ?_
            refine Aw_seq ?_
            refine Aw_block ?_
            refine Aw_seq ?_
            refine Aw_region ?_
            refine Al_pu (Pu_move (.inl rfl) (by conv => lhs; whnf)) rfl rfl (by decide) (by kernel_rfl) ?_
            refine Al_pu (Pu_move (.inl rfl) (by conv => lhs; whnf)) rfl rfl (by decide) (by kernel_rfl) ?_
            refine Al_pu (Pu_move (.inl rfl) (by conv => lhs; whnf)) rfl rfl (by decide) (by kernel_rfl) ?_
            refine Al_pu (Pu_index rfl Try.underlying27 Try.sizeOf3 rfl rfl (rfl) (mapget hx)) rfl rfl (by decide) (by kernel_rfl) ?_
            refine Al_pu (Pu_load1 rfl Try.isAgg3 rfl rfl) rfl rfl (by decide) (by kernel_rfl) ?_
            refine Al_pu (Pu_move (.inl rfl) (by conv => lhs; whnf)) rfl rfl (by decide) (by kernel_rfl) ?_
            refine Al_pu (Pu_call (hbe) rfl ⟨Sub.rfl, Sub.rfl, Sub.rfl, trivial⟩) rfl rfl (by decide) (by kernel_rfl) ?_
            refine Al_pu (Pu_not rfl rfl) rfl rfl (by decide) (by kernel_rfl) ?_
            refine Al_nil ?_
            refine Aw_cond rfl (fun h76 => ?_) (fun h76 => ?_)
            · (try simp only [decide_eq_true_eq, decide_eq_false_iff_not, Bool.and_eq_true, Bool.or_eq_true, Bool.and_eq_false_iff, Bool.or_eq_false_iff, Bool.not_eq_true', Bool.not_eq_false', beq_iff_eq, Bool.not_eq_eq_eq_not, Bool.not_true, Bool.not_false, List.length_map, Bool.and_true, Bool.and_false, Bool.false_and, Bool.true_and, Bool.or_false, Bool.false_or] at h76)
              exfalso; revert h76; decide
            · (try simp only [decide_eq_true_eq, decide_eq_false_iff_not, Bool.and_eq_true, Bool.or_eq_true, Bool.and_eq_false_iff, Bool.or_eq_false_iff, Bool.not_eq_true', Bool.not_eq_false', beq_iff_eq, Bool.not_eq_eq_eq_not, Bool.not_true, Bool.not_false, List.length_map, Bool.and_true, Bool.and_false, Bool.false_and, Bool.true_and, Bool.or_false, Bool.false_or] at h76)
              refine Aw_skip ?_
              refine Aw_region ?_
              refine Al_pu (Pu_move (.inl rfl) (by conv => lhs; whnf)) rfl rfl (by decide) (by kernel_rfl) ?_
              refine Al_pu (Pu_add rfl rfl rfl (fun h1 h2 => by simp only [A.inI, A.maxI] at *; omega)) rfl rfl (by decide) (by kernel_rfl) ?_
              refine Al_pu (Pu_move (.inr rfl) (by conv => lhs; whnf)) rfl rfl (by decide) (by kernel_rfl) ?_
              refine Al_nil ?_
              exact ⟨x + 1, by omega, by omega, Le.ov ⟨Sub.num (by omega), trivial⟩ ⟨Sub.rfl, Sub.rfl, Sub.rfl, Sub.rfl, Sub.rfl, Sub.rfl, Sub.rfl, trivial⟩ trivial trivial⟩ -- loop 2 next.0
          · (try simp only [decide_eq_true_eq, decide_eq_false_iff_not, Bool.and_eq_true, Bool.or_eq_true, Bool.and_eq_false_iff, Bool.or_eq_false_iff, Bool.not_eq_true', Bool.not_eq_false', beq_iff_eq, Bool.not_eq_eq_eq_not, Bool.not_true, Bool.not_false, List.length_map, Bool.and_true, Bool.and_false, Bool.false_and, Bool.true_and, Bool.or_false, Bool.false_or] at h66)
            skip
            refine Aw_exit ?_
            refine Aw_region ?_
            refine Al_pu (Pu_move (.inl rfl) (by conv => lhs; whnf)) rfl rfl (by decide) (by kernel_rfl) ?_
            refine Al_pu (Pu_add rfl rfl rfl (fun h1 h2 => by simp only [A.inI, A.maxI] at *; omega)) rfl rfl (by decide) (by kernel_rfl) ?_
            refine Al_pu (Pu_move (.inr rfl) (by conv => lhs; whnf)) rfl rfl (by decide) (by kernel_rfl) ?_
            refine Al_nil ?_
            exact ⟨k + 1, by omega, by omega, Le.ov ⟨Sub.num (by omega), trivial⟩ ⟨Sub.rfl, Sub.rfl, Sub.rfl, Sub.rfl, Sub.rfl, trivial⟩ trivial trivial⟩ -- loop 1 next.0
      · (try simp only [decide_eq_true_eq, decide_eq_false_iff_not, Bool.and_eq_true, Bool.or_eq_true, Bool.and_eq_false_iff, Bool.or_eq_false_iff, Bool.not_eq_true', Bool.not_eq_false', beq_iff_eq, Bool.not_eq_eq_eq_not, Bool.not_true, Bool.not_false, List.length_map, Bool.and_true, Bool.and_false, Bool.false_and, Bool.true_and, Bool.or_false, Bool.false_or] at h35)
        skip
        refine Aw_exit ?_
        refine Aw_seq ?_
        refine Aw_region ?_
        refine Al_pu (Pu_move (.inr rfl) (by conv => lhs; whnf)) rfl rfl (by decide) (by kernel_rfl) ?_
        refine Al_nil ?_
        refine Aw_block ?_
        refine Aw_loopk (ι := Nat) [3, 4, 5, 6] [] (fun i => [(12, .d (iv i))]) (fun i => []) (fun i => i ≤ j) (fun i => j - i) (0) (Nat.zero_le _) ⟨Sub.rfl, trivial⟩ trivial ?_
        rintro i hk3
        refine Aw_seq ?_
        refine Aw_seq ?_
        refine Aw_region ?_
        refine Al_pu (Pu_move (.inl rfl) (by conv => lhs; whnf)) rfl rfl (by decide) (by kernel_rfl) ?_
        refine Al_pu (Pu_move (.inl rfl) (by conv => lhs; whnf)) rfl rfl (by decide) (by kernel_rfl) ?_
        refine Al_pu (Pu_cmp rfl rfl rfl rfl) rfl rfl (by decide) (by kernel_rfl) ?_
        refine Al_nil ?_
        refine Aw_cond rfl (fun h79 => ?_) (fun h79 => ?_)
        · (try simp only [decide_eq_true_eq, decide_eq_false_iff_not, Bool.and_eq_true, Bool.or_eq_true, Bool.and_eq_false_iff, Bool.or_eq_false_iff, Bool.not_eq_true', Bool.not_eq_false', beq_iff_eq, Bool.not_eq_eq_eq_not, Bool.not_true, Bool.not_false, List.length_map, Bool.and_true, Bool.and_false, Bool.false_and, Bool.true_and, Bool.or_false, Bool.false_or] at h79)
          have hij : i < j := by omega
          have hbe := gbefore_a e (by omega) (i : Int) (j : Int)
          have hcl := fun hc => (G.beforeB_iff hj).2 (G.client_ah (l := e) (i := i) hj hij hc)
          refine Aw_skip ?_
          refine Aw_seq ?_
          refine Aw_block ?_
          refine Aw_seq ?_
          refine Aw_draw 18 (by kernel_rfl) (by kernel_rfl) ?_
          refine Dr_pu (Pu_move (.inl rfl) (by conv => lhs; whnf)) rfl rfl ?_
          refine Dr_pu (Pu_move (.inl rfl) (by conv => lhs; whnf)) rfl rfl ?_
          refine Dr_pu (Pu_index rfl Try.underlying24 Try.sizeOf33 rfl rfl (rfl) (mapgetD (d := default) (show i < e.length by omega))) rfl rfl ?_
          refine Dr_pu (Pu_field 1 rfl Try.underlying33 rfl rfl Try.sizeOf3 rfl) rfl rfl ?_
          refine Dr_pu (Pu_load1 rfl Try.isAgg3 rfl rfl) rfl rfl ?_
          refine Dr_pu (Pu_move (.inl rfl) (by conv => lhs; whnf)) rfl rfl ?_
          refine Dr_pu (Pu_move (.inl rfl) (by conv => lhs; whnf)) rfl rfl ?_
          refine Dr_pu (Pu_index rfl Try.underlying24 Try.sizeOf33 rfl rfl (rfl) (mapgetD (d := default) hj)) rfl rfl ?_
          refine Dr_pu (Pu_field 1 rfl Try.underlying33 rfl rfl Try.sizeOf3 rfl) rfl rfl ?_
          refine Dr_pu (Pu_load1 rfl Try.isAgg3 rfl rfl) rfl rfl ?_
          refine Dr_pu (Pu_cmp rfl rfl rfl rfl) rfl rfl ?_
          refine Dr_pu (Pu_move (.inl rfl) (by conv => lhs; whnf)) rfl rfl ?_
          refine Dr_st (St_gd [] rfl rfl rfl rfl trivial (fun hg94 => by exact Pu_move (.inl rfl) (by conv => lhs; whnf))) rfl ?_
          refine Dr_st (St_gd [] rfl rfl rfl rfl trivial (fun hg95 => by exact Pu_move (.inl rfl) (by conv => lhs; whnf))) rfl ?_
          refine Dr_st (St_gd [] rfl rfl rfl rfl trivial (fun hg96 => by exact Pu_move (.inl rfl) (by conv => lhs; whnf))) rfl ?_
          refine Dr_st (St_gd [94, 95, 96] rfl rfl rfl rfl ⟨⟨_, rfl⟩, ⟨_, rfl⟩, ⟨_, rfl⟩, trivial⟩ (fun hg97 => Pu_call (hbe) rfl ⟨Sub.rfl, Sub.rfl, Sub.rfl, trivial⟩)) rfl ?_
          refine Dr_st (St_gd [97] rfl rfl rfl rfl ⟨⟨_, rfl⟩, trivial⟩ (fun hg98 => Pu_not rfl rfl)) rfl ?_
          refine Dr_pu (Pu_and rfl rfl rfl rfl) rfl rfl ?_
          refine Dr_nil ?_
          refine Al_nil ?_
          refine Aw_cond rfl (fun h99 => ?_) (fun h99 => ?_)
          · (try simp only [decide_eq_true_eq, decide_eq_false_iff_not, Bool.and_eq_true, Bool.or_eq_true, Bool.and_eq_false_iff, Bool.or_eq_false_iff, Bool.not_eq_true', Bool.not_eq_false', beq_iff_eq, Bool.not_eq_eq_eq_not, Bool.not_true, Bool.not_false, List.length_map, Bool.and_true, Bool.and_false, Bool.false_and, Bool.true_and, Bool.or_false, Bool.false_or] at h99)
            exfalso; simp at h99; rw [hcl h99.1] at h99; simp at h99
          · (try simp only [decide_eq_true_eq, decide_eq_false_iff_not, Bool.and_eq_true, Bool.or_eq_true, Bool.and_eq_false_iff, Bool.or_eq_false_iff, Bool.not_eq_true', Bool.not_eq_false', beq_iff_eq, Bool.not_eq_eq_eq_not, Bool.not_true, Bool.not_false, List.length_map, Bool.and_true, Bool.and_false, Bool.false_and, Bool.true_and, Bool.or_false, Bool.false_or] at h99)
            refine Aw_skip ?_
            refine Aw_region ?_
            refine Al_pu (Pu_move (.inl rfl) (by conv => lhs; whnf)) rfl rfl (by decide) (by kernel_rfl) ?_
            refine Al_pu (Pu_add rfl rfl rfl (fun h1 h2 => by simp only [A.inI, A.maxI] at *; omega)) rfl rfl (by decide) (by kernel_rfl) ?_
            refine Al_pu (Pu_move (.inr rfl) (by conv => lhs; whnf)) rfl rfl (by decide) (by kernel_rfl) ?_
            refine Al_nil ?_
            exact ⟨i + 1, by omega, by omega, Le.ov ⟨Sub.num (by omega), trivial⟩ ⟨Sub.rfl, Sub.rfl, Sub.rfl, Sub.rfl, trivial⟩ trivial trivial⟩ -- loop 3 next.0
        · (try simp only [decide_eq_true_eq, decide_eq_false_iff_not, Bool.and_eq_true, Bool.or_eq_true, Bool.and_eq_false_iff, Bool.or_eq_false_iff, Bool.not_eq_true', Bool.not_eq_false', beq_iff_eq, Bool.not_eq_eq_eq_not, Bool.not_true, Bool.not_false, List.length_map, Bool.and_true, Bool.and_false, Bool.false_and, Bool.true_and, Bool.or_false, Bool.false_or] at h79)
          refine Aw_exit ?_
          refine Aw_region ?_
          refine Al_pu (Pu_move (.inl rfl) (by conv => lhs; whnf)) rfl rfl (by decide) (by kernel_rfl) ?_
          refine Al_pu (Pu_add rfl rfl rfl (fun h1 h2 => by simp only [A.inI, A.maxI] at *; omega)) rfl rfl (by decide) (by kernel_rfl) ?_
          refine Al_pu (Pu_move (.inr rfl) (by conv => lhs; whnf)) rfl rfl (by decide) (by kernel_rfl) ?_
          refine Al_nil ?_
          exact ⟨j + 1, by omega, by omega, Le.ov ⟨Sub.num (by omega), trivial⟩ ⟨Sub.rfl, Sub.rfl, Sub.rfl, trivial⟩ trivial trivial⟩ -- loop 0 next.0
    · (try simp only [decide_eq_true_eq, decide_eq_false_iff_not, Bool.and_eq_true, Bool.or_eq_true, Bool.and_eq_false_iff, Bool.or_eq_false_iff, Bool.not_eq_true', Bool.not_eq_false', beq_iff_eq, Bool.not_eq_eq_eq_not, Bool.not_true, Bool.not_false, List.length_map, Bool.and_true, Bool.and_false, Bool.false_and, Bool.true_and, Bool.or_false, Bool.false_or] at h26)
      refine Aw_exit ?_
      refine Aw_seq ?_
      refine Aw_region ?_
      refine Al_pu (Pu_move (.inl rfl) (by conv => lhs; whnf)) rfl rfl (by decide) (by kernel_rfl) ?_
      refine Al_pu (Pu_move (.inr rfl) (by conv => lhs; whnf)) rfl rfl (by decide) (by kernel_rfl) ?_
      refine Al_nil ?_
      refine Aw_ret ?_
      exact Sub.rfl -- ret 0
end Go.Proofs.Ytgoncpjgpkoacaa
