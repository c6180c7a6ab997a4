/- GraphEdges: edges make the order. -/
import Derived.Test.YtgoncpjgpkoacaaGLo
set_option linter.unusedSimpArgs false
set_option linter.unusedVariables false
namespace Go.Proofs.Ytgoncpjgpkoacaa
open Go.RowKit A R
open A.RowT
namespace G
/-- How many edges, of the first so many, end at each. -/
def many (l : List Event) (k : Nat) : List Nat := (List.range 16).map fun j => ((edges l).take k).countP fun p => decide (p.2 = j)
theorem many_len (l : List Event) (k : Nat) : (many l k).length = 16 := by simp [many]
theorem many_at (l : List Event) (k : Nat) {j : Nat} (hj : j < 16) : (many l k)[j]? = some (((edges l).take k).countP fun p => decide (p.2 = j)) := by
  unfold many
  rw [List.getElem?_map, List.getElem?_range hj]; rfl
theorem many_getD (l : List Event) (k : Nat) {j : Nat} (hj : j < 16) : (many l k).getD j 0 = ((edges l).take k).countP fun p => decide (p.2 = j) := by
  rw [List.getD_eq_getElem?_getD, many_at l k hj]; rfl
theorem many_set (l : List Event) {k : Nat} (hk : k < (edges l).length) (hj : ((edges l)[k]).2 < 16) : (many l k).set ((edges l)[k]).2 ((many l k).getD ((edges l)[k]).2 0 + 1) = many l (k + 1) := by
  apply List.ext_getElem?
  intro x
  rcases Nat.lt_or_ge x 16 with hx | hx
  · rw [many_at l (k + 1) hx, List.take_succ_eq_append_getElem hk, List.countP_append, List.countP_singleton]
    by_cases e : ((edges l)[k]).2 = x
    · rw [e, List.getElem?_set_self (by rw [many_len]; exact hx), many_getD l k hx, decide_eq_true rfl]; rfl
    · rw [List.getElem?_set_ne e, many_at l k hx, decide_eq_false e]; rfl
  · rw [List.getElem?_eq_none (by rw [List.length_set, many_len]; exact hx), List.getElem?_eq_none (by rw [many_len]; exact hx)]
theorem many_zero (l : List Event) : many l 0 = List.replicate 16 0 := by simp [many]; rfl
theorem many_all (l : List Event) (j : Nat) (hj : j < l.length) : ((edges l).take (edges l).length).countP (fun p => decide (p.2 = j)) = (dirN l j).length := by
  rw [List.take_length]
  have h : ∀ k, (edgesTo l k).countP (fun p => decide (p.2 = j)) = if j < k then (dirN l j).length else 0 := by
    intro k
    induction k with
    | zero => simp [edgesTo]
    | succ k ih =>
      rw [edgesTo_succ, List.countP_append, ih]
      unfold edgesAt
      rw [List.countP_map]
      by_cases e : k = j
      · subst e
        rw [if_neg (by omega), if_pos (by omega)]
        have : (fun p : Nat × Nat => decide (p.2 = k)) ∘ (fun i => (i, k)) = fun _ => true := by funext i; simp
        rw [this]; simp
      · have : (fun p : Nat × Nat => decide (p.2 = j)) ∘ (fun i => (i, k)) = fun _ => false := by funext i; simp [e]
        rw [this]
        have h0 : (dirN l k).countP (fun _ => false) = 0 := by rw [List.countP_eq_zero]; simp
        rw [h0, Nat.add_zero]
        by_cases h1 : j < k
        · rw [if_pos h1, if_pos (by omega)]
        · rw [if_neg h1, if_neg (by omega)]
  have := h l.length
  rw [if_pos hj] at this
  exact this
theorem ahead_none {l : List Event} {j : Nat} (hj : j < l.length) : (0 < (aheadI l j).length) ↔ 0 < (dirN l j).length := by
  constructor
  · intro h
    obtain ⟨x, hx⟩ := List.exists_mem_of_length_pos h
    obtain ⟨d, h1, _⟩ := ah_iff.1 ((aheadI_mem hj).1 hx)
    exact List.length_pos_of_mem h1
  · intro h
    obtain ⟨x, hx⟩ := List.exists_mem_of_length_pos h
    exact List.length_pos_of_mem ((aheadI_mem hj).2 (ah_dir hx))
/-- An edge is a client's, or a read's. -/
theorem dir_why {l : List Event} {i j : Nat} (hj : j < l.length) (h : i ∈ dirN l j) : (l.getD i default).client = (l.getD j default).client ∨ ((l.getD j default).kind = 2 ∧ wrB (l.getD j default) (l.getD i default) = true) := by
  obtain ⟨h1, h2⟩ := dirN_mem.1 h
  have hgi : l.getD i default = l[i]'(by omega) := by simp [show i < l.length by omega]
  unfold dirB at h2
  simp only [Bool.or_eq_true, Bool.and_eq_true, decide_eq_true_eq] at h2
  rcases h2 with h2 | ⟨⟨h3, _⟩, h5⟩
  · obtain ⟨_, h6, h7, _⟩ := last_lt h2
    exact .inl (by rw [hgi]; exact h7)
  · obtain ⟨_, h6, h7⟩ := first_lt h5
    exact .inr ⟨h3, by rw [← wr_isW, hgi]; exact h7⟩
end G
theorem A.bxeq {g : Nat} {T : TypeId} {cs cs' : List SV} (h : cs = cs') : some (g, AO.box T cs) = some (g, AO.box T cs') := by rw [h]
set_option maxRecDepth 100000 in
set_option maxHeartbeats 2000000 in
theorem gedges_law (l : List Act) : ACall Try.prog 5 [.sl 5 (l.map Act.row)] (bv true) := by
  have hmd := made_a l
  have hml := G.made_len l
  generalize G.made l = e at hmd hml
  refine ACall_enter (fun _ _ => by kernel_rfl) Try.func5 rfl Try.ntmps5 Try.results5 (Nat.le_of_ble_eq_true rfl) (fun hok M0 w0 hnl => ?_)
  have hge := gedges_a e (by omega)
  have hel := G.edges_len e
  refine Aw_seq ?_
  refine Aw_region ?_
  refine Al_pu (Pu_move (.inr rfl) (by conv => lhs; whnf)) rfl rfl (by decide) (by kernel_rfl) ?_
  refine Al_nil ?_
  refine Aw_seq ?_
  refine Aw_region ?_
  refine Al_pu (Pu_call (gawake_a) rfl trivial) rfl rfl (by decide) (by kernel_rfl) ?_
  refine Al_pu (Pu_move (.inr rfl) (by conv => lhs; whnf)) rfl rfl (by decide) (by kernel_rfl) ?_
  refine Al_nil ?_
  refine Aw_seq ?_
  refine Aw_region ?_
  refine Al_pu (Pu_move (.inl rfl) (by conv => lhs; whnf)) rfl rfl (by decide) (by kernel_rfl) ?_
  refine Al_pu (Pu_call (hmd) rfl ⟨Sub.rfl, trivial⟩) rfl rfl (by decide) (by kernel_rfl) ?_
  refine Al_pu (Pu_move (.inr rfl) (by conv => lhs; whnf)) rfl rfl (by decide) (by kernel_rfl) ?_
  refine Al_nil ?_
  refine Aw_seq ?_
  refine Aw_region ?_
  refine Al_pu (Pu_move (.inl rfl) (by conv => lhs; whnf)) rfl rfl (by decide) (by kernel_rfl) ?_
  refine Al_pu (Pu_call (hge) rfl ⟨Sub.rfl, trivial⟩) rfl rfl (by decide) (by kernel_rfl) ?_
  refine Al_pu (Pu_move (.inr rfl) (by conv => lhs; whnf)) rfl rfl (by decide) (by kernel_rfl) ?_
  refine Al_nil ?_
  refine Aw_seq ?_
  refine Aw_region ?_
  refine Al_alloc rfl rfl rfl (by decide) Try.zeroValue46 rfl (by kernel_rfl) (fun g6 => ?_)
  refine Al_nil ?_
  refine Aw_seq ?_
  refine Aw_seq ?_
  refine Aw_region ?_
  refine Al_pu (Pu_move (.inr rfl) (by conv => lhs; whnf)) rfl rfl (by decide) (by kernel_rfl) ?_
  refine Al_nil ?_
  refine Aw_block ?_
  refine Aw_loopk (ι := Nat) [3, 4, 5, 6] [] (fun k => [(7, .d (iv k))]) (fun k => [(6, g6, .box 46 ((G.many e k).map fun i => .d (iv (i : Nat))))]) (fun k => k ≤ (G.edges e).length) (fun k => (G.edges e).length - k) (0) (Nat.zero_le _) ⟨Sub.rfl, trivial⟩ ⟨(by rw [G.many_zero]; rfl), trivial⟩ ?_
  rintro k hk0
  refine Aw_seq ?_
  refine Aw_seq ?_
  refine Aw_region ?_
  refine Al_pu (Pu_move (.inl rfl) (by conv => lhs; whnf)) rfl rfl (by decide) (by kernel_rfl) ?_
  refine Al_pu (Pu_move (.inl rfl) (by conv => lhs; whnf)) rfl rfl (by decide) (by kernel_rfl) ?_
  refine Al_pu (Pu_len rfl Try.underlying44 rfl (by first | exact List.length_map .. | exact rfl)) rfl rfl (by decide) (by kernel_rfl) ?_
  refine Al_pu (Pu_cmp rfl rfl rfl rfl) rfl rfl (by decide) (by kernel_rfl) ?_
  refine Al_nil ?_
  refine Aw_cond rfl (fun h22 => ?_) (fun h22 => ?_)
  · (try simp only [decide_eq_true_eq, decide_eq_false_iff_not, Bool.and_eq_true, Bool.or_eq_true, Bool.and_eq_false_iff, Bool.or_eq_false_iff, Bool.not_eq_true', Bool.not_eq_false', beq_iff_eq, Bool.not_eq_eq_eq_not, Bool.not_true, Bool.not_false, List.length_map, Bool.and_true, Bool.and_false, Bool.false_and, Bool.true_and, Bool.or_false, Bool.false_or] at h22)
    have hk : k < (G.edges e).length := by omega
    have hem := G.edges_mem.1 (List.getElem_mem hk)
    have hij := G.dirN_lt hem.2
    have hbe := gbefore_a e (by omega) (((G.edges e)[k]'hk).1 : Nat) (((G.edges e)[k]'hk).2 : Nat)
    rw [(G.beforeB_iff hem.1).2 (G.ah_dir hem.2)] at hbe
    have hwhy := G.dir_why hem.1 hem.2
    have hi16 : ((G.edges e)[k]'hk).1 < e.length := by omega
    have hj16 : ((G.edges e)[k]'hk).2 < 16 := by omega
    have hms := G.many_set e hk hj16
    have hmg := G.many_getD e k hj16
    have hcl := List.countP_le_length (p := fun p : Nat × Nat => decide (p.2 = ((G.edges e)[k]'hk).2)) (l := (G.edges e).take k)
    rw [List.length_take] at hcl
    have hset : ((G.many e k).map fun i => SV.d (iv (i : Nat))).set (0 + ((G.edges e)[k]'hk).2 * 1) (.d (iv (((G.many e k).getD ((G.edges e)[k]'hk).2 0 : Nat) + 1))) = (G.many e (k + 1)).map fun i => SV.d (iv (i : Nat)) := by
      rw [← hms, List.map_set, Nat.zero_add, Nat.mul_one]; rfl
    have hat57 : ((G.many e k).map fun i => SV.d (iv (i : Nat)))[0 + ((G.edges e)[k]'hk).2 * 1]? = some (.d (iv ((G.many e k).getD ((G.edges e)[k]'hk).2 0 : Nat))) := by
      rw [Nat.zero_add, Nat.mul_one, List.getElem?_map, hmg, G.many_at e k hj16]; rfl
    refine Aw_skip ?_
    refine Aw_seq ?_
    refine Aw_block ?_
    refine Aw_seq ?_
    refine Aw_region ?_
    refine Al_pu (Pu_move (.inl rfl) (by conv => lhs; whnf)) rfl rfl (by decide) (by kernel_rfl) ?_
    refine Al_pu (Pu_move (.inl rfl) (by conv => lhs; whnf)) rfl rfl (by decide) (by kernel_rfl) ?_
    refine Al_pu (Pu_index rfl Try.underlying44 Try.sizeOf47 rfl rfl (rfl) (mapget hk)) rfl rfl (by decide) (by kernel_rfl) ?_
    refine Al_pu (Pu_indexArr rfl Try.underlying47 Try.sizeOf3 rfl rfl (show ((0 : Int)) = ((0 : Nat) : Int) from rfl) (by decide)) rfl rfl (by decide) (by kernel_rfl) ?_
    refine Al_pu (Pu_load1 rfl Try.isAgg3 rfl rfl) rfl rfl (by decide) (by kernel_rfl) ?_
    refine Al_pu (Pu_move (.inr rfl) (by conv => lhs; whnf)) rfl rfl (by decide) (by kernel_rfl) ?_
    refine Al_nil ?_
    refine Aw_seq ?_
    refine Aw_region ?_
    refine Al_pu (Pu_move (.inl rfl) (by conv => lhs; whnf)) rfl rfl (by decide) (by kernel_rfl) ?_
    refine Al_pu (Pu_move (.inl rfl) (by conv => lhs; whnf)) rfl rfl (by decide) (by kernel_rfl) ?_
    refine Al_pu (Pu_index rfl Try.underlying44 Try.sizeOf47 rfl rfl (rfl) (mapget hk)) rfl rfl (by decide) (by kernel_rfl) ?_
    refine Al_pu (Pu_indexArr rfl Try.underlying47 Try.sizeOf3 rfl rfl (show ((1 : Int)) = ((1 : Nat) : Int) from rfl) (by decide)) rfl rfl (by decide) (by kernel_rfl) ?_
    refine Al_pu (Pu_load1 rfl Try.isAgg3 rfl rfl) rfl rfl (by decide) (by kernel_rfl) ?_
    refine Al_pu (Pu_move (.inr rfl) (by conv => lhs; whnf)) rfl rfl (by decide) (by kernel_rfl) ?_
    refine Al_nil ?_
    refine Aw_seq ?_
    refine Aw_seq ?_
    refine Aw_region ?_
    refine Al_pu (Pu_move (.inl rfl) (by conv => lhs; whnf)) rfl rfl (by decide) (by kernel_rfl) ?_
    refine Al_pu (Pu_cmp rfl rfl rfl rfl) rfl rfl (by decide) (by kernel_rfl) ?_
    refine Al_pu (Pu_move (.inl rfl) (by conv => lhs; whnf)) rfl rfl (by decide) (by kernel_rfl) ?_
    refine Al_st (St_gd [] rfl rfl rfl rfl trivial (fun hg38 => by exact Pu_move (.inl rfl) (by conv => lhs; whnf))) rfl (by decide) (by kernel_rfl) (by intro j b oj dj h1 h2 h3; cases h1; cases h2; cases h3; decide) ?_
    refine Al_st (St_gd [] rfl rfl rfl rfl trivial (fun hg39 => by exact Pu_move (.inl rfl) (by conv => lhs; whnf))) rfl (by decide) (by kernel_rfl) (by intro j b oj dj h1 h2 h3; cases h1; cases h2; cases h3; decide) ?_
    refine Al_st (St_gd [38, 39] rfl rfl rfl rfl ⟨⟨_, rfl⟩, ⟨_, rfl⟩, trivial⟩ (fun hg40 => Pu_cmp rfl rfl rfl rfl)) rfl (by decide) (by kernel_rfl) (by intro j b oj dj h1 h2 h3; cases h1; cases h2; cases h3; decide) ?_
    refine Al_pu (Pu_or rfl rfl rfl rfl) rfl rfl (by decide) (by kernel_rfl) ?_
    refine Al_pu (Pu_move (.inl rfl) (by conv => lhs; whnf)) rfl rfl (by decide) (by kernel_rfl) ?_
    refine Al_st (St_gd [] rfl rfl rfl rfl trivial (fun hg43 => by exact Pu_move (.inl rfl) (by conv => lhs; whnf))) rfl (by decide) (by kernel_rfl) (by intro j b oj dj h1 h2 h3; cases h1; cases h2; cases h3; decide) ?_
    refine Al_st (St_gd [] rfl rfl rfl rfl trivial (fun hg44 => by exact Pu_move (.inl rfl) (by conv => lhs; whnf))) rfl (by decide) (by kernel_rfl) (by intro j b oj dj h1 h2 h3; cases h1; cases h2; cases h3; decide) ?_
    refine Al_st (St_gd [44] rfl rfl rfl rfl ⟨⟨_, rfl⟩, trivial⟩ (fun hg45 => by exact Pu_len rfl Try.underlying24 rfl (by first | exact List.length_map .. | exact rfl))) rfl (by decide) (by kernel_rfl) (by intro j b oj dj h1 h2 h3; cases h1; cases h2; cases h3; decide) ?_
    refine Al_st (St_gd [43, 45] rfl rfl rfl rfl ⟨⟨_, rfl⟩, ⟨_, rfl⟩, trivial⟩ (fun hg46 => Pu_cmp rfl rfl rfl rfl)) rfl (by decide) (by kernel_rfl) (by intro j b oj dj h1 h2 h3; cases h1; cases h2; cases h3; decide) ?_
    refine Al_pu (Pu_or rfl rfl rfl rfl) rfl rfl (by decide) (by kernel_rfl) ?_
    refine Al_pu (Pu_move (.inl rfl) (by conv => lhs; whnf)) rfl rfl (by decide) (by kernel_rfl) ?_
    refine Al_st (St_gd [] rfl rfl rfl rfl trivial (fun hg49 => by exact Pu_move (.inl rfl) (by conv => lhs; whnf))) rfl (by decide) (by kernel_rfl) (by intro j b oj dj h1 h2 h3; cases h1; cases h2; cases h3; decide) ?_
    refine Al_st (St_gd [] rfl rfl rfl rfl trivial (fun hg50 => by exact Pu_move (.inl rfl) (by conv => lhs; whnf))) rfl (by decide) (by kernel_rfl) (by intro j b oj dj h1 h2 h3; cases h1; cases h2; cases h3; decide) ?_
    refine Al_st (St_gd [] rfl rfl rfl rfl trivial (fun hg51 => by exact Pu_move (.inl rfl) (by conv => lhs; whnf))) rfl (by decide) (by kernel_rfl) (by intro j b oj dj h1 h2 h3; cases h1; cases h2; cases h3; decide) ?_
    refine Al_st (St_gd [49, 50, 51] rfl rfl rfl rfl ⟨⟨_, rfl⟩, ⟨_, rfl⟩, ⟨_, rfl⟩, trivial⟩ (fun hg52 => Pu_call (hbe) rfl ⟨Sub.rfl, Sub.rfl, Sub.rfl, trivial⟩)) rfl (by decide) (by kernel_rfl) (by intro j b oj dj h1 h2 h3; cases h1; cases h2; cases h3; decide) ?_
    refine Al_st (St_gd [52] rfl rfl rfl rfl ⟨⟨_, rfl⟩, trivial⟩ (fun hg53 => Pu_not rfl rfl)) rfl (by decide) (by kernel_rfl) (by intro j b oj dj h1 h2 h3; cases h1; cases h2; cases h3; decide) ?_
    refine Al_pu (Pu_or rfl rfl rfl rfl) rfl rfl (by decide) (by kernel_rfl) ?_
    refine Al_nil ?_
    refine Aw_cond rfl (fun h54 => ?_) (fun h54 => ?_)
    · (try simp only [decide_eq_true_eq, decide_eq_false_iff_not, Bool.and_eq_true, Bool.or_eq_true, Bool.and_eq_false_iff, Bool.or_eq_false_iff, Bool.not_eq_true', Bool.not_eq_false', beq_iff_eq, Bool.not_eq_eq_eq_not, Bool.not_true, Bool.not_false, List.length_map, Bool.and_true, Bool.and_false, Bool.false_and, Bool.true_and, Bool.or_false, Bool.false_or] at h54)
      exfalso; simp at h54; omega
    · (try simp only [decide_eq_true_eq, decide_eq_false_iff_not, Bool.and_eq_true, Bool.or_eq_true, Bool.and_eq_false_iff, Bool.or_eq_false_iff, Bool.not_eq_true', Bool.not_eq_false', beq_iff_eq, Bool.not_eq_eq_eq_not, Bool.not_true, Bool.not_false, List.length_map, Bool.and_true, Bool.and_false, Bool.false_and, Bool.true_and, Bool.or_false, Bool.false_or] at h54)
      refine Aw_skip ?_
      refine Aw_seq ?_
      refine Aw_region ?_
      refine Al_pu (Pu_move (.inl rfl) (by conv => lhs; whnf)) rfl rfl (by decide) (by kernel_rfl) ?_
      refine Al_pu (Pu_indexArrb (j := ((G.edges e)[k]'hk).2) rfl Try.underlying46 Try.sizeOf3 rfl rfl rfl hj16) rfl rfl (by decide) (by kernel_rfl) ?_
      refine Al_pu (Pu_loadb rfl Try.isAgg3 rfl rfl hat57) rfl rfl (by decide) (by kernel_rfl) ?_
      refine Al_pu (Pu_add rfl rfl rfl (fun h1 h2 => by simp only [A.inI]; omega)) rfl rfl (by decide) (by kernel_rfl) ?_
      refine Al_pu (Pu_indexArrb (j := ((G.edges e)[k]'hk).2) rfl Try.underlying46 Try.sizeOf3 rfl rfl rfl hj16) rfl rfl (by decide) (by kernel_rfl) ?_
      refine Al_store1 rfl rfl rfl (by kernel_rfl) Try.isAgg3 Try.sizeOf3 rfl rfl (by rw [List.length_map, G.many_len]; omega) rfl rfl ?_
      refine Al_nil ?_
      refine Aw_seq ?_
      refine Aw_draw 11 (by kernel_rfl) (by kernel_rfl) ?_
      refine Dr_pu (Pu_move (.inl rfl) (by conv => lhs; whnf)) rfl rfl ?_
      refine Dr_pu (Pu_move (.inl rfl) (by conv => lhs; whnf)) rfl rfl ?_
      refine Dr_pu (Pu_index rfl Try.underlying24 Try.sizeOf33 rfl rfl (rfl) (mapgetD (d := default) hi16)) rfl rfl ?_
      refine Dr_pu (Pu_field 1 rfl Try.underlying33 rfl rfl Try.sizeOf3 rfl) rfl rfl ?_
      refine Dr_pu (Pu_load1 rfl Try.isAgg3 rfl rfl) rfl rfl ?_
      refine Dr_pu (Pu_move (.inl rfl) (by conv => lhs; whnf)) rfl rfl ?_
      refine Dr_pu (Pu_move (.inl rfl) (by conv => lhs; whnf)) rfl rfl ?_
      refine Dr_pu (Pu_index rfl Try.underlying24 Try.sizeOf33 rfl rfl (rfl) (mapgetD (d := default) hem.1)) rfl rfl ?_
      refine Dr_pu (Pu_field 1 rfl Try.underlying33 rfl rfl Try.sizeOf3 rfl) rfl rfl ?_
      refine Dr_pu (Pu_load1 rfl Try.isAgg3 rfl rfl) rfl rfl ?_
      refine Dr_pu (Pu_cmp rfl rfl rfl rfl) rfl rfl ?_
      refine Dr_nil ?_
      refine Al_pu (Pu_move (.inr rfl) (by conv => lhs; whnf)) rfl rfl (by decide) (by kernel_rfl) ?_
      refine Al_nil ?_
      refine Aw_seq ?_
      refine Aw_draw 40 (by kernel_rfl) (by kernel_rfl) ?_
      refine Dr_pu (Pu_move (.inl rfl) (by conv => lhs; whnf)) rfl rfl ?_
      refine Dr_pu (Pu_move (.inl rfl) (by conv => lhs; whnf)) rfl rfl ?_
      refine Dr_pu (Pu_index rfl Try.underlying24 Try.sizeOf33 rfl rfl (rfl) (mapgetD (d := default) hem.1)) rfl rfl ?_
      refine Dr_pu (Pu_field 0 rfl Try.underlying33 rfl rfl Try.sizeOf3 rfl) rfl rfl ?_
      refine Dr_pu (Pu_load1 rfl Try.isAgg3 rfl rfl) rfl rfl ?_
      refine Dr_pu (Pu_cmp rfl rfl rfl rfl) rfl rfl ?_
      refine Dr_pu (Pu_move (.inl rfl) (by conv => lhs; whnf)) rfl rfl ?_
      refine Dr_st (St_gd [] rfl rfl rfl rfl trivial (fun hg78 => by exact Pu_move (.inl rfl) (by conv => lhs; whnf))) rfl ?_
      refine Dr_st (St_gd [] rfl rfl rfl rfl trivial (fun hg79 => by exact Pu_move (.inl rfl) (by conv => lhs; whnf))) rfl ?_
      refine Dr_st (St_gd [78, 79] rfl rfl rfl rfl ⟨⟨_, rfl⟩, ⟨_, rfl⟩, trivial⟩ (fun hg80 => Pu_index rfl Try.underlying24 Try.sizeOf33 rfl rfl (rfl) (mapgetD (d := default) hi16))) rfl ?_
      refine Dr_st (St_gd [80] rfl rfl rfl rfl ⟨⟨_, rfl⟩, trivial⟩ (fun hg81 => Pu_field 0 rfl Try.underlying33 rfl rfl Try.sizeOf3 rfl)) rfl ?_
      refine Dr_st (St_gd [81] rfl rfl rfl rfl ⟨⟨_, rfl⟩, trivial⟩ (fun hg82 => Pu_load1 rfl Try.isAgg3 rfl rfl)) rfl ?_
      refine Dr_st (St_gd [82] rfl rfl rfl rfl ⟨⟨_, rfl⟩, trivial⟩ (fun hg83 => Pu_cmp rfl rfl rfl rfl)) rfl ?_
      refine Dr_pu (Pu_and rfl rfl rfl rfl) rfl rfl ?_
      refine Dr_pu (Pu_move (.inl rfl) (by conv => lhs; whnf)) rfl rfl ?_
      refine Dr_st (St_gd [] rfl rfl rfl rfl trivial (fun hg86 => by exact Pu_move (.inl rfl) (by conv => lhs; whnf))) rfl ?_
      refine Dr_st (St_gd [] rfl rfl rfl rfl trivial (fun hg87 => by exact Pu_move (.inl rfl) (by conv => lhs; whnf))) rfl ?_
      refine Dr_st (St_gd [86, 87] rfl rfl rfl rfl ⟨⟨_, rfl⟩, ⟨_, rfl⟩, trivial⟩ (fun hg88 => Pu_index rfl Try.underlying24 Try.sizeOf33 rfl rfl (rfl) (mapgetD (d := default) hi16))) rfl ?_
      refine Dr_st (St_gd [88] rfl rfl rfl rfl ⟨⟨_, rfl⟩, trivial⟩ (fun hg89 => Pu_field 2 rfl Try.underlying33 rfl rfl Try.sizeOf9 rfl)) rfl ?_
      refine Dr_st (St_gd [89] rfl rfl rfl rfl ⟨⟨_, rfl⟩, trivial⟩ (fun hg90 => Pu_load1 rfl Try.isAgg9 rfl rfl)) rfl ?_
      refine Dr_st (St_gd [] rfl rfl rfl rfl trivial (fun hg91 => by exact Pu_move (.inl rfl) (by conv => lhs; whnf))) rfl ?_
      refine Dr_st (St_gd [] rfl rfl rfl rfl trivial (fun hg92 => by exact Pu_move (.inl rfl) (by conv => lhs; whnf))) rfl ?_
      refine Dr_st (St_gd [91, 92] rfl rfl rfl rfl ⟨⟨_, rfl⟩, ⟨_, rfl⟩, trivial⟩ (fun hg93 => Pu_index rfl Try.underlying24 Try.sizeOf33 rfl rfl (rfl) (mapgetD (d := default) hem.1))) rfl ?_
      refine Dr_st (St_gd [93] rfl rfl rfl rfl ⟨⟨_, rfl⟩, trivial⟩ (fun hg94 => Pu_field 2 rfl Try.underlying33 rfl rfl Try.sizeOf9 rfl)) rfl ?_
      refine Dr_st (St_gd [94] rfl rfl rfl rfl ⟨⟨_, rfl⟩, trivial⟩ (fun hg95 => Pu_load1 rfl Try.isAgg9 rfl rfl)) rfl ?_
      refine Dr_st (St_gd [90, 95] rfl rfl rfl rfl ⟨⟨_, rfl⟩, ⟨_, rfl⟩, trivial⟩ (fun hg96 => Pu_str rfl rfl rfl rfl)) rfl ?_
      refine Dr_pu (Pu_and rfl rfl rfl rfl) rfl rfl ?_
      refine Dr_pu (Pu_move (.inl rfl) (by conv => lhs; whnf)) rfl rfl ?_
      refine Dr_st (St_gd [] rfl rfl rfl rfl trivial (fun hg99 => by exact Pu_move (.inl rfl) (by conv => lhs; whnf))) rfl ?_
      refine Dr_st (St_gd [] rfl rfl rfl rfl trivial (fun hg100 => by exact Pu_move (.inl rfl) (by conv => lhs; whnf))) rfl ?_
      refine Dr_st (St_gd [99, 100] rfl rfl rfl rfl ⟨⟨_, rfl⟩, ⟨_, rfl⟩, trivial⟩ (fun hg101 => Pu_index rfl Try.underlying24 Try.sizeOf33 rfl rfl (rfl) (mapgetD (d := default) hi16))) rfl ?_
      refine Dr_st (St_gd [101] rfl rfl rfl rfl ⟨⟨_, rfl⟩, trivial⟩ (fun hg102 => Pu_field 3 rfl Try.underlying33 rfl rfl Try.sizeOf30 rfl)) rfl ?_
      refine Dr_st (St_gd [102] rfl rfl rfl rfl ⟨⟨_, rfl⟩, trivial⟩ (fun hg103 => Pu_loadN rfl Try.isAgg30 Try.sizeOf30 rfl (Nat.le_of_ble_eq_true rfl))) rfl ?_
      refine Dr_st (St_gd [] rfl rfl rfl rfl trivial (fun hg104 => by exact Pu_move (.inl rfl) (by conv => lhs; whnf))) rfl ?_
      refine Dr_st (St_gd [] rfl rfl rfl rfl trivial (fun hg105 => by exact Pu_move (.inl rfl) (by conv => lhs; whnf))) rfl ?_
      refine Dr_st (St_gd [104, 105] rfl rfl rfl rfl ⟨⟨_, rfl⟩, ⟨_, rfl⟩, trivial⟩ (fun hg106 => Pu_index rfl Try.underlying24 Try.sizeOf33 rfl rfl (rfl) (mapgetD (d := default) hem.1))) rfl ?_
      refine Dr_st (St_gd [106] rfl rfl rfl rfl ⟨⟨_, rfl⟩, trivial⟩ (fun hg107 => Pu_field 3 rfl Try.underlying33 rfl rfl Try.sizeOf30 rfl)) rfl ?_
      refine Dr_st (St_gd [107] rfl rfl rfl rfl ⟨⟨_, rfl⟩, trivial⟩ (fun hg108 => Pu_loadN rfl Try.isAgg30 Try.sizeOf30 rfl (Nat.le_of_ble_eq_true rfl))) rfl ?_
      refine Dr_st (St_gd [103, 108] rfl rfl rfl rfl ⟨⟨_, rfl⟩, ⟨_, rfl⟩, trivial⟩ (fun hg109 => Pu_eqrow [.int .i64 _, .int .i64 _] [.int .i64 _, .int .i64 _] (fun w => eqv30 _ _ _ _ _ _ w) rfl rfl rfl)) rfl ?_
      refine Dr_pu (Pu_and rfl rfl rfl rfl) rfl rfl ?_
      refine Dr_nil ?_
      refine Al_pu (Pu_move (.inr rfl) (by conv => lhs; whnf)) rfl rfl (by decide) (by kernel_rfl) ?_
      refine Al_nil ?_
      refine Aw_seq ?_
      refine Aw_region ?_
      refine Al_pu (Pu_move (.inl rfl) (by conv => lhs; whnf)) rfl rfl (by decide) (by kernel_rfl) ?_
      refine Al_pu (Pu_not rfl rfl) rfl rfl (by decide) (by kernel_rfl) ?_
      refine Al_pu (Pu_move (.inl rfl) (by conv => lhs; whnf)) rfl rfl (by decide) (by kernel_rfl) ?_
      refine Al_st (St_gd [] rfl rfl rfl rfl trivial (fun hg114 => by exact Pu_move (.inl rfl) (by conv => lhs; whnf))) rfl (by decide) (by kernel_rfl) (by intro j b oj dj h1 h2 h3; cases h1; cases h2; cases h3; decide) ?_
      refine Al_st (St_gd [114] rfl rfl rfl rfl ⟨⟨_, rfl⟩, trivial⟩ (fun hg115 => Pu_not rfl rfl)) rfl (by decide) (by kernel_rfl) (by intro j b oj dj h1 h2 h3; cases h1; cases h2; cases h3; decide) ?_
      refine Al_pu (Pu_and rfl rfl rfl rfl) rfl rfl (by decide) (by kernel_rfl) ?_
      refine Al_nil ?_
      refine Aw_cond rfl (fun h116 => ?_) (fun h116 => ?_)
      · skip
        exfalso
        rcases hwhy with h | ⟨h1, h2⟩
        · rw [decide_eq_true h] at h116; simp at h116
        · unfold G.wrB at h2
          simp only [Bool.and_eq_true] at h2
          rw [decide_eq_true h1, h2.1.1, h2.1.2, h2.2.1, h2.2.2] at h116
          simp at h116
      · skip
        refine Aw_skip ?_
        refine Aw_region ?_
        refine Al_pu (Pu_move (.inl rfl) (by conv => lhs; whnf)) rfl rfl (by decide) (by kernel_rfl) ?_
        refine Al_pu (Pu_add rfl rfl rfl (fun h1 h2 => by simp only [A.inI, A.maxI] at *; omega)) rfl rfl (by decide) (by kernel_rfl) ?_
        refine Al_pu (Pu_move (.inr rfl) (by conv => lhs; whnf)) rfl rfl (by decide) (by kernel_rfl) ?_
        refine Al_nil ?_
        exact ⟨k + 1, by omega, by omega, Le.ov ⟨Sub.num (by omega), trivial⟩ ⟨Sub.rfl, Sub.rfl, Sub.rfl, Sub.rfl, trivial⟩ ⟨A.bxeq hset, trivial⟩ trivial⟩ -- loop 0 next.0
  · (try simp only [decide_eq_true_eq, decide_eq_false_iff_not, Bool.and_eq_true, Bool.or_eq_true, Bool.and_eq_false_iff, Bool.or_eq_false_iff, Bool.not_eq_true', Bool.not_eq_false', beq_iff_eq, Bool.not_eq_eq_eq_not, Bool.not_true, Bool.not_false, List.length_map, Bool.and_true, Bool.and_false, Bool.false_and, Bool.true_and, Bool.or_false, Bool.false_or] at h22)
    have hkk : k = (G.edges e).length := by omega
    rw [hkk]
    refine Aw_exit ?_
    refine Aw_seq ?_
    refine Aw_seq ?_
    refine Aw_region ?_
    refine Al_pu (Pu_move (.inr rfl) (by conv => lhs; whnf)) rfl rfl (by decide) (by kernel_rfl) ?_
    refine Al_nil ?_
    refine Aw_block ?_
    refine Aw_loopk (ι := Nat) [3, 4, 6] [] (fun j => [(12, .d (iv j))]) (fun j => [(6, g6, .box 46 ((G.many e (G.edges e).length).map fun i => .d (iv (i : Nat))))]) (fun j => j ≤ e.length) (fun j => e.length - j) (0) (Nat.zero_le _) ⟨Sub.rfl, trivial⟩ ⟨rfl, trivial⟩ ?_
    rintro j hk1
    refine Aw_seq ?_
    refine Aw_seq ?_
    refine Aw_region ?_
    refine Al_pu (Pu_move (.inl rfl) (by conv => lhs; whnf)) rfl rfl (by decide) (by kernel_rfl) ?_
    refine Al_pu (Pu_move (.inl rfl) (by conv => lhs; whnf)) rfl rfl (by decide) (by kernel_rfl) ?_
    refine Al_pu (Pu_len rfl Try.underlying24 rfl (by first | exact List.length_map .. | exact rfl)) rfl rfl (by decide) (by kernel_rfl) ?_
    refine Al_pu (Pu_cmp rfl rfl rfl rfl) rfl rfl (by decide) (by kernel_rfl) ?_
    refine Al_nil ?_
    refine Aw_cond rfl (fun h120 => ?_) (fun h120 => ?_)
    · (try simp only [decide_eq_true_eq, decide_eq_false_iff_not, Bool.and_eq_true, Bool.or_eq_true, Bool.and_eq_false_iff, Bool.or_eq_false_iff, Bool.not_eq_true', Bool.not_eq_false', beq_iff_eq, Bool.not_eq_eq_eq_not, Bool.not_true, Bool.not_false, List.length_map, Bool.and_true, Bool.and_false, Bool.false_and, Bool.true_and, Bool.or_false, Bool.false_or] at h120)
      have hj : j < e.length := by omega
      have hA := gahead_a e (by omega) j
      have hj16 : j < 16 := by omega
      have hma := G.many_all e j hj
      have hdn := G.dirN_len e j
      have hno := G.ahead_none hj
      have hat : ((G.many e (G.edges e).length).map fun i => SV.d (iv (i : Nat)))[0 + j * 1]? = some (.d (iv ((G.dirN e j).length : Nat))) := by
        rw [Nat.zero_add, Nat.mul_one, List.getElem?_map, G.many_at e _ hj16, hma]; rfl
      refine Aw_skip ?_
      refine Aw_seq ?_
      refine Aw_block ?_
      refine Aw_seq ?_
      refine Aw_region ?_
      refine Al_pu (Pu_move (.inl rfl) (by conv => lhs; whnf)) rfl rfl (by decide) (by kernel_rfl) ?_
      refine Al_pu (Pu_move (.inl rfl) (by conv => lhs; whnf)) rfl rfl (by decide) (by kernel_rfl) ?_
      refine Al_pu (Pu_call (hA) rfl ⟨Sub.rfl, Sub.rfl, trivial⟩) rfl rfl (by decide) (by kernel_rfl) ?_
      refine Al_pu (Pu_move (.inr rfl) (by conv => lhs; whnf)) rfl rfl (by decide) (by kernel_rfl) ?_
      refine Al_nil ?_
      refine Aw_seq ?_
      refine Aw_region ?_
      refine Al_pu (Pu_move (.inl rfl) (by conv => lhs; whnf)) rfl rfl (by decide) (by kernel_rfl) ?_
      refine Al_pu (Pu_indexArrb (j := j) rfl Try.underlying46 Try.sizeOf3 rfl rfl rfl hj16) rfl rfl (by decide) (by kernel_rfl) ?_
      refine Al_pu (Pu_loadb rfl Try.isAgg3 rfl rfl hat) rfl rfl (by decide) (by kernel_rfl) ?_
      refine Al_pu (Pu_cmp rfl rfl rfl rfl) rfl rfl (by decide) (by kernel_rfl) ?_
      refine Al_pu (Pu_move (.inl rfl) (by conv => lhs; whnf)) rfl rfl (by decide) (by kernel_rfl) ?_
      refine Al_st (St_gd [] rfl rfl rfl rfl trivial (fun hg131 => by exact Pu_move (.inl rfl) (by conv => lhs; whnf))) rfl (by decide) (by kernel_rfl) (by intro j b oj dj h1 h2 h3; cases h1; cases h2; cases h3; decide) ?_
      refine Al_st (St_gd [131] rfl rfl rfl rfl ⟨⟨_, rfl⟩, trivial⟩ (fun hg132 => by exact Pu_len rfl Try.underlying27 rfl (by first | exact List.length_map .. | exact rfl))) rfl (by decide) (by kernel_rfl) (by intro j b oj dj h1 h2 h3; cases h1; cases h2; cases h3; decide) ?_
      refine Al_st (St_gd [132] rfl rfl rfl rfl ⟨⟨_, rfl⟩, trivial⟩ (fun hg133 => Pu_cmp rfl rfl rfl rfl)) rfl (by decide) (by kernel_rfl) (by intro j b oj dj h1 h2 h3; cases h1; cases h2; cases h3; decide) ?_
      refine Al_st (St_gd [] rfl rfl rfl rfl trivial (fun hg134 => by exact Pu_move (.inl rfl) (by conv => lhs; whnf))) rfl (by decide) (by kernel_rfl) (by intro j b oj dj h1 h2 h3; cases h1; cases h2; cases h3; decide) ?_
      refine Al_st (St_gd [134] rfl rfl rfl rfl ⟨⟨_, rfl⟩, trivial⟩ (fun hg135 => Pu_indexArrb (j := j) rfl Try.underlying46 Try.sizeOf3 rfl rfl rfl hj16)) rfl (by decide) (by kernel_rfl) (by intro j b oj dj h1 h2 h3; cases h1; cases h2; cases h3; decide) ?_
      refine Al_st (St_gd [135] rfl rfl rfl rfl ⟨⟨_, rfl⟩, trivial⟩ (fun hg136 => Pu_loadb rfl Try.isAgg3 rfl rfl hat)) rfl (by decide) (by kernel_rfl) (by intro j b oj dj h1 h2 h3; cases h1; cases h2; cases h3; decide) ?_
      refine Al_st (St_gd [136] rfl rfl rfl rfl ⟨⟨_, rfl⟩, trivial⟩ (fun hg137 => Pu_cmp rfl rfl rfl rfl)) rfl (by decide) (by kernel_rfl) (by intro j b oj dj h1 h2 h3; cases h1; cases h2; cases h3; decide) ?_
      refine Al_st (St_gd [133, 137] rfl rfl rfl rfl ⟨⟨_, rfl⟩, ⟨_, rfl⟩, trivial⟩ (fun hg138 => Pu_bool rfl Try.underlying4 rfl rfl rfl)) rfl (by decide) (by kernel_rfl) (by intro j b oj dj h1 h2 h3; cases h1; cases h2; cases h3; decide) ?_
      refine Al_pu (Pu_or rfl rfl rfl rfl) rfl rfl (by decide) (by kernel_rfl) ?_
      refine Al_nil ?_
      refine Aw_cond rfl (fun h139 => ?_) (fun h139 => ?_)
      · skip
        exfalso
        have e1 : decide ((0 : Int) < ((G.aheadI e j).length : Int)) = decide ((0 : Int) < ((G.dirN e j).length : Int)) := decide_eq_decide.2 (by omega)
        have e0 : decide ((2 : Int) < ((G.dirN e j).length : Int)) = false := decide_eq_false (by omega)
        rw [e0, e1] at h139
        simp at h139
      · skip
        refine Aw_skip ?_
        refine Aw_region ?_
        refine Al_pu (Pu_move (.inl rfl) (by conv => lhs; whnf)) rfl rfl (by decide) (by kernel_rfl) ?_
        refine Al_pu (Pu_add rfl rfl rfl (fun h1 h2 => by simp only [A.inI, A.maxI] at *; omega)) rfl rfl (by decide) (by kernel_rfl) ?_
        refine Al_pu (Pu_move (.inr rfl) (by conv => lhs; whnf)) rfl rfl (by decide) (by kernel_rfl) ?_
        refine Al_nil ?_
        exact ⟨j + 1, by omega, by omega, Le.ov ⟨Sub.num (by omega), trivial⟩ ⟨Sub.rfl, Sub.rfl, Sub.rfl, trivial⟩ ⟨rfl, trivial⟩ trivial⟩ -- loop 1 next.0
    · (try simp only [decide_eq_true_eq, decide_eq_false_iff_not, Bool.and_eq_true, Bool.or_eq_true, Bool.and_eq_false_iff, Bool.or_eq_false_iff, Bool.not_eq_true', Bool.not_eq_false', beq_iff_eq, Bool.not_eq_eq_eq_not, Bool.not_true, Bool.not_false, List.length_map, Bool.and_true, Bool.and_false, Bool.false_and, Bool.true_and, Bool.or_false, Bool.false_or] at h120)
      refine Aw_exit ?_
      refine Aw_seq ?_
      refine Aw_region ?_
      refine Al_pu (Pu_move (.inl rfl) (by conv => lhs; whnf)) rfl rfl (by decide) (by kernel_rfl) ?_
      refine Al_pu (Pu_move (.inr rfl) (by conv => lhs; whnf)) rfl rfl (by decide) (by kernel_rfl) ?_
      refine Al_nil ?_
      refine Aw_ret ?_
      exact Sub.rfl -- ret 0
end Go.Proofs.Ytgoncpjgpkoacaa
