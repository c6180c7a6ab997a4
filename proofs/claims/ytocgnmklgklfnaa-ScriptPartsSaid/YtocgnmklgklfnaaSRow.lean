/- Rows that are written: wire.written, the reference's RowCheck. -/
import Derived.Test.YtocgnmklgklfnaaAK
import Derived.Test.YtocgnmklgklfnaaSFew
import Derived.Test.YtocgnmklgklfnaaKRef
set_option linter.unusedSimpArgs false
set_option linter.unusedVariables false
namespace Go.Proofs.Ytocgnmklgklfnaa
open Go.RowKit A R
open A.RowT
instance : RowI Rng where
  row := Rng.row
  into h _ := by
    obtain ⟨rfl, h2, h3⟩ := h
    exact cellsc (.v _ h2) rfl (cells1 (.v _ h3) rfl)
  back h := by
    obtain ⟨x1, xs1, rfl, h1_1, h2_1, g1⟩ := uncons h
    obtain ⟨rfl, k1⟩ := repv h1_1
    obtain ⟨x2, xs2, rfl, h1_2, h2_2, g2⟩ := uncons g1
    obtain ⟨rfl, k2⟩ := repv h1_2
    obtain rfl := uncons0 g2
    exact ⟨rfl, k1, k2⟩
theorem whole_a (l : List Rng) : ACall Try.prog 51 [.sl 2 (l.map Rng.row)] (bv (whole l)) := A.ofv (fun _ _ => by kernel_rfl) trivial fun M w vs ha => by
  obtain ⟨x, xs, rfl, h1, h2⟩ := allc ha
  obtain rfl := all0 h2
  exact whole_any x l _ w (sl_of (α := Rng) h1)
theorem rwhole_a (l : List Rng) : ACall Try.prog 56 [.sl 2 (l.map Rng.row)] (bv (whole l)) := A.ofv (fun _ _ => by kernel_rfl) trivial fun M w vs ha => by
  obtain ⟨x, xs, rfl, h1, h2⟩ := allc ha
  obtain rfl := all0 h2
  exact rwhole_any x l _ w (sl_of (α := Rng) h1)
namespace S
def shape (c : SRow) : Bool := !(decide (c.parents.length < 1) || decide (6 < c.parents.length) || decide (8 < c.ranges.length) || !decide (c.owners.length = c.ranges.length) || !whole c.ranges)
def badP (p : Int) : Bool := decide (p < -1) || decide (6 ≤ p)
def badO (n : Nat) (x : Int) : Bool := decide (x < 1) || decide (2 ^ n ≤ x)
/-- A row that is written. -/
def written (c : SRow) : Bool := shape c && (!c.parents.any badP && !c.owners.any (badO c.parents.length))
end S
theorem sbadp_a (p : Int) : ACall Try.prog 52 [iv p] (bv (S.badP p)) := by
  refine ACall_enter (fun _ _ => by kernel_rfl) Try.func52 rfl Try.ntmps52 Try.results52 (Nat.le_of_ble_eq_true rfl) (fun hok M0 w0 => ?_)
  refine Aw_seq ?_
  refine Aw_region ?_
  refine Al_pu (Pu_move (.inr rfl) (by conv => lhs; whnf)) rfl rfl (by decide) (by kernel_rfl) ?_
  refine Al_nil ?_
  refine Aw_seq ?_
  refine Aw_region ?_
  refine Al_pu (Pu_move (.inl rfl) (by conv => lhs; whnf)) rfl rfl (by decide) (by kernel_rfl) ?_
  refine Al_pu (Pu_cmp rfl rfl rfl rfl) rfl rfl (by decide) (by kernel_rfl) ?_
  refine Al_pu (Pu_move (.inl rfl) (by conv => lhs; whnf)) rfl rfl (by decide) (by kernel_rfl) ?_
  refine Al_st (St_gd [] rfl rfl rfl rfl trivial (fun hg6 => by exact Pu_move (.inl rfl) (by conv => lhs; whnf))) rfl (by decide) (by kernel_rfl) (by intro j b oj dj h1 h2 h3; cases h1; cases h2; cases h3; decide) ?_
  refine Al_st (St_gd [6] rfl rfl rfl rfl ⟨⟨_, rfl⟩, trivial⟩ (fun hg7 => Pu_cmp rfl rfl rfl rfl)) rfl (by decide) (by kernel_rfl) (by intro j b oj dj h1 h2 h3; cases h1; cases h2; cases h3; decide) ?_
  refine Al_pu (Pu_or rfl rfl rfl rfl) rfl rfl (by decide) (by kernel_rfl) ?_
  refine Al_pu (Pu_move (.inr rfl) (by conv => lhs; whnf)) rfl rfl (by decide) (by kernel_rfl) ?_
  refine Al_nil ?_
  refine Aw_ret ?_
  exact Sub.rfl -- ret 0
theorem shr_pos (x : Int) (n : Nat) (h : ¬ x < 1) : (!decide (x / 2 ^ n = 0)) = decide ((2 : Int) ^ n ≤ x) := by
  have hp : (0 : Int) < 2 ^ n := Int.pow_pos (by omega)
  by_cases h2 : (2 : Int) ^ n ≤ x
  · have : 1 ≤ x / 2 ^ n := (Int.le_ediv_iff_mul_le hp).2 (by omega)
    have h3 : ¬ x / 2 ^ n = 0 := by omega
    simp [h2, h3]
  · have : x / 2 ^ n = 0 := Int.ediv_eq_zero_of_lt (by omega) (by omega)
    simp [h2, this]
theorem div_in {x : Int} (n : Nat) (h : A.inI x) : A.inI (x / 2 ^ (n : Int).toNat) := by
  rw [Int.toNat_natCast]
  have hp : (0 : Int) < 2 ^ n := Int.pow_pos (by omega)
  simp only [A.inI] at *
  have h1 : -9223372036854775808 ≤ x / 2 ^ n := by
    rw [Int.le_ediv_iff_mul_le hp]
    have : (-9223372036854775808 : Int) * 2 ^ n ≤ -9223372036854775808 * 1 := Int.mul_le_mul_of_nonpos_left (by omega) (by omega)
    omega
  have h2 : x / 2 ^ n ≤ 9223372036854775807 := by
    by_cases h0 : 0 ≤ x
    · have := Int.ediv_le_self (2 ^ n) h0
      omega
    · have : x / 2 ^ n < 0 := Int.ediv_neg_of_neg_of_pos (by omega) hp
      omega
  omega
theorem sbado_a (n : Nat) (hn : n ≤ 6) (x : Int) : ACall Try.prog 53 [iv x, .fp [iv n]] (bv (S.badO n x)) := by
  refine ACall_enter (fun _ _ => by kernel_rfl) Try.func53 rfl Try.ntmps53 Try.results53 (Nat.le_of_ble_eq_true rfl) (fun hok M0 w0 => ?_)
  refine Aw_seq ?_
  refine Aw_region ?_
  refine Al_pu (Pu_move (.inr rfl) (by conv => lhs; whnf)) rfl rfl (by decide) (by kernel_rfl) ?_
  refine Al_nil ?_
  refine Aw_seq ?_
  refine Aw_region ?_
  refine Al_pu (Pu_move (.inl rfl) (by conv => lhs; whnf)) rfl rfl (by decide) (by kernel_rfl) ?_
  refine Al_pu (Pu_cmp rfl rfl rfl rfl) rfl rfl (by decide) (by kernel_rfl) ?_
  refine Al_pu (Pu_move (.inl rfl) (by conv => lhs; whnf)) rfl rfl (by decide) (by kernel_rfl) ?_
  refine Al_st (St_gd [] rfl rfl rfl rfl trivial (fun hg7 => by exact Pu_move (.inl rfl) (by conv => lhs; whnf))) rfl (by decide) (by kernel_rfl) (by intro j b oj dj h1 h2 h3; cases h1; cases h2; cases h3; decide) ?_
  refine Al_st (St_gd [] rfl rfl rfl rfl trivial (fun hg8 => Pu_load1 rfl Try.isAgg3 rfl rfl)) rfl (by decide) (by kernel_rfl) (by intro j b oj dj h1 h2 h3; cases h1; cases h2; cases h3; decide) ?_
  refine Al_st (St_gd [7, 8] rfl rfl rfl rfl ⟨⟨_, rfl⟩, ⟨_, rfl⟩, trivial⟩ (fun hg9 => by exact Pu_int_shr rfl rfl rfl (by show (0 : Int) ≤ n ∧ (n : Int) ≤ 64; omega) rfl (fun h => div_in n h))) rfl (by decide) (by kernel_rfl) (by intro j b oj dj h1 h2 h3; cases h1; cases h2; cases h3; decide) ?_
  refine Al_st (St_gd [9] rfl rfl rfl rfl ⟨⟨_, rfl⟩, trivial⟩ (fun hg10 => Pu_cmp rfl rfl rfl rfl)) rfl (by decide) (by kernel_rfl) (by intro j b oj dj h1 h2 h3; cases h1; cases h2; cases h3; decide) ?_
  refine Al_pu (Pu_or rfl rfl rfl rfl) rfl rfl (by decide) (by kernel_rfl) ?_
  refine Al_pu (Pu_move (.inr rfl) (by conv => lhs; whnf)) rfl rfl (by decide) (by kernel_rfl) ?_
  refine Al_nil ?_
  refine Aw_ret ?_
  exact Sub.bool (by
    unfold S.badO
    by_cases h : x < 1
    · simp [h]
    · have := shr_pos x n h
      simp only [Int.toNat_natCast]
      rw [this]) -- ret 0
theorem S.shape_z (c : SRow) : (decide ((c.parents.length : Int) < 1) || decide (6 < (c.parents.length : Int)) || decide (8 < (c.ranges.length : Int)) || !decide ((c.owners.length : Int) = c.ranges.length) || !whole c.ranges) = !S.shape c := by
  have d1 : decide ((c.parents.length : Int) < 1) = decide (c.parents.length < 1) := decide_eq_decide.2 (by omega)
  have d2 : decide (6 < (c.parents.length : Int)) = decide (6 < c.parents.length) := decide_eq_decide.2 (by omega)
  have d3 : decide (8 < (c.ranges.length : Int)) = decide (8 < c.ranges.length) := decide_eq_decide.2 (by omega)
  have d4 : decide ((c.owners.length : Int) = c.ranges.length) = decide (c.owners.length = c.ranges.length) := decide_eq_decide.2 (by omega)
  rw [d1, d2, d3, d4, S.shape, Bool.not_not]
theorem S.shape_facts {c : SRow} (h : S.shape c = true) : 1 ≤ c.parents.length ∧ c.parents.length ≤ 6 ∧ c.ranges.length ≤ 8 ∧ c.owners.length = c.ranges.length ∧ whole c.ranges = true := by
  simp only [S.shape, Bool.not_eq_true', Bool.or_eq_false_iff, decide_eq_false_iff_not, Bool.not_eq_false', decide_eq_true_eq] at h
  obtain ⟨⟨⟨⟨h1, h2⟩, h3⟩, h4⟩, h5⟩ := h
  exact ⟨by omega, by omega, by omega, h4, h5⟩
set_option maxRecDepth 100000 in
theorem swritten_a (c : SRow) : ACall Try.prog 39 [.row c.row] (bv (S.written c)) := by
  refine ACall_enterG (fun _ _ => by kernel_rfl) Try.func39 rfl Try.ntmps39 (Reads.r1 Try.results39) (Nat.le_of_ble_eq_true rfl) (fun hok M0 w0 hnl => ?_)
  have hr := (hok _ (List.mem_cons_self ..)).row
  have l3 := (hr (.sl 1 (c.parents.map fun x => [iv x])) (by simp [SRow.row])).len
  rw [List.length_map] at l3
  refine Aw_seq ?_
  refine Aw_region ?_
  refine Al_pu (Pu_boxN rfl rfl) rfl rfl (by decide) (by kernel_rfl) ?_
  refine Al_pu (Pu_move (.inr rfl) (by conv => lhs; whnf)) rfl rfl (by decide) (by kernel_rfl) ?_
  refine Al_nil ?_
  refine Aw_seq ?_
  refine Aw_region ?_
  refine Al_pu (Pu_field 2 rfl Try.underlying28 rfl rfl Try.sizeOf26 rfl) rfl rfl (by decide) (by kernel_rfl) ?_
  refine Al_pu (Pu_load1 rfl Try.isAgg26 rfl rfl) rfl rfl (by decide) (by kernel_rfl) ?_
  refine Al_pu (Pu_len rfl Try.underlying26 rfl (by first | exact List.length_map .. | exact rfl)) rfl rfl (by decide) (by kernel_rfl) ?_
  refine Al_alloc rfl rfl rfl (by decide) Try.zeroValue3 rfl (by kernel_rfl) (fun g3 => ?_)
  refine Al_store1 rfl rfl rfl (by kernel_rfl) Try.isAgg3 Try.sizeOf3 rfl rfl (Nat.le_of_ble_eq_true rfl) (by conv => lhs; whnf) rfl ?_
  refine Al_nil ?_
  refine Aw_seq ?_
  refine Aw_seq ?_
  refine Aw_region ?_
  refine Al_pu (Pu_loadb rfl Try.isAgg3 rfl rfl rfl) rfl rfl (by decide) (by kernel_rfl) ?_
  refine Al_pu (Pu_cmp rfl rfl rfl rfl) rfl rfl (by decide) (by kernel_rfl) ?_
  refine Al_pu (Pu_move (.inl rfl) (by conv => lhs; whnf)) rfl rfl (by decide) (by kernel_rfl) ?_
  refine Al_st (St_gd [] rfl rfl rfl rfl trivial (fun hg12 => Pu_loadb rfl Try.isAgg3 rfl rfl rfl)) rfl (by decide) (by kernel_rfl) (by intro j b oj dj h1 h2 h3; cases h1; cases h2; cases h3; decide) ?_
  refine Al_st (St_gd [12] rfl rfl rfl rfl ⟨⟨_, rfl⟩, trivial⟩ (fun hg13 => Pu_cmp rfl rfl rfl rfl)) rfl (by decide) (by kernel_rfl) (by intro j b oj dj h1 h2 h3; cases h1; cases h2; cases h3; decide) ?_
  refine Al_pu (Pu_or rfl rfl rfl rfl) rfl rfl (by decide) (by kernel_rfl) ?_
  refine Al_pu (Pu_move (.inl rfl) (by conv => lhs; whnf)) rfl rfl (by decide) (by kernel_rfl) ?_
  refine Al_st (St_gd [] rfl rfl rfl rfl trivial (fun hg16 => Pu_field 0 rfl Try.underlying28 rfl rfl Try.sizeOf25 rfl)) rfl (by decide) (by kernel_rfl) (by intro j b oj dj h1 h2 h3; cases h1; cases h2; cases h3; decide) ?_
  refine Al_st (St_gd [16] rfl rfl rfl rfl ⟨⟨_, rfl⟩, trivial⟩ (fun hg17 => Pu_load1 rfl Try.isAgg25 rfl rfl)) rfl (by decide) (by kernel_rfl) (by intro j b oj dj h1 h2 h3; cases h1; cases h2; cases h3; decide) ?_
  refine Al_st (St_gd [17] rfl rfl rfl rfl ⟨⟨_, rfl⟩, trivial⟩ (fun hg18 => by exact Pu_len rfl Try.underlying25 rfl (by first | exact List.length_map .. | exact rfl))) rfl (by decide) (by kernel_rfl) (by intro j b oj dj h1 h2 h3; cases h1; cases h2; cases h3; decide) ?_
  refine Al_st (St_gd [18] rfl rfl rfl rfl ⟨⟨_, rfl⟩, trivial⟩ (fun hg19 => Pu_cmp rfl rfl rfl rfl)) rfl (by decide) (by kernel_rfl) (by intro j b oj dj h1 h2 h3; cases h1; cases h2; cases h3; decide) ?_
  refine Al_pu (Pu_or rfl rfl rfl rfl) rfl rfl (by decide) (by kernel_rfl) ?_
  refine Al_pu (Pu_move (.inl rfl) (by conv => lhs; whnf)) rfl rfl (by decide) (by kernel_rfl) ?_
  refine Al_st (St_gd [] rfl rfl rfl rfl trivial (fun hg22 => Pu_field 1 rfl Try.underlying28 rfl rfl Try.sizeOf26 rfl)) rfl (by decide) (by kernel_rfl) (by intro j b oj dj h1 h2 h3; cases h1; cases h2; cases h3; decide) ?_
  refine Al_st (St_gd [22] rfl rfl rfl rfl ⟨⟨_, rfl⟩, trivial⟩ (fun hg23 => Pu_load1 rfl Try.isAgg26 rfl rfl)) rfl (by decide) (by kernel_rfl) (by intro j b oj dj h1 h2 h3; cases h1; cases h2; cases h3; decide) ?_
  refine Al_st (St_gd [23] rfl rfl rfl rfl ⟨⟨_, rfl⟩, trivial⟩ (fun hg24 => by exact Pu_len rfl Try.underlying26 rfl (by first | exact List.length_map .. | exact rfl))) rfl (by decide) (by kernel_rfl) (by intro j b oj dj h1 h2 h3; cases h1; cases h2; cases h3; decide) ?_
  refine Al_st (St_gd [] rfl rfl rfl rfl trivial (fun hg25 => Pu_field 0 rfl Try.underlying28 rfl rfl Try.sizeOf25 rfl)) rfl (by decide) (by kernel_rfl) (by intro j b oj dj h1 h2 h3; cases h1; cases h2; cases h3; decide) ?_
  refine Al_st (St_gd [25] rfl rfl rfl rfl ⟨⟨_, rfl⟩, trivial⟩ (fun hg26 => Pu_load1 rfl Try.isAgg25 rfl rfl)) rfl (by decide) (by kernel_rfl) (by intro j b oj dj h1 h2 h3; cases h1; cases h2; cases h3; decide) ?_
  refine Al_st (St_gd [26] rfl rfl rfl rfl ⟨⟨_, rfl⟩, trivial⟩ (fun hg27 => by exact Pu_len rfl Try.underlying25 rfl (by first | exact List.length_map .. | exact rfl))) rfl (by decide) (by kernel_rfl) (by intro j b oj dj h1 h2 h3; cases h1; cases h2; cases h3; decide) ?_
  refine Al_st (St_gd [24, 27] rfl rfl rfl rfl ⟨⟨_, rfl⟩, ⟨_, rfl⟩, trivial⟩ (fun hg28 => Pu_cmp rfl rfl rfl rfl)) rfl (by decide) (by kernel_rfl) (by intro j b oj dj h1 h2 h3; cases h1; cases h2; cases h3; decide) ?_
  refine Al_pu (Pu_or rfl rfl rfl rfl) rfl rfl (by decide) (by kernel_rfl) ?_
  refine Al_pu (Pu_move (.inl rfl) (by conv => lhs; whnf)) rfl rfl (by decide) (by kernel_rfl) ?_
  refine Al_st (St_gd [] rfl rfl rfl rfl trivial (fun hg31 => Pu_field 0 rfl Try.underlying28 rfl rfl Try.sizeOf25 rfl)) rfl (by decide) (by kernel_rfl) (by intro j b oj dj h1 h2 h3; cases h1; cases h2; cases h3; decide) ?_
  refine Al_st (St_gd [31] rfl rfl rfl rfl ⟨⟨_, rfl⟩, trivial⟩ (fun hg32 => Pu_load1 rfl Try.isAgg25 rfl rfl)) rfl (by decide) (by kernel_rfl) (by intro j b oj dj h1 h2 h3; cases h1; cases h2; cases h3; decide) ?_
  refine Al_st (St_gd [32] rfl rfl rfl rfl ⟨⟨_, rfl⟩, trivial⟩ (fun hg33 => Pu_call (whole_a c.ranges) rfl ⟨Sub.rfl, trivial⟩)) rfl (by decide) (by kernel_rfl) (by intro j b oj dj h1 h2 h3; cases h1; cases h2; cases h3; decide) ?_
  refine Al_st (St_gd [33] rfl rfl rfl rfl ⟨⟨_, rfl⟩, trivial⟩ (fun hg34 => Pu_not rfl rfl)) rfl (by decide) (by kernel_rfl) (by intro j b oj dj h1 h2 h3; cases h1; cases h2; cases h3; decide) ?_
  refine Al_pu (Pu_or rfl rfl rfl rfl) rfl rfl (by decide) (by kernel_rfl) ?_
  refine Al_nil ?_
  refine Aw_cond rfl (fun h35 => ?_) (fun h35 => ?_)
  · skip
    have hs : S.shape c = false := by
      have h := S.shape_z c
      rw [h35] at h
      simpa using h.symm
    refine Aw_seq ?_
    refine Aw_region ?_
    refine Al_pu (Pu_move (.inr rfl) (by conv => lhs; whnf)) rfl rfl (by decide) (by kernel_rfl) ?_
    refine Al_nil ?_
    refine Aw_ret ?_
    exact Sub.bool (by unfold S.written; rw [hs]; rfl) -- ret 0
  · skip
    have hs : S.shape c = true := by
      have h := S.shape_z c
      rw [h35] at h
      simpa using h.symm
    have hn6 := (S.shape_facts hs).2.1
    refine Aw_skip ?_
    refine Aw_seq ?_
    refine Aw_region ?_
    refine Al_pu (Pu_move (.inr rfl) (by conv => lhs; whnf)) rfl rfl (by decide) (by kernel_rfl) ?_
    refine Al_nil ?_
    refine Aw_seq ?_
    refine Aw_frzb (k := 3) (cs := [iv c.parents.length]) hnl [3] rfl ⟨rfl, trivial⟩ ?_
    refine Aw_region ?_
    refine Al_pu (Pu_makeFunc (caps := [_]) rfl ⟨Sub.rfl, trivial⟩) rfl rfl (by decide) (by kernel_rfl) ?_
    refine Al_pu (Pu_move (.inr rfl) (by conv => lhs; whnf)) rfl rfl (by decide) (by kernel_rfl) ?_
    refine Al_nil ?_
    refine Aw_seq ?_
    refine Aw_region ?_
    refine Al_pu (Pu_field 2 rfl Try.underlying28 rfl rfl Try.sizeOf26 rfl) rfl rfl (by decide) (by kernel_rfl) ?_
    refine Al_pu (Pu_load1 rfl Try.isAgg26 rfl rfl) rfl rfl (by decide) (by kernel_rfl) ?_
    refine Al_pu (Pu_move (.inl rfl) (by conv => lhs; whnf)) rfl rfl (by decide) (by kernel_rfl) ?_
    refine Al_pu (Pu_call (containsI_a c.parents _ [] S.badP sbadp_a) rfl ⟨Sub.rfl, Sub.rfl, trivial⟩) rfl rfl (by decide) (by kernel_rfl) ?_
    refine Al_pu (Pu_not rfl rfl) rfl rfl (by decide) (by kernel_rfl) ?_
    refine Al_pu (Pu_move (.inl rfl) (by conv => lhs; whnf)) rfl rfl (by decide) (by kernel_rfl) ?_
    refine Al_st (St_gd [] rfl rfl rfl rfl trivial (fun hg43 => Pu_field 1 rfl Try.underlying28 rfl rfl Try.sizeOf26 rfl)) rfl (by decide) (by kernel_rfl) (by intro j b oj dj h1 h2 h3; cases h1; cases h2; cases h3; decide) ?_
    refine Al_st (St_gd [43] rfl rfl rfl rfl ⟨⟨_, rfl⟩, trivial⟩ (fun hg44 => Pu_load1 rfl Try.isAgg26 rfl rfl)) rfl (by decide) (by kernel_rfl) (by intro j b oj dj h1 h2 h3; cases h1; cases h2; cases h3; decide) ?_
    refine Al_st (St_gd [] rfl rfl rfl rfl trivial (fun hg45 => by exact Pu_move (.inl rfl) (by conv => lhs; whnf))) rfl (by decide) (by kernel_rfl) (by intro j b oj dj h1 h2 h3; cases h1; cases h2; cases h3; decide) ?_
    refine Al_st (St_gd [44, 45] rfl rfl rfl rfl ⟨⟨_, rfl⟩, ⟨_, rfl⟩, trivial⟩ (fun hg46 => Pu_call (containsI_a c.owners _ [.fp [iv c.parents.length]] (S.badO c.parents.length) (sbado_a _ hn6)) rfl ⟨Sub.rfl, Sub.rfl, trivial⟩)) rfl (by decide) (by kernel_rfl) (by intro j b oj dj h1 h2 h3; cases h1; cases h2; cases h3; decide) ?_
    refine Al_st (St_gd [46] rfl rfl rfl rfl ⟨⟨_, rfl⟩, trivial⟩ (fun hg47 => Pu_not rfl rfl)) rfl (by decide) (by kernel_rfl) (by intro j b oj dj h1 h2 h3; cases h1; cases h2; cases h3; decide) ?_
    refine Al_pu (Pu_and rfl rfl rfl rfl) rfl rfl (by decide) (by kernel_rfl) ?_
    refine Al_pu (Pu_move (.inr rfl) (by conv => lhs; whnf)) rfl rfl (by decide) (by kernel_rfl) ?_
    refine Al_nil ?_
    refine Aw_ret ?_
    exact Sub.bool (by unfold S.written; rw [hs]; simp) -- ret 1
end Go.Proofs.Ytocgnmklgklfnaa
