/- Rows that are written: wire.written, the reference's RowCheck. -/
/- The reference's RowCheck, row. -/
/- A row's bytes: the reference's. -/
/- wire.RowBytes: the same bytes. -/
import Derived.Test.YtocgnmklgklfnaaAK
import Derived.Test.YtocgnmklgklfnaaSFew
import Derived.Test.YtocgnmklgklfnaaKRef
import Derived.Test.YtocgnmklgklfnaaAW
set_option linter.unusedSimpArgs false
set_option linter.unusedVariables false
namespace Go.Proofs.Ytocgnmklgklfnaa
open Go.RowKit A R
open A.RowT
instance : RowI Rng where
  row := Rng.row
  into h _ := by
    obtain ⟨rfl, h2, h3⟩ := h
    exact cellsc (.v _ h2) rfl (cells1 (.v _ h3) rfl)
  back h := by
    obtain ⟨x1, xs1, rfl, h1_1, h2_1, g1⟩ := uncons h
    obtain ⟨rfl, k1⟩ := repv h1_1
    obtain ⟨x2, xs2, rfl, h1_2, h2_2, g2⟩ := uncons g1
    obtain ⟨rfl, k2⟩ := repv h1_2
    obtain rfl := uncons0 g2
    exact ⟨rfl, k1, k2⟩
theorem whole_a (l : List Rng) : ACall Try.prog 51 [.sl 2 (l.map Rng.row)] (bv (whole l)) := A.ofv (fun _ _ => by kernel_rfl) trivial fun M w vs ha => by
  obtain ⟨x, xs, rfl, h1, h2⟩ := allc ha
  obtain rfl := all0 h2
  exact whole_any x l _ w (sl_of (α := Rng) h1)
theorem rwhole_a (l : List Rng) : ACall Try.prog 56 [.sl 2 (l.map Rng.row)] (bv (whole l)) := A.ofv (fun _ _ => by kernel_rfl) trivial fun M w vs ha => by
  obtain ⟨x, xs, rfl, h1, h2⟩ := allc ha
  obtain rfl := all0 h2
  exact rwhole_any x l _ w (sl_of (α := Rng) h1)
namespace S
def shape (c : SRow) : Bool := !(decide (c.parents.length < 1) || decide (6 < c.parents.length) || decide (8 < c.ranges.length) || !decide (c.owners.length = c.ranges.length) || !whole c.ranges)
def badP (p : Int) : Bool := decide (p < -1) || decide (6 ≤ p)
def badO (n : Nat) (x : Int) : Bool := decide (x < 1) || decide (2 ^ n ≤ x)
/-- A row that is written. -/
def written (c : SRow) : Bool := shape c && (!c.parents.any badP && !c.owners.any (badO c.parents.length))
end S
theorem sbadp_a (p : Int) : ACall Try.prog 52 [iv p] (bv (S.badP p)) := by
  refine ACall_enter (fun _ _ => by kernel_rfl) Try.func52 rfl Try.ntmps52 Try.results52 (Nat.le_of_ble_eq_true rfl) (fun hok M0 w0 hnl => ?_)
  refine Aw_seq ?_
  refine Aw_region ?_
  refine Al_pu (Pu_move (.inr rfl) (by conv => lhs; whnf)) rfl rfl (by decide) (by kernel_rfl) ?_
  refine Al_nil ?_
  refine Aw_seq ?_
  refine Aw_region ?_
  refine Al_pu (Pu_move (.inl rfl) (by conv => lhs; whnf)) rfl rfl (by decide) (by kernel_rfl) ?_
  refine Al_pu (Pu_cmp rfl rfl rfl rfl) rfl rfl (by decide) (by kernel_rfl) ?_
  refine Al_pu (Pu_move (.inl rfl) (by conv => lhs; whnf)) rfl rfl (by decide) (by kernel_rfl) ?_
  refine Al_st (St_gd [] rfl rfl rfl rfl trivial (fun hg6 => by exact Pu_move (.inl rfl) (by conv => lhs; whnf))) rfl (by decide) (by kernel_rfl) (by intro j b oj dj h1 h2 h3; cases h1; cases h2; cases h3; decide) ?_
  refine Al_st (St_gd [6] rfl rfl rfl rfl ⟨⟨_, rfl⟩, trivial⟩ (fun hg7 => Pu_cmp rfl rfl rfl rfl)) rfl (by decide) (by kernel_rfl) (by intro j b oj dj h1 h2 h3; cases h1; cases h2; cases h3; decide) ?_
  refine Al_pu (Pu_or rfl rfl rfl rfl) rfl rfl (by decide) (by kernel_rfl) ?_
  refine Al_pu (Pu_move (.inr rfl) (by conv => lhs; whnf)) rfl rfl (by decide) (by kernel_rfl) ?_
  refine Al_nil ?_
  refine Aw_ret ?_
  exact Sub.rfl -- ret 0
theorem shr_pos (x : Int) (n : Nat) (h : ¬ x < 1) : (!decide (x / 2 ^ n = 0)) = decide ((2 : Int) ^ n ≤ x) := by
  have hp : (0 : Int) < 2 ^ n := Int.pow_pos (by omega)
  by_cases h2 : (2 : Int) ^ n ≤ x
  · have : 1 ≤ x / 2 ^ n := (Int.le_ediv_iff_mul_le hp).2 (by omega)
    have h3 : ¬ x / 2 ^ n = 0 := by omega
    simp [h2, h3]
  · have : x / 2 ^ n = 0 := Int.ediv_eq_zero_of_lt (by omega) (by omega)
    simp [h2, this]
theorem div_in {x : Int} (n : Nat) (h : A.inI x) : A.inI (x / 2 ^ (n : Int).toNat) := by
  rw [Int.toNat_natCast]
  have hp : (0 : Int) < 2 ^ n := Int.pow_pos (by omega)
  simp only [A.inI] at *
  have h1 : -9223372036854775808 ≤ x / 2 ^ n := by
    rw [Int.le_ediv_iff_mul_le hp]
    have : (-9223372036854775808 : Int) * 2 ^ n ≤ -9223372036854775808 * 1 := Int.mul_le_mul_of_nonpos_left (by omega) (by omega)
    omega
  have h2 : x / 2 ^ n ≤ 9223372036854775807 := by
    by_cases h0 : 0 ≤ x
    · have := Int.ediv_le_self (2 ^ n) h0
      omega
    · have : x / 2 ^ n < 0 := Int.ediv_neg_of_neg_of_pos (by omega) hp
      omega
  omega
theorem sbado_a (n : Nat) (hn : n ≤ 6) (x : Int) : ACall Try.prog 53 [iv x, .fp [iv n]] (bv (S.badO n x)) := by
  refine ACall_enter (fun _ _ => by kernel_rfl) Try.func53 rfl Try.ntmps53 Try.results53 (Nat.le_of_ble_eq_true rfl) (fun hok M0 w0 hnl => ?_)
  refine Aw_seq ?_
  refine Aw_region ?_
  refine Al_pu (Pu_move (.inr rfl) (by conv => lhs; whnf)) rfl rfl (by decide) (by kernel_rfl) ?_
  refine Al_nil ?_
  refine Aw_seq ?_
  refine Aw_region ?_
  refine Al_pu (Pu_move (.inl rfl) (by conv => lhs; whnf)) rfl rfl (by decide) (by kernel_rfl) ?_
  refine Al_pu (Pu_cmp rfl rfl rfl rfl) rfl rfl (by decide) (by kernel_rfl) ?_
  refine Al_pu (Pu_move (.inl rfl) (by conv => lhs; whnf)) rfl rfl (by decide) (by kernel_rfl) ?_
  refine Al_st (St_gd [] rfl rfl rfl rfl trivial (fun hg7 => by exact Pu_move (.inl rfl) (by conv => lhs; whnf))) rfl (by decide) (by kernel_rfl) (by intro j b oj dj h1 h2 h3; cases h1; cases h2; cases h3; decide) ?_
  refine Al_st (St_gd [] rfl rfl rfl rfl trivial (fun hg8 => Pu_load1 rfl Try.isAgg3 rfl rfl)) rfl (by decide) (by kernel_rfl) (by intro j b oj dj h1 h2 h3; cases h1; cases h2; cases h3; decide) ?_
  refine Al_st (St_gd [7, 8] rfl rfl rfl rfl ⟨⟨_, rfl⟩, ⟨_, rfl⟩, trivial⟩ (fun hg9 => by exact Pu_int_shr rfl rfl rfl (by show (0 : Int) ≤ n ∧ (n : Int) ≤ 64; omega) rfl (fun h => div_in n h))) rfl (by decide) (by kernel_rfl) (by intro j b oj dj h1 h2 h3; cases h1; cases h2; cases h3; decide) ?_
  refine Al_st (St_gd [9] rfl rfl rfl rfl ⟨⟨_, rfl⟩, trivial⟩ (fun hg10 => Pu_cmp rfl rfl rfl rfl)) rfl (by decide) (by kernel_rfl) (by intro j b oj dj h1 h2 h3; cases h1; cases h2; cases h3; decide) ?_
  refine Al_pu (Pu_or rfl rfl rfl rfl) rfl rfl (by decide) (by kernel_rfl) ?_
  refine Al_pu (Pu_move (.inr rfl) (by conv => lhs; whnf)) rfl rfl (by decide) (by kernel_rfl) ?_
  refine Al_nil ?_
  refine Aw_ret ?_
  exact Sub.bool (by
    unfold S.badO
    by_cases h : x < 1
    · simp [h]
    · have := shr_pos x n h
      simp only [Int.toNat_natCast]
      rw [this]) -- ret 0
theorem S.shape_z (c : SRow) : (decide ((c.parents.length : Int) < 1) || decide (6 < (c.parents.length : Int)) || decide (8 < (c.ranges.length : Int)) || !decide ((c.owners.length : Int) = c.ranges.length) || !whole c.ranges) = !S.shape c := by
  have d1 : decide ((c.parents.length : Int) < 1) = decide (c.parents.length < 1) := decide_eq_decide.2 (by omega)
  have d2 : decide (6 < (c.parents.length : Int)) = decide (6 < c.parents.length) := decide_eq_decide.2 (by omega)
  have d3 : decide (8 < (c.ranges.length : Int)) = decide (8 < c.ranges.length) := decide_eq_decide.2 (by omega)
  have d4 : decide ((c.owners.length : Int) = c.ranges.length) = decide (c.owners.length = c.ranges.length) := decide_eq_decide.2 (by omega)
  rw [d1, d2, d3, d4, S.shape, Bool.not_not]
theorem S.shape_facts {c : SRow} (h : S.shape c = true) : 1 ≤ c.parents.length ∧ c.parents.length ≤ 6 ∧ c.ranges.length ≤ 8 ∧ c.owners.length = c.ranges.length ∧ whole c.ranges = true := by
  simp only [S.shape, Bool.not_eq_true', Bool.or_eq_false_iff, decide_eq_false_iff_not, Bool.not_eq_false', decide_eq_true_eq] at h
  obtain ⟨⟨⟨⟨h1, h2⟩, h3⟩, h4⟩, h5⟩ := h
  exact ⟨by omega, by omega, by omega, h4, h5⟩
set_option maxRecDepth 100000 in
theorem swritten_a (c : SRow) : ACall Try.prog 39 [.row c.row] (bv (S.written c)) := by
  refine ACall_enterG (fun _ _ => by kernel_rfl) Try.func39 rfl Try.ntmps39 (Reads.r1 Try.results39) (Nat.le_of_ble_eq_true rfl) (fun hok M0 w0 hnl => ?_)
  have hr := (hok _ (List.mem_cons_self ..)).row
  have l3 := (hr (.sl 1 (c.parents.map fun x => [iv x])) (by simp [SRow.row])).len
  rw [List.length_map] at l3
  refine Aw_seq ?_
  refine Aw_region ?_
  refine Al_pu (Pu_boxN rfl rfl) rfl rfl (by decide) (by kernel_rfl) ?_
  refine Al_pu (Pu_move (.inr rfl) (by conv => lhs; whnf)) rfl rfl (by decide) (by kernel_rfl) ?_
  refine Al_nil ?_
  refine Aw_seq ?_
  refine Aw_region ?_
  refine Al_pu (Pu_field 2 rfl Try.underlying28 rfl rfl Try.sizeOf26 rfl) rfl rfl (by decide) (by kernel_rfl) ?_
  refine Al_pu (Pu_load1 rfl Try.isAgg26 rfl rfl) rfl rfl (by decide) (by kernel_rfl) ?_
  refine Al_pu (Pu_len rfl Try.underlying26 rfl (by first | exact List.length_map .. | exact rfl)) rfl rfl (by decide) (by kernel_rfl) ?_
  refine Al_alloc rfl rfl rfl (by decide) Try.zeroValue3 rfl (by kernel_rfl) (fun g3 => ?_)
  refine Al_store1 rfl rfl rfl (by kernel_rfl) Try.isAgg3 Try.sizeOf3 rfl rfl (Nat.le_of_ble_eq_true rfl) (by conv => lhs; whnf) rfl ?_
  refine Al_nil ?_
  refine Aw_seq ?_
  refine Aw_seq ?_
  refine Aw_region ?_
  refine Al_pu (Pu_loadb rfl Try.isAgg3 rfl rfl rfl) rfl rfl (by decide) (by kernel_rfl) ?_
  refine Al_pu (Pu_cmp rfl rfl rfl rfl) rfl rfl (by decide) (by kernel_rfl) ?_
  refine Al_pu (Pu_move (.inl rfl) (by conv => lhs; whnf)) rfl rfl (by decide) (by kernel_rfl) ?_
  refine Al_st (St_gd [] rfl rfl rfl rfl trivial (fun hg12 => Pu_loadb rfl Try.isAgg3 rfl rfl rfl)) rfl (by decide) (by kernel_rfl) (by intro j b oj dj h1 h2 h3; cases h1; cases h2; cases h3; decide) ?_
  refine Al_st (St_gd [12] rfl rfl rfl rfl ⟨⟨_, rfl⟩, trivial⟩ (fun hg13 => Pu_cmp rfl rfl rfl rfl)) rfl (by decide) (by kernel_rfl) (by intro j b oj dj h1 h2 h3; cases h1; cases h2; cases h3; decide) ?_
  refine Al_pu (Pu_or rfl rfl rfl rfl) rfl rfl (by decide) (by kernel_rfl) ?_
  refine Al_pu (Pu_move (.inl rfl) (by conv => lhs; whnf)) rfl rfl (by decide) (by kernel_rfl) ?_
  refine Al_st (St_gd [] rfl rfl rfl rfl trivial (fun hg16 => Pu_field 0 rfl Try.underlying28 rfl rfl Try.sizeOf25 rfl)) rfl (by decide) (by kernel_rfl) (by intro j b oj dj h1 h2 h3; cases h1; cases h2; cases h3; decide) ?_
  refine Al_st (St_gd [16] rfl rfl rfl rfl ⟨⟨_, rfl⟩, trivial⟩ (fun hg17 => Pu_load1 rfl Try.isAgg25 rfl rfl)) rfl (by decide) (by kernel_rfl) (by intro j b oj dj h1 h2 h3; cases h1; cases h2; cases h3; decide) ?_
  refine Al_st (St_gd [17] rfl rfl rfl rfl ⟨⟨_, rfl⟩, trivial⟩ (fun hg18 => by exact Pu_len rfl Try.underlying25 rfl (by first | exact List.length_map .. | exact rfl))) rfl (by decide) (by kernel_rfl) (by intro j b oj dj h1 h2 h3; cases h1; cases h2; cases h3; decide) ?_
  refine Al_st (St_gd [18] rfl rfl rfl rfl ⟨⟨_, rfl⟩, trivial⟩ (fun hg19 => Pu_cmp rfl rfl rfl rfl)) rfl (by decide) (by kernel_rfl) (by intro j b oj dj h1 h2 h3; cases h1; cases h2; cases h3; decide) ?_
  refine Al_pu (Pu_or rfl rfl rfl rfl) rfl rfl (by decide) (by kernel_rfl) ?_
  refine Al_pu (Pu_move (.inl rfl) (by conv => lhs; whnf)) rfl rfl (by decide) (by kernel_rfl) ?_
  refine Al_st (St_gd [] rfl rfl rfl rfl trivial (fun hg22 => Pu_field 1 rfl Try.underlying28 rfl rfl Try.sizeOf26 rfl)) rfl (by decide) (by kernel_rfl) (by intro j b oj dj h1 h2 h3; cases h1; cases h2; cases h3; decide) ?_
  refine Al_st (St_gd [22] rfl rfl rfl rfl ⟨⟨_, rfl⟩, trivial⟩ (fun hg23 => Pu_load1 rfl Try.isAgg26 rfl rfl)) rfl (by decide) (by kernel_rfl) (by intro j b oj dj h1 h2 h3; cases h1; cases h2; cases h3; decide) ?_
  refine Al_st (St_gd [23] rfl rfl rfl rfl ⟨⟨_, rfl⟩, trivial⟩ (fun hg24 => by exact Pu_len rfl Try.underlying26 rfl (by first | exact List.length_map .. | exact rfl))) rfl (by decide) (by kernel_rfl) (by intro j b oj dj h1 h2 h3; cases h1; cases h2; cases h3; decide) ?_
  refine Al_st (St_gd [] rfl rfl rfl rfl trivial (fun hg25 => Pu_field 0 rfl Try.underlying28 rfl rfl Try.sizeOf25 rfl)) rfl (by decide) (by kernel_rfl) (by intro j b oj dj h1 h2 h3; cases h1; cases h2; cases h3; decide) ?_
  refine Al_st (St_gd [25] rfl rfl rfl rfl ⟨⟨_, rfl⟩, trivial⟩ (fun hg26 => Pu_load1 rfl Try.isAgg25 rfl rfl)) rfl (by decide) (by kernel_rfl) (by intro j b oj dj h1 h2 h3; cases h1; cases h2; cases h3; decide) ?_
  refine Al_st (St_gd [26] rfl rfl rfl rfl ⟨⟨_, rfl⟩, trivial⟩ (fun hg27 => by exact Pu_len rfl Try.underlying25 rfl (by first | exact List.length_map .. | exact rfl))) rfl (by decide) (by kernel_rfl) (by intro j b oj dj h1 h2 h3; cases h1; cases h2; cases h3; decide) ?_
  refine Al_st (St_gd [24, 27] rfl rfl rfl rfl ⟨⟨_, rfl⟩, ⟨_, rfl⟩, trivial⟩ (fun hg28 => Pu_cmp rfl rfl rfl rfl)) rfl (by decide) (by kernel_rfl) (by intro j b oj dj h1 h2 h3; cases h1; cases h2; cases h3; decide) ?_
  refine Al_pu (Pu_or rfl rfl rfl rfl) rfl rfl (by decide) (by kernel_rfl) ?_
  refine Al_pu (Pu_move (.inl rfl) (by conv => lhs; whnf)) rfl rfl (by decide) (by kernel_rfl) ?_
  refine Al_st (St_gd [] rfl rfl rfl rfl trivial (fun hg31 => Pu_field 0 rfl Try.underlying28 rfl rfl Try.sizeOf25 rfl)) rfl (by decide) (by kernel_rfl) (by intro j b oj dj h1 h2 h3; cases h1; cases h2; cases h3; decide) ?_
  refine Al_st (St_gd [31] rfl rfl rfl rfl ⟨⟨_, rfl⟩, trivial⟩ (fun hg32 => Pu_load1 rfl Try.isAgg25 rfl rfl)) rfl (by decide) (by kernel_rfl) (by intro j b oj dj h1 h2 h3; cases h1; cases h2; cases h3; decide) ?_
  refine Al_st (St_gd [32] rfl rfl rfl rfl ⟨⟨_, rfl⟩, trivial⟩ (fun hg33 => Pu_call (whole_a c.ranges) rfl ⟨Sub.rfl, trivial⟩)) rfl (by decide) (by kernel_rfl) (by intro j b oj dj h1 h2 h3; cases h1; cases h2; cases h3; decide) ?_
  refine Al_st (St_gd [33] rfl rfl rfl rfl ⟨⟨_, rfl⟩, trivial⟩ (fun hg34 => Pu_not rfl rfl)) rfl (by decide) (by kernel_rfl) (by intro j b oj dj h1 h2 h3; cases h1; cases h2; cases h3; decide) ?_
  refine Al_pu (Pu_or rfl rfl rfl rfl) rfl rfl (by decide) (by kernel_rfl) ?_
  refine Al_nil ?_
  refine Aw_cond rfl (fun h35 => ?_) (fun h35 => ?_)
  · skip
    have hs : S.shape c = false := by
      have h := S.shape_z c
      rw [h35] at h
      simpa using h.symm
    refine Aw_seq ?_
    refine Aw_region ?_
    refine Al_pu (Pu_move (.inr rfl) (by conv => lhs; whnf)) rfl rfl (by decide) (by kernel_rfl) ?_
    refine Al_nil ?_
    refine Aw_ret ?_
    exact Sub.bool (by unfold S.written; rw [hs]; rfl) -- ret 0
  · skip
    have hs : S.shape c = true := by
      have h := S.shape_z c
      rw [h35] at h
      simpa using h.symm
    have hn6 := (S.shape_facts hs).2.1
    refine Aw_skip ?_
    refine Aw_seq ?_
    refine Aw_region ?_
    refine Al_pu (Pu_move (.inr rfl) (by conv => lhs; whnf)) rfl rfl (by decide) (by kernel_rfl) ?_
    refine Al_nil ?_
    refine Aw_seq ?_
    refine Aw_frzb (k := 3) (cs := [iv c.parents.length]) hnl [3] rfl ⟨rfl, trivial⟩ ?_
    refine Aw_region ?_
    refine Al_pu (Pu_makeFunc (caps := [_]) rfl ⟨Sub.rfl, trivial⟩) rfl rfl (by decide) (by kernel_rfl) ?_
    refine Al_pu (Pu_move (.inr rfl) (by conv => lhs; whnf)) rfl rfl (by decide) (by kernel_rfl) ?_
    refine Al_nil ?_
    refine Aw_seq ?_
    refine Aw_region ?_
    refine Al_pu (Pu_field 2 rfl Try.underlying28 rfl rfl Try.sizeOf26 rfl) rfl rfl (by decide) (by kernel_rfl) ?_
    refine Al_pu (Pu_load1 rfl Try.isAgg26 rfl rfl) rfl rfl (by decide) (by kernel_rfl) ?_
    refine Al_pu (Pu_move (.inl rfl) (by conv => lhs; whnf)) rfl rfl (by decide) (by kernel_rfl) ?_
    refine Al_pu (Pu_call (containsI_a c.parents _ [] S.badP sbadp_a) rfl ⟨Sub.rfl, Sub.rfl, trivial⟩) rfl rfl (by decide) (by kernel_rfl) ?_
    refine Al_pu (Pu_not rfl rfl) rfl rfl (by decide) (by kernel_rfl) ?_
    refine Al_pu (Pu_move (.inl rfl) (by conv => lhs; whnf)) rfl rfl (by decide) (by kernel_rfl) ?_
    refine Al_st (St_gd [] rfl rfl rfl rfl trivial (fun hg43 => Pu_field 1 rfl Try.underlying28 rfl rfl Try.sizeOf26 rfl)) rfl (by decide) (by kernel_rfl) (by intro j b oj dj h1 h2 h3; cases h1; cases h2; cases h3; decide) ?_
    refine Al_st (St_gd [43] rfl rfl rfl rfl ⟨⟨_, rfl⟩, trivial⟩ (fun hg44 => Pu_load1 rfl Try.isAgg26 rfl rfl)) rfl (by decide) (by kernel_rfl) (by intro j b oj dj h1 h2 h3; cases h1; cases h2; cases h3; decide) ?_
    refine Al_st (St_gd [] rfl rfl rfl rfl trivial (fun hg45 => by exact Pu_move (.inl rfl) (by conv => lhs; whnf))) rfl (by decide) (by kernel_rfl) (by intro j b oj dj h1 h2 h3; cases h1; cases h2; cases h3; decide) ?_
    refine Al_st (St_gd [44, 45] rfl rfl rfl rfl ⟨⟨_, rfl⟩, ⟨_, rfl⟩, trivial⟩ (fun hg46 => Pu_call (containsI_a c.owners _ [.fp [iv c.parents.length]] (S.badO c.parents.length) (sbado_a _ hn6)) rfl ⟨Sub.rfl, Sub.rfl, trivial⟩)) rfl (by decide) (by kernel_rfl) (by intro j b oj dj h1 h2 h3; cases h1; cases h2; cases h3; decide) ?_
    refine Al_st (St_gd [46] rfl rfl rfl rfl ⟨⟨_, rfl⟩, trivial⟩ (fun hg47 => Pu_not rfl rfl)) rfl (by decide) (by kernel_rfl) (by intro j b oj dj h1 h2 h3; cases h1; cases h2; cases h3; decide) ?_
    refine Al_pu (Pu_and rfl rfl rfl rfl) rfl rfl (by decide) (by kernel_rfl) ?_
    refine Al_pu (Pu_move (.inr rfl) (by conv => lhs; whnf)) rfl rfl (by decide) (by kernel_rfl) ?_
    refine Al_nil ?_
    refine Aw_ret ?_
    exact Sub.bool (by unfold S.written; rw [hs]; simp) -- ret 1
end Go.Proofs.Ytocgnmklgklfnaa

set_option linter.unusedSimpArgs false
set_option linter.unusedVariables false
namespace Go.Proofs.Ytocgnmklgklfnaa
open Go.RowKit A R
namespace S
theorem shape_z2 (c : SRow) : (!whole c.ranges || decide (8 < (c.ranges.length : Int)) || !decide ((c.owners.length : Int) = c.ranges.length) || decide ((c.parents.length : Int) < 1) || decide (6 < (c.parents.length : Int))) = !S.shape c := by
  rw [← S.shape_z]
  cases whole c.ranges <;> cases decide (8 < (c.ranges.length : Int)) <;> cases decide ((c.owners.length : Int) = c.ranges.length) <;> cases decide ((c.parents.length : Int) < 1) <;> cases decide (6 < (c.parents.length : Int)) <;> rfl
theorem any_at {α : Type} {p : α → Bool} {l : List α} {k : Nat} (hk : k < l.length) (h : p l[k] = true) : l.any p = true := List.any_eq_true.2 ⟨_, List.getElem_mem hk, h⟩
theorem any_snoc {α : Type} {p : α → Bool} {l : List α} {k : Nat} (hk : k < l.length) (h : (l.take k).any p = false) (h2 : p l[k] = false) : (l.take (k + 1)).any p = false := by
  rw [List.take_succ_eq_append_getElem hk, List.any_append, h]; simp [h2]
theorem pow_in (k : Nat) (h : k ≤ 6) : (1 : Int) ≤ 2 ^ k ∧ (2 : Int) ^ k ≤ 64 := by
  have : k = 0 ∨ k = 1 ∨ k = 2 ∨ k = 3 ∨ k = 4 ∨ k = 5 ∨ k = 6 := by omega
  rcases this with rfl | rfl | rfl | rfl | rfl | rfl | rfl <;> decide
end S
set_option maxRecDepth 100000 in
theorem srowcheck_a (c : SRow) : ACall Try.prog 41 [.row c.row] (bv (S.written c)) := by
  refine ACall_enter (fun _ _ => by kernel_rfl) Try.func41 rfl Try.ntmps41 Try.results41 (Nat.le_of_ble_eq_true rfl) (fun hok M0 w0 hnl => ?_)
  have hr := (hok _ (List.mem_cons_self ..)).row
  have l3 := (hr (.sl 1 (c.parents.map fun x => [iv x])) (by simp [SRow.row])).len
  have l2 := (hr (.sl 1 (c.owners.map fun x => [iv x])) (by simp [SRow.row])).len
  rw [List.length_map] at l3 l2
  refine Aw_seq ?_
  refine Aw_region ?_
  refine Al_pu (Pu_boxN rfl rfl) rfl rfl (by decide) (by kernel_rfl) ?_
  refine Al_pu (Pu_move (.inr rfl) (by conv => lhs; whnf)) rfl rfl (by decide) (by kernel_rfl) ?_
  refine Al_nil ?_
  refine Aw_seq ?_
  refine Aw_region ?_
  refine Al_pu (Pu_field 0 rfl Try.underlying28 rfl rfl Try.sizeOf25 rfl) rfl rfl (by decide) (by kernel_rfl) ?_
  refine Al_pu (Pu_load1 rfl Try.isAgg25 rfl rfl) rfl rfl (by decide) (by kernel_rfl) ?_
  refine Al_pu (Pu_call (rwhole_a c.ranges) rfl ⟨Sub.rfl, trivial⟩) rfl rfl (by decide) (by kernel_rfl) ?_
  refine Al_pu (Pu_move (.inr rfl) (by conv => lhs; whnf)) rfl rfl (by decide) (by kernel_rfl) ?_
  refine Al_nil ?_
  refine Aw_seq ?_
  refine Aw_region ?_
  refine Al_pu (Pu_field 2 rfl Try.underlying28 rfl rfl Try.sizeOf26 rfl) rfl rfl (by decide) (by kernel_rfl) ?_
  refine Al_pu (Pu_load1 rfl Try.isAgg26 rfl rfl) rfl rfl (by decide) (by kernel_rfl) ?_
  refine Al_pu (Pu_len rfl Try.underlying26 rfl (by first | exact List.length_map .. | exact rfl)) rfl rfl (by decide) (by kernel_rfl) ?_
  refine Al_pu (Pu_move (.inr rfl) (by conv => lhs; whnf)) rfl rfl (by decide) (by kernel_rfl) ?_
  refine Al_nil ?_
  refine Aw_seq ?_
  refine Aw_seq ?_
  refine Aw_region ?_
  refine Al_pu (Pu_move (.inl rfl) (by conv => lhs; whnf)) rfl rfl (by decide) (by kernel_rfl) ?_
  refine Al_pu (Pu_not rfl rfl) rfl rfl (by decide) (by kernel_rfl) ?_
  refine Al_pu (Pu_move (.inl rfl) (by conv => lhs; whnf)) rfl rfl (by decide) (by kernel_rfl) ?_
  refine Al_st (St_gd [] rfl rfl rfl rfl trivial (fun hg18 => Pu_field 0 rfl Try.underlying28 rfl rfl Try.sizeOf25 rfl)) rfl (by decide) (by kernel_rfl) (by intro j b oj dj h1 h2 h3; cases h1; cases h2; cases h3; decide) ?_
  refine Al_st (St_gd [18] rfl rfl rfl rfl ⟨⟨_, rfl⟩, trivial⟩ (fun hg19 => Pu_load1 rfl Try.isAgg25 rfl rfl)) rfl (by decide) (by kernel_rfl) (by intro j b oj dj h1 h2 h3; cases h1; cases h2; cases h3; decide) ?_
  refine Al_st (St_gd [19] rfl rfl rfl rfl ⟨⟨_, rfl⟩, trivial⟩ (fun hg20 => by exact Pu_len rfl Try.underlying25 rfl (by first | exact List.length_map .. | exact rfl))) rfl (by decide) (by kernel_rfl) (by intro j b oj dj h1 h2 h3; cases h1; cases h2; cases h3; decide) ?_
  refine Al_st (St_gd [20] rfl rfl rfl rfl ⟨⟨_, rfl⟩, trivial⟩ (fun hg21 => Pu_cmp rfl rfl rfl rfl)) rfl (by decide) (by kernel_rfl) (by intro j b oj dj h1 h2 h3; cases h1; cases h2; cases h3; decide) ?_
  refine Al_pu (Pu_or rfl rfl rfl rfl) rfl rfl (by decide) (by kernel_rfl) ?_
  refine Al_pu (Pu_move (.inl rfl) (by conv => lhs; whnf)) rfl rfl (by decide) (by kernel_rfl) ?_
  refine Al_st (St_gd [] rfl rfl rfl rfl trivial (fun hg24 => Pu_field 1 rfl Try.underlying28 rfl rfl Try.sizeOf26 rfl)) rfl (by decide) (by kernel_rfl) (by intro j b oj dj h1 h2 h3; cases h1; cases h2; cases h3; decide) ?_
  refine Al_st (St_gd [24] rfl rfl rfl rfl ⟨⟨_, rfl⟩, trivial⟩ (fun hg25 => Pu_load1 rfl Try.isAgg26 rfl rfl)) rfl (by decide) (by kernel_rfl) (by intro j b oj dj h1 h2 h3; cases h1; cases h2; cases h3; decide) ?_
  refine Al_st (St_gd [25] rfl rfl rfl rfl ⟨⟨_, rfl⟩, trivial⟩ (fun hg26 => by exact Pu_len rfl Try.underlying26 rfl (by first | exact List.length_map .. | exact rfl))) rfl (by decide) (by kernel_rfl) (by intro j b oj dj h1 h2 h3; cases h1; cases h2; cases h3; decide) ?_
  refine Al_st (St_gd [] rfl rfl rfl rfl trivial (fun hg27 => Pu_field 0 rfl Try.underlying28 rfl rfl Try.sizeOf25 rfl)) rfl (by decide) (by kernel_rfl) (by intro j b oj dj h1 h2 h3; cases h1; cases h2; cases h3; decide) ?_
  refine Al_st (St_gd [27] rfl rfl rfl rfl ⟨⟨_, rfl⟩, trivial⟩ (fun hg28 => Pu_load1 rfl Try.isAgg25 rfl rfl)) rfl (by decide) (by kernel_rfl) (by intro j b oj dj h1 h2 h3; cases h1; cases h2; cases h3; decide) ?_
  refine Al_st (St_gd [28] rfl rfl rfl rfl ⟨⟨_, rfl⟩, trivial⟩ (fun hg29 => by exact Pu_len rfl Try.underlying25 rfl (by first | exact List.length_map .. | exact rfl))) rfl (by decide) (by kernel_rfl) (by intro j b oj dj h1 h2 h3; cases h1; cases h2; cases h3; decide) ?_
  refine Al_st (St_gd [26, 29] rfl rfl rfl rfl ⟨⟨_, rfl⟩, ⟨_, rfl⟩, trivial⟩ (fun hg30 => Pu_cmp rfl rfl rfl rfl)) rfl (by decide) (by kernel_rfl) (by intro j b oj dj h1 h2 h3; cases h1; cases h2; cases h3; decide) ?_
  refine Al_pu (Pu_or rfl rfl rfl rfl) rfl rfl (by decide) (by kernel_rfl) ?_
  refine Al_pu (Pu_move (.inl rfl) (by conv => lhs; whnf)) rfl rfl (by decide) (by kernel_rfl) ?_
  refine Al_st (St_gd [] rfl rfl rfl rfl trivial (fun hg33 => by exact Pu_move (.inl rfl) (by conv => lhs; whnf))) rfl (by decide) (by kernel_rfl) (by intro j b oj dj h1 h2 h3; cases h1; cases h2; cases h3; decide) ?_
  refine Al_st (St_gd [33] rfl rfl rfl rfl ⟨⟨_, rfl⟩, trivial⟩ (fun hg34 => Pu_cmp rfl rfl rfl rfl)) rfl (by decide) (by kernel_rfl) (by intro j b oj dj h1 h2 h3; cases h1; cases h2; cases h3; decide) ?_
  refine Al_pu (Pu_or rfl rfl rfl rfl) rfl rfl (by decide) (by kernel_rfl) ?_
  refine Al_pu (Pu_move (.inl rfl) (by conv => lhs; whnf)) rfl rfl (by decide) (by kernel_rfl) ?_
  refine Al_st (St_gd [] rfl rfl rfl rfl trivial (fun hg37 => by exact Pu_move (.inl rfl) (by conv => lhs; whnf))) rfl (by decide) (by kernel_rfl) (by intro j b oj dj h1 h2 h3; cases h1; cases h2; cases h3; decide) ?_
  refine Al_st (St_gd [37] rfl rfl rfl rfl ⟨⟨_, rfl⟩, trivial⟩ (fun hg38 => Pu_cmp rfl rfl rfl rfl)) rfl (by decide) (by kernel_rfl) (by intro j b oj dj h1 h2 h3; cases h1; cases h2; cases h3; decide) ?_
  refine Al_pu (Pu_or rfl rfl rfl rfl) rfl rfl (by decide) (by kernel_rfl) ?_
  refine Al_nil ?_
  refine Aw_cond rfl (fun h39 => ?_) (fun h39 => ?_)
  · skip
    have hs : S.shape c = false := by
      have h := S.shape_z2 c
      rw [h39] at h
      simpa using h.symm
    refine Aw_seq ?_
    refine Aw_region ?_
    refine Al_pu (Pu_move (.inr rfl) (by conv => lhs; whnf)) rfl rfl (by decide) (by kernel_rfl) ?_
    refine Al_nil ?_
    refine Aw_ret ?_
    exact Sub.bool (by unfold S.written; rw [hs]; rfl) -- ret 0
  · skip
    have hs : S.shape c = true := by
      have h := S.shape_z2 c
      rw [h39] at h
      simpa using h.symm
    have hn6 := (S.shape_facts hs).2.1
    refine Aw_skip ?_
    refine Aw_seq ?_
    refine Aw_region ?_
    refine Al_pu (Pu_move (.inr rfl) (by conv => lhs; whnf)) rfl rfl (by decide) (by kernel_rfl) ?_
    refine Al_nil ?_
    refine Aw_seq ?_
    refine Aw_seq ?_
    refine Aw_region ?_
    refine Al_pu (Pu_move (.inr rfl) (by conv => lhs; whnf)) rfl rfl (by decide) (by kernel_rfl) ?_
    refine Al_nil ?_
    refine Aw_block ?_
    refine Aw_loopk (ι := Nat) [1, 4] [] (fun k => [(6, .d (iv k)), (5, .d (iv (2 ^ k)))]) (fun k => []) (fun k => k ≤ c.parents.length) (fun k => c.parents.length - k) (0) (Nat.zero_le _) ⟨Sub.rfl, Sub.num rfl, trivial⟩ trivial ?_
    rintro k hk0
    refine Aw_seq ?_
    refine Aw_seq ?_
    refine Aw_region ?_
    refine Al_pu (Pu_move (.inl rfl) (by conv => lhs; whnf)) rfl rfl (by decide) (by kernel_rfl) ?_
    refine Al_pu (Pu_move (.inl rfl) (by conv => lhs; whnf)) rfl rfl (by decide) (by kernel_rfl) ?_
    refine Al_pu (Pu_cmp rfl rfl rfl rfl) rfl rfl (by decide) (by kernel_rfl) ?_
    refine Al_nil ?_
    refine Aw_cond rfl (fun h42 => ?_) (fun h42 => ?_)
    · (try simp only [decide_eq_true_eq, decide_eq_false_iff_not, Bool.and_eq_true, Bool.or_eq_true, Bool.and_eq_false_iff, Bool.or_eq_false_iff, Bool.not_eq_true', Bool.not_eq_false', beq_iff_eq, Bool.not_eq_eq_eq_not, Bool.not_true, Bool.not_false, List.length_map, Bool.and_true, Bool.and_false, Bool.false_and, Bool.true_and, Bool.or_false, Bool.false_or] at h42)
      refine Aw_skip ?_
      refine Aw_seq ?_
      refine Aw_block ?_
      refine Aw_region ?_
      refine Al_pu (Pu_move (.inl rfl) (by conv => lhs; whnf)) rfl rfl (by decide) (by kernel_rfl) ?_
      refine Al_pu (Pu_int_mul rfl rfl rfl (r := 2 ^ (k + 1)) (by have := S.pow_in (k + 1) (by omega); rw [← Int.pow_succ]; exact IntWalk.i64_in _ (by omega)) (fun _ => by have := S.pow_in (k + 1) (by omega); show A.inI _; simp only [A.inI]; omega)) rfl rfl (by decide) (by kernel_rfl) ?_
      refine Al_pu (Pu_move (.inr rfl) (by conv => lhs; whnf)) rfl rfl (by decide) (by kernel_rfl) ?_
      refine Al_nil ?_
      refine Aw_region ?_
      refine Al_pu (Pu_move (.inl rfl) (by conv => lhs; whnf)) rfl rfl (by decide) (by kernel_rfl) ?_
      refine Al_pu (Pu_add rfl rfl rfl (fun h1 h2 => by simp only [A.inI, A.maxI] at *; omega)) rfl rfl (by decide) (by kernel_rfl) ?_
      refine Al_pu (Pu_move (.inr rfl) (by conv => lhs; whnf)) rfl rfl (by decide) (by kernel_rfl) ?_
      refine Al_nil ?_
      exact ⟨k + 1, by omega, by omega, Le.ov ⟨Sub.num (by omega), Sub.rfl, trivial⟩ ⟨Sub.rfl, Sub.rfl, trivial⟩ trivial trivial⟩ -- loop 0 next.0
    · (try simp only [decide_eq_true_eq, decide_eq_false_iff_not, Bool.and_eq_true, Bool.or_eq_true, Bool.and_eq_false_iff, Bool.or_eq_false_iff, Bool.not_eq_true', Bool.not_eq_false', beq_iff_eq, Bool.not_eq_eq_eq_not, Bool.not_true, Bool.not_false, List.length_map, Bool.and_true, Bool.and_false, Bool.false_and, Bool.true_and, Bool.or_false, Bool.false_or] at h42)
      obtain rfl : k = c.parents.length := by omega
      refine Aw_exit ?_
      refine Aw_seq ?_
      refine Aw_seq ?_
      refine Aw_region ?_
      refine Al_pu (Pu_move (.inr rfl) (by conv => lhs; whnf)) rfl rfl (by decide) (by kernel_rfl) ?_
      refine Al_nil ?_
      refine Aw_block ?_
      refine Aw_loopk (ι := Nat) [1, 5] [] (fun i => [(7, .d (iv i))]) (fun i => []) (fun i => i ≤ c.owners.length ∧ (c.owners.take i).any (S.badO c.parents.length) = false) (fun i => c.owners.length - i) (0) (⟨Nat.zero_le _, by simp⟩) ⟨Sub.rfl, trivial⟩ trivial ?_
      rintro i ⟨hk1, hno⟩
      refine Aw_seq ?_
      refine Aw_seq ?_
      refine Aw_region ?_
      refine Al_pu (Pu_move (.inl rfl) (by conv => lhs; whnf)) rfl rfl (by decide) (by kernel_rfl) ?_
      refine Al_pu (Pu_field 1 rfl Try.underlying28 rfl rfl Try.sizeOf26 rfl) rfl rfl (by decide) (by kernel_rfl) ?_
      refine Al_pu (Pu_load1 rfl Try.isAgg26 rfl rfl) rfl rfl (by decide) (by kernel_rfl) ?_
      refine Al_pu (Pu_len rfl Try.underlying26 rfl (by first | exact List.length_map .. | exact rfl)) rfl rfl (by decide) (by kernel_rfl) ?_
      refine Al_pu (Pu_cmp rfl rfl rfl rfl) rfl rfl (by decide) (by kernel_rfl) ?_
      refine Al_nil ?_
      refine Aw_cond rfl (fun h51 => ?_) (fun h51 => ?_)
      · (try simp only [decide_eq_true_eq, decide_eq_false_iff_not, Bool.and_eq_true, Bool.or_eq_true, Bool.and_eq_false_iff, Bool.or_eq_false_iff, Bool.not_eq_true', Bool.not_eq_false', beq_iff_eq, Bool.not_eq_eq_eq_not, Bool.not_true, Bool.not_false, List.length_map, Bool.and_true, Bool.and_false, Bool.false_and, Bool.true_and, Bool.or_false, Bool.false_or] at h51)
        have hi : i < c.owners.length := by omega
        refine Aw_skip ?_
        refine Aw_seq ?_
        refine Aw_block ?_
        refine Aw_seq ?_
        refine Aw_region ?_
        refine Al_pu (Pu_field 1 rfl Try.underlying28 rfl rfl Try.sizeOf26 rfl) rfl rfl (by decide) (by kernel_rfl) ?_
        refine Al_pu (Pu_load1 rfl Try.isAgg26 rfl rfl) rfl rfl (by decide) (by kernel_rfl) ?_
        refine Al_pu (Pu_move (.inl rfl) (by conv => lhs; whnf)) rfl rfl (by decide) (by kernel_rfl) ?_
        refine Al_pu (Pu_index rfl Try.underlying26 Try.sizeOf3 rfl rfl (rfl) (mapget hi)) rfl rfl (by decide) (by kernel_rfl) ?_
        refine Al_pu (Pu_load1 rfl Try.isAgg3 rfl rfl) rfl rfl (by decide) (by kernel_rfl) ?_
        refine Al_pu (Pu_cmp rfl rfl rfl rfl) rfl rfl (by decide) (by kernel_rfl) ?_
        refine Al_pu (Pu_move (.inl rfl) (by conv => lhs; whnf)) rfl rfl (by decide) (by kernel_rfl) ?_
        refine Al_st (St_gd [] rfl rfl rfl rfl trivial (fun hg61 => Pu_field 1 rfl Try.underlying28 rfl rfl Try.sizeOf26 rfl)) rfl (by decide) (by kernel_rfl) (by intro j b oj dj h1 h2 h3; cases h1; cases h2; cases h3; decide) ?_
        refine Al_st (St_gd [61] rfl rfl rfl rfl ⟨⟨_, rfl⟩, trivial⟩ (fun hg62 => Pu_load1 rfl Try.isAgg26 rfl rfl)) rfl (by decide) (by kernel_rfl) (by intro j b oj dj h1 h2 h3; cases h1; cases h2; cases h3; decide) ?_
        refine Al_st (St_gd [] rfl rfl rfl rfl trivial (fun hg63 => by exact Pu_move (.inl rfl) (by conv => lhs; whnf))) rfl (by decide) (by kernel_rfl) (by intro j b oj dj h1 h2 h3; cases h1; cases h2; cases h3; decide) ?_
        refine Al_st (St_gd [62, 63] rfl rfl rfl rfl ⟨⟨_, rfl⟩, ⟨_, rfl⟩, trivial⟩ (fun hg64 => Pu_index rfl Try.underlying26 Try.sizeOf3 rfl rfl (rfl) (mapget hi))) rfl (by decide) (by kernel_rfl) (by intro j b oj dj h1 h2 h3; cases h1; cases h2; cases h3; decide) ?_
        refine Al_st (St_gd [64] rfl rfl rfl rfl ⟨⟨_, rfl⟩, trivial⟩ (fun hg65 => Pu_load1 rfl Try.isAgg3 rfl rfl)) rfl (by decide) (by kernel_rfl) (by intro j b oj dj h1 h2 h3; cases h1; cases h2; cases h3; decide) ?_
        refine Al_st (St_gd [] rfl rfl rfl rfl trivial (fun hg66 => by exact Pu_move (.inl rfl) (by conv => lhs; whnf))) rfl (by decide) (by kernel_rfl) (by intro j b oj dj h1 h2 h3; cases h1; cases h2; cases h3; decide) ?_
        refine Al_st (St_gd [65, 66] rfl rfl rfl rfl ⟨⟨_, rfl⟩, ⟨_, rfl⟩, trivial⟩ (fun hg67 => Pu_cmp rfl rfl rfl rfl)) rfl (by decide) (by kernel_rfl) (by intro j b oj dj h1 h2 h3; cases h1; cases h2; cases h3; decide) ?_
        refine Al_pu (Pu_or rfl rfl rfl rfl) rfl rfl (by decide) (by kernel_rfl) ?_
        refine Al_nil ?_
        refine Aw_cond rfl (fun h68 => ?_) (fun h68 => ?_)
        · skip
          have hb : S.badO c.parents.length c.owners[i] = true := h68
          refine Aw_seq ?_
          refine Aw_region ?_
          refine Al_pu (Pu_move (.inr rfl) (by conv => lhs; whnf)) rfl rfl (by decide) (by kernel_rfl) ?_
          refine Al_nil ?_
          refine Aw_ret ?_
          exact Sub.bool (by unfold S.written; rw [hs, S.any_at hi hb]; simp) -- ret 1
        · skip
          have hb : S.badO c.parents.length c.owners[i] = false := h68
          refine Aw_skip ?_
          refine Aw_region ?_
          refine Al_pu (Pu_move (.inl rfl) (by conv => lhs; whnf)) rfl rfl (by decide) (by kernel_rfl) ?_
          refine Al_pu (Pu_add rfl rfl rfl (fun h1 h2 => by simp only [A.inI, A.maxI] at *; omega)) rfl rfl (by decide) (by kernel_rfl) ?_
          refine Al_pu (Pu_move (.inr rfl) (by conv => lhs; whnf)) rfl rfl (by decide) (by kernel_rfl) ?_
          refine Al_nil ?_
          exact ⟨i + 1, ⟨by omega, S.any_snoc hi hno hb⟩, by omega, Le.ov ⟨Sub.num (by omega), trivial⟩ ⟨Sub.rfl, Sub.rfl, trivial⟩ trivial trivial⟩ -- loop 1 next.0
      · (try simp only [decide_eq_true_eq, decide_eq_false_iff_not, Bool.and_eq_true, Bool.or_eq_true, Bool.and_eq_false_iff, Bool.or_eq_false_iff, Bool.not_eq_true', Bool.not_eq_false', beq_iff_eq, Bool.not_eq_eq_eq_not, Bool.not_true, Bool.not_false, List.length_map, Bool.and_true, Bool.and_false, Bool.false_and, Bool.true_and, Bool.or_false, Bool.false_or] at h51)
        obtain rfl : i = c.owners.length := by omega
        rw [List.take_length] at hno
        refine Aw_exit ?_
        refine Aw_seq ?_
        refine Aw_seq ?_
        refine Aw_region ?_
        refine Al_pu (Pu_move (.inr rfl) (by conv => lhs; whnf)) rfl rfl (by decide) (by kernel_rfl) ?_
        refine Al_nil ?_
        refine Aw_block ?_
        refine Aw_loopk (ι := Nat) [1] [] (fun j => [(8, .d (iv j))]) (fun j => []) (fun j => j ≤ c.parents.length ∧ (c.parents.take j).any S.badP = false) (fun j => c.parents.length - j) (0) (⟨Nat.zero_le _, by simp⟩) ⟨Sub.rfl, trivial⟩ trivial ?_
        rintro j ⟨hk2, hnp⟩
        refine Aw_seq ?_
        refine Aw_seq ?_
        refine Aw_region ?_
        refine Al_pu (Pu_move (.inl rfl) (by conv => lhs; whnf)) rfl rfl (by decide) (by kernel_rfl) ?_
        refine Al_pu (Pu_field 2 rfl Try.underlying28 rfl rfl Try.sizeOf26 rfl) rfl rfl (by decide) (by kernel_rfl) ?_
        refine Al_pu (Pu_load1 rfl Try.isAgg26 rfl rfl) rfl rfl (by decide) (by kernel_rfl) ?_
        refine Al_pu (Pu_len rfl Try.underlying26 rfl (by first | exact List.length_map .. | exact rfl)) rfl rfl (by decide) (by kernel_rfl) ?_
        refine Al_pu (Pu_cmp rfl rfl rfl rfl) rfl rfl (by decide) (by kernel_rfl) ?_
        refine Al_nil ?_
        refine Aw_cond rfl (fun h73 => ?_) (fun h73 => ?_)
        · (try simp only [decide_eq_true_eq, decide_eq_false_iff_not, Bool.and_eq_true, Bool.or_eq_true, Bool.and_eq_false_iff, Bool.or_eq_false_iff, Bool.not_eq_true', Bool.not_eq_false', beq_iff_eq, Bool.not_eq_eq_eq_not, Bool.not_true, Bool.not_false, List.length_map, Bool.and_true, Bool.and_false, Bool.false_and, Bool.true_and, Bool.or_false, Bool.false_or] at h73)
          have hj : j < c.parents.length := by omega
          refine Aw_skip ?_
          refine Aw_seq ?_
          refine Aw_block ?_
          refine Aw_seq ?_
          refine Aw_region ?_
          refine Al_pu (Pu_field 2 rfl Try.underlying28 rfl rfl Try.sizeOf26 rfl) rfl rfl (by decide) (by kernel_rfl) ?_
          refine Al_pu (Pu_load1 rfl Try.isAgg26 rfl rfl) rfl rfl (by decide) (by kernel_rfl) ?_
          refine Al_pu (Pu_move (.inl rfl) (by conv => lhs; whnf)) rfl rfl (by decide) (by kernel_rfl) ?_
          refine Al_pu (Pu_index rfl Try.underlying26 Try.sizeOf3 rfl rfl (rfl) (mapget hj)) rfl rfl (by decide) (by kernel_rfl) ?_
          refine Al_pu (Pu_load1 rfl Try.isAgg3 rfl rfl) rfl rfl (by decide) (by kernel_rfl) ?_
          refine Al_pu (Pu_cmp rfl rfl rfl rfl) rfl rfl (by decide) (by kernel_rfl) ?_
          refine Al_pu (Pu_move (.inl rfl) (by conv => lhs; whnf)) rfl rfl (by decide) (by kernel_rfl) ?_
          refine Al_st (St_gd [] rfl rfl rfl rfl trivial (fun hg83 => Pu_field 2 rfl Try.underlying28 rfl rfl Try.sizeOf26 rfl)) rfl (by decide) (by kernel_rfl) (by intro j b oj dj h1 h2 h3; cases h1; cases h2; cases h3; decide) ?_
          refine Al_st (St_gd [83] rfl rfl rfl rfl ⟨⟨_, rfl⟩, trivial⟩ (fun hg84 => Pu_load1 rfl Try.isAgg26 rfl rfl)) rfl (by decide) (by kernel_rfl) (by intro j b oj dj h1 h2 h3; cases h1; cases h2; cases h3; decide) ?_
          refine Al_st (St_gd [] rfl rfl rfl rfl trivial (fun hg85 => by exact Pu_move (.inl rfl) (by conv => lhs; whnf))) rfl (by decide) (by kernel_rfl) (by intro j b oj dj h1 h2 h3; cases h1; cases h2; cases h3; decide) ?_
          refine Al_st (St_gd [84, 85] rfl rfl rfl rfl ⟨⟨_, rfl⟩, ⟨_, rfl⟩, trivial⟩ (fun hg86 => Pu_index rfl Try.underlying26 Try.sizeOf3 rfl rfl (rfl) (mapget hj))) rfl (by decide) (by kernel_rfl) (by intro j b oj dj h1 h2 h3; cases h1; cases h2; cases h3; decide) ?_
          refine Al_st (St_gd [86] rfl rfl rfl rfl ⟨⟨_, rfl⟩, trivial⟩ (fun hg87 => Pu_load1 rfl Try.isAgg3 rfl rfl)) rfl (by decide) (by kernel_rfl) (by intro j b oj dj h1 h2 h3; cases h1; cases h2; cases h3; decide) ?_
          refine Al_st (St_gd [87] rfl rfl rfl rfl ⟨⟨_, rfl⟩, trivial⟩ (fun hg88 => Pu_cmp rfl rfl rfl rfl)) rfl (by decide) (by kernel_rfl) (by intro j b oj dj h1 h2 h3; cases h1; cases h2; cases h3; decide) ?_
          refine Al_pu (Pu_or rfl rfl rfl rfl) rfl rfl (by decide) (by kernel_rfl) ?_
          refine Al_nil ?_
          refine Aw_cond rfl (fun h89 => ?_) (fun h89 => ?_)
          · skip
            have hb : S.badP c.parents[j] = true := by
              rw [← h89]; unfold S.badP; congr 1
            refine Aw_seq ?_
            refine Aw_region ?_
            refine Al_pu (Pu_move (.inr rfl) (by conv => lhs; whnf)) rfl rfl (by decide) (by kernel_rfl) ?_
            refine Al_nil ?_
            refine Aw_ret ?_
            exact Sub.bool (by unfold S.written; rw [hs, S.any_at hj hb]; simp) -- ret 2
          · skip
            have hb : S.badP c.parents[j] = false := by
              rw [← h89]; unfold S.badP; congr 1
            refine Aw_skip ?_
            refine Aw_region ?_
            refine Al_pu (Pu_move (.inl rfl) (by conv => lhs; whnf)) rfl rfl (by decide) (by kernel_rfl) ?_
            refine Al_pu (Pu_add rfl rfl rfl (fun h1 h2 => by simp only [A.inI, A.maxI] at *; omega)) rfl rfl (by decide) (by kernel_rfl) ?_
            refine Al_pu (Pu_move (.inr rfl) (by conv => lhs; whnf)) rfl rfl (by decide) (by kernel_rfl) ?_
            refine Al_nil ?_
            exact ⟨j + 1, ⟨by omega, S.any_snoc hj hnp hb⟩, by omega, Le.ov ⟨Sub.num (by omega), trivial⟩ ⟨Sub.rfl, trivial⟩ trivial trivial⟩ -- loop 2 next.0
        · (try simp only [decide_eq_true_eq, decide_eq_false_iff_not, Bool.and_eq_true, Bool.or_eq_true, Bool.and_eq_false_iff, Bool.or_eq_false_iff, Bool.not_eq_true', Bool.not_eq_false', beq_iff_eq, Bool.not_eq_eq_eq_not, Bool.not_true, Bool.not_false, List.length_map, Bool.and_true, Bool.and_false, Bool.false_and, Bool.true_and, Bool.or_false, Bool.false_or] at h73)
          obtain rfl : j = c.parents.length := by omega
          rw [List.take_length] at hnp
          refine Aw_exit ?_
          refine Aw_seq ?_
          refine Aw_region ?_
          refine Al_pu (Pu_move (.inr rfl) (by conv => lhs; whnf)) rfl rfl (by decide) (by kernel_rfl) ?_
          refine Al_nil ?_
          refine Aw_ret ?_
          exact Sub.bool (by unfold S.written; rw [hs, hno, hnp]; rfl) -- ret 3
end Go.Proofs.Ytocgnmklgklfnaa

set_option linter.unusedSimpArgs false
set_option linter.unusedVariables false
namespace Go.Proofs.Ytocgnmklgklfnaa
open Go.RowKit A R
namespace S
theorem flat_le {α : Type} (f : α → List UInt8) (b : Nat) : ∀ l : List α, (∀ x ∈ l, (f x).length ≤ b) → (l.flatMap f).length ≤ b * l.length
  | [], _ => by simp
  | x :: r, h => by
    have h1 := h x (by simp)
    have h2 := flat_le f b r fun y hy => h y (by simp [hy])
    simp only [List.flatMap_cons, List.length_append, List.length_cons, Nat.mul_add]
    omega
theorem flat_snoc {α : Type} (f : α → List UInt8) {l : List α} {k : Nat} (h : k < l.length) : (l.take (k + 1)).flatMap f = (l.take k).flatMap f ++ f l[k] := by
  rw [List.take_succ_eq_append_getElem h, List.flatMap_append]; simp
def cuts (c : SRow) : List Rng := c.ranges.take (c.ranges.length - 1)
def rowBytes (c : SRow) : List UInt8 := V.num c.ranges.length ++ (cuts c).flatMap (fun r => V.text r.t) ++ c.owners.flatMap (fun x => V.num x.toNat) ++ V.num c.parents.length ++ c.parents.flatMap fun p => V.num (p + 1).toNat
def fitRow (c : SRow) : Prop := ∀ r ∈ c.ranges, r.f.size ≤ 1000 ∧ r.t.size ≤ 1000
theorem written_facts {c : SRow} (h : written c = true) : shape c = true ∧ (∀ p ∈ c.parents, -1 ≤ p ∧ p ≤ 5) ∧ ∀ x ∈ c.owners, 1 ≤ x ∧ x ≤ 63 := by
  unfold written at h
  rw [Bool.and_eq_true, Bool.and_eq_true] at h
  obtain ⟨h1, h2, h3⟩ := h
  have hn := (shape_facts h1).2.1
  refine ⟨h1, fun p hp => ?_, fun x hx => ?_⟩
  · by_cases hb : badP p = true
    · rw [List.any_eq_true.2 ⟨p, hp, hb⟩] at h2; cases h2
    · simp only [badP, Bool.or_eq_true, decide_eq_true_eq, not_or] at hb; omega
  · by_cases hb : badO c.parents.length x = true
    · rw [List.any_eq_true.2 ⟨x, hx, hb⟩] at h3; cases h3
    · simp only [badO, Bool.or_eq_true, decide_eq_true_eq, not_or] at hb
      have := pow_in c.parents.length hn
      omega
end S
set_option maxRecDepth 100000 in
theorem rrowbytes_a (c : SRow) (hw : S.written c = true) (hf : S.fitRow c) : ACall Try.prog 44 [.row c.row] (tv (V.ba (S.rowBytes c))) := by
  refine ACall_enter (fun _ _ => by kernel_rfl) Try.func44 rfl Try.ntmps44 Try.results44 (Nat.le_of_ble_eq_true rfl) (fun hok M0 w0 hnl => ?_)
  obtain ⟨hs, hp, hx⟩ := S.written_facts hw
  obtain ⟨n1, n2, n3, n4, _⟩ := S.shape_facts hs
  have b1 := V.num_len64 (n := c.ranges.length) (by omega)
  have b2 := V.num_len64 (n := c.parents.length) (by omega)
  refine Aw_seq ?_
  refine Aw_region ?_
  refine Al_pu (Pu_boxN rfl rfl) rfl rfl (by decide) (by kernel_rfl) ?_
  refine Al_pu (Pu_move (.inr rfl) (by conv => lhs; whnf)) rfl rfl (by decide) (by kernel_rfl) ?_
  refine Al_nil ?_
  refine Aw_seq ?_
  refine Aw_region ?_
  refine Al_pu (Pu_field 0 rfl Try.underlying28 rfl rfl Try.sizeOf25 rfl) rfl rfl (by decide) (by kernel_rfl) ?_
  refine Al_pu (Pu_load1 rfl Try.isAgg25 rfl rfl) rfl rfl (by decide) (by kernel_rfl) ?_
  refine Al_pu (Pu_len rfl Try.underlying25 rfl (by first | exact List.length_map .. | exact rfl)) rfl rfl (by decide) (by kernel_rfl) ?_
  refine Al_pu (Pu_move (.inr rfl) (by conv => lhs; whnf)) rfl rfl (by decide) (by kernel_rfl) ?_
  refine Al_nil ?_
  refine Aw_seq ?_
  refine Aw_region ?_
  refine Al_pu (Pu_move (.inl rfl) (by conv => lhs; whnf)) rfl rfl (by decide) (by kernel_rfl) ?_
  refine Al_pu (Pu_conv rfl Try.underlying3 Try.underlying63 rfl (fun hv => u64_nat (by omega) (by simp only [vok, A.inI] at hv; omega))) rfl rfl (by decide) (by kernel_rfl) ?_
  refine Al_pu (Pu_call (rnumber_a c.ranges.length (by omega)) rfl ⟨Sub.rfl, trivial⟩) rfl rfl (by decide) (by kernel_rfl) ?_
  refine Al_pu (Pu_move (.inr rfl) (by conv => lhs; whnf)) rfl rfl (by decide) (by kernel_rfl) ?_
  refine Al_nil ?_
  refine Aw_seq ?_
  refine Aw_seq ?_
  refine Aw_region ?_
  refine Al_pu (Pu_move (.inr rfl) (by conv => lhs; whnf)) rfl rfl (by decide) (by kernel_rfl) ?_
  refine Al_nil ?_
  refine Aw_block ?_
  refine Aw_loopk (ι := Nat) [1, 3] [] (fun k => [(5, .d (iv k)), (4, .d (tv (V.ba (V.num c.ranges.length ++ (c.ranges.take k).flatMap fun r => V.text r.t))))]) (fun k => []) (fun k => k ≤ (c.ranges.length - 1)) (fun k => (c.ranges.length - 1) - k) (0) (Nat.zero_le _) ⟨Sub.rfl, Sub.str (by simp), trivial⟩ trivial ?_
  rintro k hk0
  refine Aw_seq ?_
  refine Aw_seq ?_
  refine Aw_region ?_
  refine Al_pu (Pu_move (.inl rfl) (by conv => lhs; whnf)) rfl rfl (by decide) (by kernel_rfl) ?_
  refine Al_pu (Pu_add rfl rfl rfl (fun h1 h2 => by simp only [A.inI, A.maxI] at *; omega)) rfl rfl (by decide) (by kernel_rfl) ?_
  refine Al_pu (Pu_move (.inl rfl) (by conv => lhs; whnf)) rfl rfl (by decide) (by kernel_rfl) ?_
  refine Al_pu (Pu_cmp rfl rfl rfl rfl) rfl rfl (by decide) (by kernel_rfl) ?_
  refine Al_nil ?_
  refine Aw_cond rfl (fun h17 => ?_) (fun h17 => ?_)
  · (try simp only [decide_eq_true_eq, decide_eq_false_iff_not, Bool.and_eq_true, Bool.or_eq_true, Bool.and_eq_false_iff, Bool.or_eq_false_iff, Bool.not_eq_true', Bool.not_eq_false', beq_iff_eq, Bool.not_eq_eq_eq_not, Bool.not_true, Bool.not_false, List.length_map, Bool.and_true, Bool.and_false, Bool.false_and, Bool.true_and, Bool.or_false, Bool.false_or] at h17)
    have hk : k < c.ranges.length := by omega
    have t0 := (hf _ (List.getElem_mem hk)).2
    have t1 : (V.text c.ranges[k].t).length ≤ 1010 := by
      have := V.num_len64 (n := c.ranges[k].t.size) (by omega)
      simp [V.text]; omega
    have t2 := S.flat_le (fun r : Rng => V.text r.t) 1010 (c.ranges.take k) (fun r hr => by
      have := (hf r (List.mem_of_mem_take hr)).2
      have := V.num_len64 (n := r.t.size) (by omega)
      simp [V.text]; omega)
    rw [List.length_take] at t2
    refine Aw_skip ?_
    refine Aw_seq ?_
    refine Aw_block ?_
    refine Aw_region ?_
    refine Al_pu (Pu_move (.inl rfl) (by conv => lhs; whnf)) rfl rfl (by decide) (by kernel_rfl) ?_
    refine Al_pu (Pu_field 0 rfl Try.underlying28 rfl rfl Try.sizeOf25 rfl) rfl rfl (by decide) (by kernel_rfl) ?_
    refine Al_pu (Pu_load1 rfl Try.isAgg25 rfl rfl) rfl rfl (by decide) (by kernel_rfl) ?_
    refine Al_pu (Pu_move (.inl rfl) (by conv => lhs; whnf)) rfl rfl (by decide) (by kernel_rfl) ?_
    refine Al_pu (Pu_index rfl Try.underlying25 Try.sizeOf46 rfl rfl (rfl) (mapget hk)) rfl rfl (by decide) (by kernel_rfl) ?_
    refine Al_pu (Pu_field 1 rfl Try.underlying46 rfl rfl Try.sizeOf9 rfl) rfl rfl (by decide) (by kernel_rfl) ?_
    refine Al_pu (Pu_load1 rfl Try.isAgg9 rfl rfl) rfl rfl (by decide) (by kernel_rfl) ?_
    refine Al_pu (Pu_call (rtext_a _ (by omega)) rfl ⟨Sub.rfl, trivial⟩) rfl rfl (by decide) (by kernel_rfl) ?_
    refine Al_pu (Pu_catB rfl rfl rfl (by simp only [A.ba_sz, List.length_append, A.maxI]; omega)) rfl rfl (by decide) (by kernel_rfl) ?_
    refine Al_pu (Pu_move (.inr rfl) (by conv => lhs; whnf)) rfl rfl (by decide) (by kernel_rfl) ?_
    refine Al_nil ?_
    refine Aw_region ?_
    refine Al_pu (Pu_move (.inl rfl) (by conv => lhs; whnf)) rfl rfl (by decide) (by kernel_rfl) ?_
    refine Al_pu (Pu_add rfl rfl rfl (fun h1 h2 => by simp only [A.inI, A.maxI] at *; omega)) rfl rfl (by decide) (by kernel_rfl) ?_
    refine Al_pu (Pu_move (.inr rfl) (by conv => lhs; whnf)) rfl rfl (by decide) (by kernel_rfl) ?_
    refine Al_nil ?_
    exact ⟨k + 1, by omega, by omega, Le.ov ⟨Sub.num (by omega), Sub.str (by rw [S.flat_snoc _ hk, List.append_assoc]), trivial⟩ ⟨Sub.rfl, Sub.rfl, trivial⟩ trivial trivial⟩ -- loop 0 next.0
  · (try simp only [decide_eq_true_eq, decide_eq_false_iff_not, Bool.and_eq_true, Bool.or_eq_true, Bool.and_eq_false_iff, Bool.or_eq_false_iff, Bool.not_eq_true', Bool.not_eq_false', beq_iff_eq, Bool.not_eq_eq_eq_not, Bool.not_true, Bool.not_false, List.length_map, Bool.and_true, Bool.and_false, Bool.false_and, Bool.true_and, Bool.or_false, Bool.false_or] at h17)
    obtain ⟨pA, hpA⟩ : ∃ pA, pA = V.num c.ranges.length ++ (S.cuts c).flatMap fun r => V.text r.t := ⟨_, rfl⟩
    have hk0 : c.ranges.take k = S.cuts c := by
      unfold S.cuts
      congr 1
      omega
    have hpAl : pA.length ≤ 10000 := by
      have := S.flat_le (fun r : Rng => V.text r.t) 1010 (S.cuts c) (fun r hr => by
        have := (hf r (List.mem_of_mem_take hr)).2
        have := V.num_len64 (n := r.t.size) (by omega)
        simp [V.text]; omega)
      have h2 : (S.cuts c).length ≤ 8 := by unfold S.cuts; simp; omega
      rw [hpA, List.length_append]; omega
    rw [hk0, ← hpA]
    refine Aw_exit ?_
    refine Aw_seq ?_
    refine Aw_seq ?_
    refine Aw_region ?_
    refine Al_pu (Pu_move (.inr rfl) (by conv => lhs; whnf)) rfl rfl (by decide) (by kernel_rfl) ?_
    refine Al_nil ?_
    refine Aw_block ?_
    refine Aw_loopk (ι := Nat) [1, 3] [] (fun i => [(6, .d (iv i)), (4, .d (tv (V.ba (pA ++ (c.owners.take i).flatMap fun x => V.num x.toNat))))]) (fun i => []) (fun i => i ≤ c.ranges.length) (fun i => c.ranges.length - i) (0) (Nat.zero_le _) ⟨Sub.rfl, Sub.str (by simp), trivial⟩ trivial ?_
    rintro i hk1
    refine Aw_seq ?_
    refine Aw_seq ?_
    refine Aw_region ?_
    refine Al_pu (Pu_move (.inl rfl) (by conv => lhs; whnf)) rfl rfl (by decide) (by kernel_rfl) ?_
    refine Al_pu (Pu_move (.inl rfl) (by conv => lhs; whnf)) rfl rfl (by decide) (by kernel_rfl) ?_
    refine Al_pu (Pu_cmp rfl rfl rfl rfl) rfl rfl (by decide) (by kernel_rfl) ?_
    refine Al_nil ?_
    refine Aw_cond rfl (fun h31 => ?_) (fun h31 => ?_)
    · (try simp only [decide_eq_true_eq, decide_eq_false_iff_not, Bool.and_eq_true, Bool.or_eq_true, Bool.and_eq_false_iff, Bool.or_eq_false_iff, Bool.not_eq_true', Bool.not_eq_false', beq_iff_eq, Bool.not_eq_eq_eq_not, Bool.not_true, Bool.not_false, List.length_map, Bool.and_true, Bool.and_false, Bool.false_and, Bool.true_and, Bool.or_false, Bool.false_or] at h31)
      have hi : i < c.owners.length := by omega
      have o1 := hx _ (List.getElem_mem hi)
      have o2 := V.num_len64 (n := c.owners[i].toNat) (by omega)
      have o3 := S.flat_le (fun x : Int => V.num x.toNat) 10 (c.owners.take i) (fun x hxm => by
        have := hx x (List.mem_of_mem_take hxm)
        exact V.num_len64 (by omega))
      rw [List.length_take] at o3
      refine Aw_skip ?_
      refine Aw_seq ?_
      refine Aw_block ?_
      refine Aw_region ?_
      refine Al_pu (Pu_move (.inl rfl) (by conv => lhs; whnf)) rfl rfl (by decide) (by kernel_rfl) ?_
      refine Al_pu (Pu_field 1 rfl Try.underlying28 rfl rfl Try.sizeOf26 rfl) rfl rfl (by decide) (by kernel_rfl) ?_
      refine Al_pu (Pu_load1 rfl Try.isAgg26 rfl rfl) rfl rfl (by decide) (by kernel_rfl) ?_
      refine Al_pu (Pu_move (.inl rfl) (by conv => lhs; whnf)) rfl rfl (by decide) (by kernel_rfl) ?_
      refine Al_pu (Pu_index rfl Try.underlying26 Try.sizeOf3 rfl rfl (rfl) (mapget hi)) rfl rfl (by decide) (by kernel_rfl) ?_
      refine Al_pu (Pu_load1 rfl Try.isAgg3 rfl rfl) rfl rfl (by decide) (by kernel_rfl) ?_
      refine Al_pu (Pu_conv rfl Try.underlying3 Try.underlying63 rfl (fun hv => u64_nat (by omega) (by simp only [vok, A.inI] at hv; omega))) rfl rfl (by decide) (by kernel_rfl) ?_
      refine Al_pu (Pu_call (rnumber_az _ (by omega) (by omega)) rfl ⟨Sub.rfl, trivial⟩) rfl rfl (by decide) (by kernel_rfl) ?_
      refine Al_pu (Pu_catB rfl rfl rfl (by simp only [A.ba_sz, List.length_append, A.maxI]; omega)) rfl rfl (by decide) (by kernel_rfl) ?_
      refine Al_pu (Pu_move (.inr rfl) (by conv => lhs; whnf)) rfl rfl (by decide) (by kernel_rfl) ?_
      refine Al_nil ?_
      refine Aw_region ?_
      refine Al_pu (Pu_move (.inl rfl) (by conv => lhs; whnf)) rfl rfl (by decide) (by kernel_rfl) ?_
      refine Al_pu (Pu_add rfl rfl rfl (fun h1 h2 => by simp only [A.inI, A.maxI] at *; omega)) rfl rfl (by decide) (by kernel_rfl) ?_
      refine Al_pu (Pu_move (.inr rfl) (by conv => lhs; whnf)) rfl rfl (by decide) (by kernel_rfl) ?_
      refine Al_nil ?_
      exact ⟨i + 1, by omega, by omega, Le.ov ⟨Sub.num (by omega), Sub.str (by rw [S.flat_snoc _ hi, List.append_assoc]), trivial⟩ ⟨Sub.rfl, Sub.rfl, trivial⟩ trivial trivial⟩ -- loop 1 next.0
    · (try simp only [decide_eq_true_eq, decide_eq_false_iff_not, Bool.and_eq_true, Bool.or_eq_true, Bool.and_eq_false_iff, Bool.or_eq_false_iff, Bool.not_eq_true', Bool.not_eq_false', beq_iff_eq, Bool.not_eq_eq_eq_not, Bool.not_true, Bool.not_false, List.length_map, Bool.and_true, Bool.and_false, Bool.false_and, Bool.true_and, Bool.or_false, Bool.false_or] at h31)
      have hi : c.owners.take i = c.owners := List.take_of_length_le (by omega)
      rw [hi]
      obtain ⟨pB, hpB⟩ : ∃ pB, pB = pA ++ c.owners.flatMap fun x => V.num x.toNat := ⟨_, rfl⟩
      have hpBl : pB.length ≤ 11000 := by
        have := S.flat_le (fun x : Int => V.num x.toNat) 10 c.owners (fun x hxm => by
          have := hx x hxm
          exact V.num_len64 (by omega))
        rw [hpB, List.length_append]; omega
      rw [← hpB]
      refine Aw_exit ?_
      refine Aw_seq ?_
      refine Aw_region ?_
      refine Al_pu (Pu_move (.inl rfl) (by conv => lhs; whnf)) rfl rfl (by decide) (by kernel_rfl) ?_
      refine Al_pu (Pu_field 2 rfl Try.underlying28 rfl rfl Try.sizeOf26 rfl) rfl rfl (by decide) (by kernel_rfl) ?_
      refine Al_pu (Pu_load1 rfl Try.isAgg26 rfl rfl) rfl rfl (by decide) (by kernel_rfl) ?_
      refine Al_pu (Pu_len rfl Try.underlying26 rfl (by first | exact List.length_map .. | exact rfl)) rfl rfl (by decide) (by kernel_rfl) ?_
      refine Al_pu (Pu_conv rfl Try.underlying3 Try.underlying63 rfl (fun hv => u64_nat (by omega) (by simp only [vok, A.inI] at hv; omega))) rfl rfl (by decide) (by kernel_rfl) ?_
      refine Al_pu (Pu_call (rnumber_a c.parents.length (by omega)) rfl ⟨Sub.rfl, trivial⟩) rfl rfl (by decide) (by kernel_rfl) ?_
      refine Al_pu (Pu_catB rfl rfl rfl (by simp only [A.ba_sz, List.length_append, A.maxI]; omega)) rfl rfl (by decide) (by kernel_rfl) ?_
      refine Al_pu (Pu_move (.inr rfl) (by conv => lhs; whnf)) rfl rfl (by decide) (by kernel_rfl) ?_
      refine Al_nil ?_
      refine Aw_seq ?_
      refine Aw_seq ?_
      refine Aw_region ?_
      refine Al_pu (Pu_move (.inr rfl) (by conv => lhs; whnf)) rfl rfl (by decide) (by kernel_rfl) ?_
      refine Al_nil ?_
      refine Aw_block ?_
      refine Aw_loopk (ι := Nat) [1] [] (fun j => [(7, .d (iv j)), (4, .d (tv (V.ba (pB ++ V.num c.parents.length ++ (c.parents.take j).flatMap fun p => V.num (p + 1).toNat))))]) (fun j => []) (fun j => j ≤ c.parents.length) (fun j => c.parents.length - j) (0) (Nat.zero_le _) ⟨Sub.rfl, Sub.str (by simp), trivial⟩ trivial ?_
      rintro j hk2
      refine Aw_seq ?_
      refine Aw_seq ?_
      refine Aw_region ?_
      refine Al_pu (Pu_move (.inl rfl) (by conv => lhs; whnf)) rfl rfl (by decide) (by kernel_rfl) ?_
      refine Al_pu (Pu_field 2 rfl Try.underlying28 rfl rfl Try.sizeOf26 rfl) rfl rfl (by decide) (by kernel_rfl) ?_
      refine Al_pu (Pu_load1 rfl Try.isAgg26 rfl rfl) rfl rfl (by decide) (by kernel_rfl) ?_
      refine Al_pu (Pu_len rfl Try.underlying26 rfl (by first | exact List.length_map .. | exact rfl)) rfl rfl (by decide) (by kernel_rfl) ?_
      refine Al_pu (Pu_cmp rfl rfl rfl rfl) rfl rfl (by decide) (by kernel_rfl) ?_
      refine Al_nil ?_
      refine Aw_cond rfl (fun h54 => ?_) (fun h54 => ?_)
      · (try simp only [decide_eq_true_eq, decide_eq_false_iff_not, Bool.and_eq_true, Bool.or_eq_true, Bool.and_eq_false_iff, Bool.or_eq_false_iff, Bool.not_eq_true', Bool.not_eq_false', beq_iff_eq, Bool.not_eq_eq_eq_not, Bool.not_true, Bool.not_false, List.length_map, Bool.and_true, Bool.and_false, Bool.false_and, Bool.true_and, Bool.or_false, Bool.false_or] at h54)
        have hj : j < c.parents.length := by omega
        have o1 := hp _ (List.getElem_mem hj)
        have o2 := V.num_len64 (n := (c.parents[j] + 1).toNat) (by omega)
        have o3 := S.flat_le (fun p : Int => V.num (p + 1).toNat) 10 (c.parents.take j) (fun x hxm => by
          have := hp x (List.mem_of_mem_take hxm)
          exact V.num_len64 (by omega))
        rw [List.length_take] at o3
        refine Aw_skip ?_
        refine Aw_seq ?_
        refine Aw_block ?_
        refine Aw_region ?_
        refine Al_pu (Pu_move (.inl rfl) (by conv => lhs; whnf)) rfl rfl (by decide) (by kernel_rfl) ?_
        refine Al_pu (Pu_field 2 rfl Try.underlying28 rfl rfl Try.sizeOf26 rfl) rfl rfl (by decide) (by kernel_rfl) ?_
        refine Al_pu (Pu_load1 rfl Try.isAgg26 rfl rfl) rfl rfl (by decide) (by kernel_rfl) ?_
        refine Al_pu (Pu_move (.inl rfl) (by conv => lhs; whnf)) rfl rfl (by decide) (by kernel_rfl) ?_
        refine Al_pu (Pu_index rfl Try.underlying26 Try.sizeOf3 rfl rfl (rfl) (mapget hj)) rfl rfl (by decide) (by kernel_rfl) ?_
        refine Al_pu (Pu_load1 rfl Try.isAgg3 rfl rfl) rfl rfl (by decide) (by kernel_rfl) ?_
        refine Al_pu (Pu_add rfl rfl rfl (fun h1 h2 => by simp only [A.inI, A.maxI] at *; omega)) rfl rfl (by decide) (by kernel_rfl) ?_
        refine Al_pu (Pu_conv rfl Try.underlying3 Try.underlying63 rfl (fun hv => u64_nat (by omega) (by simp only [vok, A.inI] at hv; omega))) rfl rfl (by decide) (by kernel_rfl) ?_
        refine Al_pu (Pu_call (rnumber_az _ (by omega) (by omega)) rfl ⟨Sub.rfl, trivial⟩) rfl rfl (by decide) (by kernel_rfl) ?_
        refine Al_pu (Pu_catB rfl rfl rfl (by simp only [A.ba_sz, List.length_append, A.maxI]; omega)) rfl rfl (by decide) (by kernel_rfl) ?_
        refine Al_pu (Pu_move (.inr rfl) (by conv => lhs; whnf)) rfl rfl (by decide) (by kernel_rfl) ?_
        refine Al_nil ?_
        refine Aw_region ?_
        refine Al_pu (Pu_move (.inl rfl) (by conv => lhs; whnf)) rfl rfl (by decide) (by kernel_rfl) ?_
        refine Al_pu (Pu_add rfl rfl rfl (fun h1 h2 => by simp only [A.inI, A.maxI] at *; omega)) rfl rfl (by decide) (by kernel_rfl) ?_
        refine Al_pu (Pu_move (.inr rfl) (by conv => lhs; whnf)) rfl rfl (by decide) (by kernel_rfl) ?_
        refine Al_nil ?_
        exact ⟨j + 1, by omega, by omega, Le.ov ⟨Sub.num (by omega), Sub.str (by rw [S.flat_snoc _ hj, List.append_assoc]), trivial⟩ ⟨Sub.rfl, trivial⟩ trivial trivial⟩ -- loop 2 next.0
      · (try simp only [decide_eq_true_eq, decide_eq_false_iff_not, Bool.and_eq_true, Bool.or_eq_true, Bool.and_eq_false_iff, Bool.or_eq_false_iff, Bool.not_eq_true', Bool.not_eq_false', beq_iff_eq, Bool.not_eq_eq_eq_not, Bool.not_true, Bool.not_false, List.length_map, Bool.and_true, Bool.and_false, Bool.false_and, Bool.true_and, Bool.or_false, Bool.false_or] at h54)
        have hj : c.parents.take j = c.parents := List.take_of_length_le (by omega)
        refine Aw_exit ?_
        refine Aw_seq ?_
        refine Aw_region ?_
        refine Al_pu (Pu_move (.inl rfl) (by conv => lhs; whnf)) rfl rfl (by decide) (by kernel_rfl) ?_
        refine Al_pu (Pu_move (.inr rfl) (by conv => lhs; whnf)) rfl rfl (by decide) (by kernel_rfl) ?_
        refine Al_nil ?_
        refine Aw_ret ?_
        exact Sub.str (by rw [hj, hpB, hpA]; rfl) -- ret 0
end Go.Proofs.Ytocgnmklgklfnaa

set_option linter.unusedSimpArgs false
set_option linter.unusedVariables false
namespace Go.Proofs.Ytocgnmklgklfnaa
open Go.RowKit A R
theorem join_a (ns : List Nat) (hl : ns.length ≤ 1000) : ACall Try.prog 40 [.sl 1 (ns.map fun (n : Nat) => [uv n])] (tv (V.ba (ns.flatMap V.num))) := ⟨fun _ _ => by kernel_rfl, fun M w vs hM ha => by
  obtain ⟨x, xs, rfl, h1, h2⟩ := allc ha
  obtain rfl := all0 h2
  obtain ⟨a, cap, rfl, hrow⟩ : ∃ a cap, x = .slice a ns.length cap ∧ NumRow ns a w := by
    generalize hr : (ns.map fun (n : Nat) => [uv n]) = rows at h1
    cases h1 with
    | nil n a c =>
      have : ns = [] := by simpa using hr
      subst this
      exact ⟨a, c, rfl, fun i n h => by simp at h⟩
    | sl n rows b o cap f hl hcap hn hc hrr =>
      subst hr
      refine ⟨some ⟨b, o, none⟩, cap, by simp, fun i n hi => ?_⟩
      have h0 : (ns.map fun (n : Nat) => [uv n])[i]? = some [uv n] := by rw [List.getElem?_map, hi]; rfl
      obtain ⟨_, hcell, _⟩ := hc i _ 0 (uv n) h0 rfl
      have hrep := hrr i _ 0 (uv n) h0 rfl
      obtain ⟨e1, e2⟩ := repv hrep
      refine ⟨?_, b, o, rfl, ?_⟩
      · have : (0 : Int) ≤ n ∧ (n : Int) ≤ 18446744073709551615 := e2
        omega
      · rw [e1] at hcell
        simpa using hcell
  have hall : ∀ n ∈ ns, n < 18446744073709551616 := fun n hn => by
    obtain ⟨i, hi, rfl⟩ := List.getElem_of_mem hn
    exact (hrow i _ (by simp [hi])).1
  refine (join_any a cap ns hl w hrow).mono ?_
  rintro e w' ⟨rfl, hx⟩
  refine ⟨_, rfl, hx, .v _ ?_⟩
  have := flat_len ns hall
  show (V.ba _).size ≤ maxI
  rw [A.ba_sz]
  simp only [maxI]; omega⟩
theorem S.getcut {c : SRow} {k : Nat} (hk : k < (S.cuts c).length) : (List.drop 0 (List.take (c.ranges.length - 1) (c.ranges.map Rng.row)))[k]? = some (S.cuts c)[k].row := by
  rw [List.drop_zero, ← List.map_take]
  exact mapget hk
def S.rest (c : SRow) : List Nat := c.owners.map Int.toNat ++ [c.parents.length] ++ c.parents.map fun p => (p + 1).toNat
theorem S.rest_rows {c : SRow} (hp : ∀ p ∈ c.parents, -1 ≤ p ∧ p ≤ 5) (hx : ∀ x ∈ c.owners, 1 ≤ x ∧ x ≤ 63) : (c.owners.map fun x => [uv x]) ++ [[uv c.parents.length]] ++ (c.parents.map fun p => [uv (p + 1)]) = (S.rest c).map fun (n : Nat) => [uv n] := by
  unfold S.rest
  rw [List.map_append, List.map_append, List.map_map, List.map_map]
  congr 1
  · congr 1
    exact List.map_congr_left fun x h => by
      have := hx x h
      show [uv x] = [uv (x.toNat : Int)]
      rw [Int.toNat_of_nonneg (by omega)]
  · exact List.map_congr_left fun x h => by
      have := hp x h
      show [uv (x + 1)] = [uv ((x + 1).toNat : Int)]
      rw [Int.toNat_of_nonneg (by omega)]
theorem S.rest_bytes (c : SRow) : V.num c.ranges.length ++ (S.cuts c).flatMap (fun r => V.text r.t) ++ (S.rest c).flatMap V.num = S.rowBytes c := by
  unfold S.rest S.rowBytes
  simp [List.flatMap_append, List.flatMap_map]
set_option maxRecDepth 100000 in
theorem rowbytes_a (c : SRow) (hf : S.fitRow c) : ACall Try.prog 24 [.row c.row] (tv (V.ba (if S.written c then S.rowBytes c else []))) := by
  refine ACall_enter (fun _ _ => by kernel_rfl) Try.func24 rfl Try.ntmps24 Try.results24 (Nat.le_of_ble_eq_true rfl) (fun hok M0 w0 hnl => ?_)
  refine Aw_seq ?_
  refine Aw_region ?_
  refine Al_pu (Pu_boxN rfl rfl) rfl rfl (by decide) (by kernel_rfl) ?_
  refine Al_pu (Pu_move (.inr rfl) (by conv => lhs; whnf)) rfl rfl (by decide) (by kernel_rfl) ?_
  refine Al_nil ?_
  refine Aw_seq ?_
  refine Aw_seq ?_
  refine Aw_region ?_
  refine Al_pu (Pu_loadN rfl Try.isAgg28 Try.sizeOf28 rfl (Nat.le_of_ble_eq_true rfl)) rfl rfl (by decide) (by kernel_rfl) ?_
  refine Al_pu (Pu_call (swritten_a c) rfl ⟨Sub.rfl, trivial⟩) rfl rfl (by decide) (by kernel_rfl) ?_
  refine Al_pu (Pu_not rfl rfl) rfl rfl (by decide) (by kernel_rfl) ?_
  refine Al_nil ?_
  refine Aw_cond rfl (fun h14 => ?_) (fun h14 => ?_)
  · (try simp only [decide_eq_true_eq, decide_eq_false_iff_not, Bool.and_eq_true, Bool.or_eq_true, Bool.and_eq_false_iff, Bool.or_eq_false_iff, Bool.not_eq_true', Bool.not_eq_false', beq_iff_eq, Bool.not_eq_eq_eq_not, Bool.not_true, Bool.not_false, List.length_map, Bool.and_true, Bool.and_false, Bool.false_and, Bool.true_and, Bool.or_false, Bool.false_or] at h14)
    have hw : S.written c = false := by simpa using h14
    refine Aw_seq ?_
    refine Aw_region ?_
    refine Al_pu (Pu_move (.inr rfl) (by conv => lhs; whnf)) rfl rfl (by decide) (by kernel_rfl) ?_
    refine Al_nil ?_
    refine Aw_ret ?_
    exact Sub.str (by rw [hw]; rfl) -- ret 0
  · (try simp only [decide_eq_true_eq, decide_eq_false_iff_not, Bool.and_eq_true, Bool.or_eq_true, Bool.and_eq_false_iff, Bool.or_eq_false_iff, Bool.not_eq_true', Bool.not_eq_false', beq_iff_eq, Bool.not_eq_eq_eq_not, Bool.not_true, Bool.not_false, List.length_map, Bool.and_true, Bool.and_false, Bool.false_and, Bool.true_and, Bool.or_false, Bool.false_or] at h14)
    have hw : S.written c = true := by simpa using h14
    rw [hw]
    obtain ⟨hs, hp, hx⟩ := S.written_facts hw
    obtain ⟨n1, n2, n3, n4, n5⟩ := S.shape_facts hs
    have n6 : 1 ≤ c.ranges.length := by
      unfold whole at n5
      cases hc : c.ranges with
      | nil => rw [hc] at n5; cases n5
      | cons r l => simp
    have b1 := V.num_len64 (n := c.ranges.length) (by omega)
    refine Aw_skip ?_
    refine Aw_seq ?_
    refine Aw_region ?_
    refine Al_pu (Pu_field 0 rfl Try.underlying28 rfl rfl Try.sizeOf25 rfl) rfl rfl (by decide) (by kernel_rfl) ?_
    refine Al_pu (Pu_load1 rfl Try.isAgg25 rfl rfl) rfl rfl (by decide) (by kernel_rfl) ?_
    refine Al_pu (Pu_len rfl Try.underlying25 rfl (by first | exact List.length_map .. | exact rfl)) rfl rfl (by decide) (by kernel_rfl) ?_
    refine Al_pu (Pu_move (.inr rfl) (by conv => lhs; whnf)) rfl rfl (by decide) (by kernel_rfl) ?_
    refine Al_nil ?_
    refine Aw_seq ?_
    refine Aw_region ?_
    refine Al_alloc rfl rfl rfl (by decide) Try.zeroValue57 rfl (by kernel_rfl) (fun g4 => ?_)
    refine Al_nil ?_
    refine Aw_seq ?_
    refine Aw_ownc (k := 4) (k2 := 40) (e := 5) (n := 1) rfl rfl (fun g40 => ?_)
    refine Aw_region ?_
    refine Al_pu (Pu_move (.inl rfl) (by conv => lhs; whnf)) rfl rfl (by decide) (by kernel_rfl) ?_
    refine Al_pu (Pu_conv rfl Try.underlying3 Try.underlying63 rfl (fun hv => u64_nat (by omega) (by simp only [vok, A.inI] at hv; omega))) rfl rfl (by decide) (by kernel_rfl) ?_
    refine Al_pu (Pu_call (number_a c.ranges.length (by omega)) rfl ⟨Sub.rfl, trivial⟩) rfl rfl (by decide) (by kernel_rfl) ?_
    refine Al_bwrite (k := 4) (k2 := 40) (bs := []) rfl rfl rfl (by decide) (by kernel_rfl) rfl rfl (.inl rfl) rfl rfl rfl (by simp only [List.length_nil, A.ba_sz]; omega) (fun g21 => ?_)
    refine Al_nil ?_
    refine Aw_seq ?_
    refine Aw_seq ?_
    have hdl : (List.drop 0 (List.take (c.ranges.length - 1) (c.ranges.map Rng.row))).length = c.ranges.length - 1 := by simp
    have hcl : (S.cuts c).length = c.ranges.length - 1 := by unfold S.cuts; simp
    have hct : ∀ r ∈ S.cuts c, (V.text r.t).length ≤ 1010 := fun r hr => by
      have := (hf r (List.mem_of_mem_take hr)).2
      have := V.num_len64 (n := r.t.size) (by omega)
      simp [V.text]; omega
    refine Aw_region ?_
    refine Al_pu (Pu_field 0 rfl Try.underlying28 rfl rfl Try.sizeOf25 rfl) rfl rfl (by decide) (by kernel_rfl) ?_
    refine Al_pu (Pu_load1 rfl Try.isAgg25 rfl rfl) rfl rfl (by decide) (by kernel_rfl) ?_
    refine Al_pu (Pu_move (.inl rfl) (by conv => lhs; whnf)) rfl rfl (by decide) (by kernel_rfl) ?_
    refine Al_pu (Pu_sub rfl rfl rfl (fun h1 h2 => by simp only [A.inI, A.maxI] at *; omega)) rfl rfl (by decide) (by kernel_rfl) ?_
    refine Al_pu (Pu_subL (0) (c.ranges.length - 1) rfl Try.underlying25 Try.sizeOf46 rfl rfl ⟨_, rfl, by omega⟩ ⟨by first | omega | (simp; done) | (simp; omega), by first | omega | (simp; done) | (simp; omega)⟩) rfl rfl (by decide) (by kernel_rfl) ?_
    refine Al_pu (Pu_len rfl Try.underlying25 rfl hdl) rfl rfl (by decide) (by kernel_rfl) ?_
    refine Al_pu (Pu_move (.inl rfl) (by conv => lhs; whnf)) rfl rfl (by decide) (by kernel_rfl) ?_
    refine Al_nil ?_
    refine Aw_block ?_
    refine Aw_loopk (ι := Nat × Nat) [1, 4, 26, 27] [] (fun (k, g) => [(28, .d (iv k))]) (fun (k, g) => [(4, g4, .box 57 [.bx 4 g4 0, .ow 40 g]), (40, g, .arr 5 1 (byteA (V.num c.ranges.length ++ ((S.cuts c).take k).flatMap fun r => V.text r.t)))]) (fun (k, g) => k ≤ (c.ranges.length - 1)) (fun (k, g) => (c.ranges.length - 1) - k) ((0, g21)) (Nat.zero_le _) ⟨Sub.rfl, trivial⟩ ⟨rfl, obeq (by simp [V.ba]), trivial⟩ ?_
    rintro ⟨k, g⟩ hk0
    refine Aw_seq ?_
    refine Aw_region ?_
    refine Al_pu (Pu_cmp rfl rfl rfl rfl) rfl rfl (by decide) (by kernel_rfl) ?_
    refine Al_nil ?_
    refine Aw_seq ?_
    refine Aw_cond rfl (fun h29 => ?_) (fun h29 => ?_)
    · (try simp only [decide_eq_true_eq, decide_eq_false_iff_not, Bool.and_eq_true, Bool.or_eq_true, Bool.and_eq_false_iff, Bool.or_eq_false_iff, Bool.not_eq_true', Bool.not_eq_false', beq_iff_eq, Bool.not_eq_eq_eq_not, Bool.not_true, Bool.not_false, List.length_map, Bool.and_true, Bool.and_false, Bool.false_and, Bool.true_and, Bool.or_false, Bool.false_or] at h29)
      have hk : k < (S.cuts c).length := by omega
      have t0 := (hf _ (List.mem_of_mem_take (List.getElem_mem hk))).2
      have t1 := hct _ (List.getElem_mem hk)
      have t2 := S.flat_le (fun r : Rng => V.text r.t) 1010 ((S.cuts c).take k) (fun r hr => hct r (List.mem_of_mem_take hr))
      rw [List.length_take] at t2
      refine Aw_skip ?_
      refine Aw_seq ?_
      refine Aw_block ?_
      refine Aw_seq ?_
      refine Aw_region ?_
      refine Al_pu (Pu_index rfl Try.underlying25 Try.sizeOf46 rfl rfl (rfl) (S.getcut hk)) rfl rfl (by decide) (by kernel_rfl) ?_
      refine Al_pu (Pu_loadN rfl Try.isAgg46 Try.sizeOf46 rfl (Nat.le_of_ble_eq_true rfl)) rfl rfl (by decide) (by kernel_rfl) ?_
      refine Al_alloc rfl rfl rfl (by decide) Try.zeroValue46 rfl (by kernel_rfl) (fun g6 => ?_)
      refine Al_storeN rfl rfl rfl (by kernel_rfl) Try.isAgg46 Try.sizeOf46 rfl rfl rfl rfl (Nat.le_of_ble_eq_true rfl) ?_
      refine Al_nil ?_
      refine Aw_region ?_
      refine Al_pu (Pu_fieldb 1 rfl Try.underlying46 rfl rfl Try.sizeOf9 rfl) rfl rfl (by decide) (by kernel_rfl) ?_
      refine Al_pu (Pu_loadb rfl Try.isAgg9 rfl rfl rfl) rfl rfl (by decide) (by kernel_rfl) ?_
      refine Al_pu (Pu_call (text_a _ (by omega)) rfl ⟨Sub.rfl, trivial⟩) rfl rfl (by decide) (by kernel_rfl) ?_
      refine Al_bwrite (k := 4) (k2 := 40) (bs := V.num c.ranges.length ++ ((S.cuts c).take k).flatMap fun r => V.text r.t) rfl rfl rfl (by decide) (by kernel_rfl) rfl rfl (.inr rfl) rfl rfl rfl (by simp only [List.length_append, A.ba_sz]; omega) (fun g35 => ?_)
      refine Al_nil ?_
      refine Aw_region ?_
      refine Al_pu (Pu_add rfl rfl rfl (fun h1 h2 => by simp only [A.inI, A.maxI] at *; omega)) rfl rfl (by decide) (by kernel_rfl) ?_
      refine Al_pu (Pu_move (.inl rfl) (by conv => lhs; whnf)) rfl rfl (by decide) (by kernel_rfl) ?_
      refine Al_nil ?_
      exact ⟨(k + 1, g35), by omega, by simp only []; omega, Le.ov ⟨Sub.num (by omega), trivial⟩ ⟨Sub.rfl, Sub.rfl, Sub.rfl, Sub.rfl, trivial⟩ ⟨rfl, obeq (by rw [S.flat_snoc _ hk]; simp [V.ba]), trivial⟩ trivial⟩ -- loop 0 next.0
    · (try simp only [decide_eq_true_eq, decide_eq_false_iff_not, Bool.and_eq_true, Bool.or_eq_true, Bool.and_eq_false_iff, Bool.or_eq_false_iff, Bool.not_eq_true', Bool.not_eq_false', beq_iff_eq, Bool.not_eq_eq_eq_not, Bool.not_true, Bool.not_false, List.length_map, Bool.and_true, Bool.and_false, Bool.false_and, Bool.true_and, Bool.or_false, Bool.false_or] at h29)
      have hk : (S.cuts c).take k = S.cuts c := List.take_of_length_le (by omega)
      refine Aw_exit ?_
      refine Aw_seq ?_
      refine Aw_region ?_
      refine Al_pu (Pu_move (.inr rfl) (by conv => lhs; whnf)) rfl rfl (by decide) (by kernel_rfl) ?_
      refine Al_nil ?_
      refine Aw_seq ?_
      refine Aw_seq ?_
      refine Aw_region ?_
      refine Al_pu (Pu_field 1 rfl Try.underlying28 rfl rfl Try.sizeOf26 rfl) rfl rfl (by decide) (by kernel_rfl) ?_
      refine Al_pu (Pu_load1 rfl Try.isAgg26 rfl rfl) rfl rfl (by decide) (by kernel_rfl) ?_
      refine Al_pu (Pu_len rfl Try.underlying26 rfl (by first | exact List.length_map .. | exact rfl)) rfl rfl (by decide) (by kernel_rfl) ?_
      refine Al_pu (Pu_move (.inl rfl) (by conv => lhs; whnf)) rfl rfl (by decide) (by kernel_rfl) ?_
      refine Al_nil ?_
      refine Aw_block ?_
      refine Aw_own (j := 7) (k := 7) (T := 63) (n := 1) rfl (fun g7 => ?_)
      refine Aw_loopk (ι := Nat × Nat) [1, 4, 38, 39] [4, 40] (fun (i, h) => [(40, .d (iv i)), (7, .ow 7 h)]) (fun (i, h) => [(7, h, .arr 63 1 ((c.owners.take i).map fun x => [uv x]))]) (fun (i, h) => i ≤ c.owners.length) (fun (i, h) => c.owners.length - i) ((0, g7)) (Nat.zero_le _) ⟨Sub.rfl, Sub.rfl, trivial⟩ ⟨rfl, trivial⟩ ?_
      rintro ⟨i, h⟩ hk1
      refine Aw_seq ?_
      refine Aw_region ?_
      refine Al_pu (Pu_cmp rfl rfl rfl rfl) rfl rfl (by decide) (by kernel_rfl) ?_
      refine Al_nil ?_
      refine Aw_seq ?_
      refine Aw_cond rfl (fun h41 => ?_) (fun h41 => ?_)
      · (try simp only [decide_eq_true_eq, decide_eq_false_iff_not, Bool.and_eq_true, Bool.or_eq_true, Bool.and_eq_false_iff, Bool.or_eq_false_iff, Bool.not_eq_true', Bool.not_eq_false', beq_iff_eq, Bool.not_eq_eq_eq_not, Bool.not_true, Bool.not_false, List.length_map, Bool.and_true, Bool.and_false, Bool.false_and, Bool.true_and, Bool.or_false, Bool.false_or] at h41)
        have hi : i < c.owners.length := by omega
        have o1 := hx _ (List.getElem_mem hi)
        refine Aw_skip ?_
        refine Aw_seq ?_
        refine Aw_block ?_
        refine Aw_seq ?_
        refine Aw_region ?_
        refine Al_pu (Pu_index rfl Try.underlying26 Try.sizeOf3 rfl rfl (rfl) (mapget hi)) rfl rfl (by decide) (by kernel_rfl) ?_
        refine Al_pu (Pu_load1 rfl Try.isAgg3 rfl rfl) rfl rfl (by decide) (by kernel_rfl) ?_
        refine Al_pu (Pu_move (.inr rfl) (by conv => lhs; whnf)) rfl rfl (by decide) (by kernel_rfl) ?_
        refine Al_nil ?_
        refine Aw_region ?_
        refine Al_pu (Pu_move (.inl rfl) (by conv => lhs; whnf)) rfl rfl (by decide) (by kernel_rfl) ?_
        refine Al_pu (Pu_move (.inl rfl) (by conv => lhs; whnf)) rfl rfl (by decide) (by kernel_rfl) ?_
        refine Al_pu (Pu_conv rfl Try.underlying3 Try.underlying63 rfl (fun hv => u64_nat (by omega) (by simp only [vok, A.inI] at hv; omega))) rfl rfl (by decide) (by kernel_rfl) ?_
        refine Al_pu (Pu_slice1 rfl Try.underlying79 Try.sizeOf63 Try.zeroValue63 rfl (by decide) (by decide) (by kernel_rfl) rfl rfl rfl) rfl rfl (by decide) (by kernel_rfl) ?_
        refine Al_append rfl rfl rfl (by decide) (by kernel_rfl) elem79 (by decide) Try.sizeOf63 rfl rfl rfl (by simp; omega) (by decide) (fun g48 => ?_)
        refine Al_pu (Pu_move (.inr rfl) (by conv => lhs; whnf)) rfl rfl (by decide) (by kernel_rfl) ?_
        refine Al_nil ?_
        refine Aw_region ?_
        refine Al_pu (Pu_add rfl rfl rfl (fun h1 h2 => by simp only [A.inI, A.maxI] at *; omega)) rfl rfl (by decide) (by kernel_rfl) ?_
        refine Al_pu (Pu_move (.inl rfl) (by conv => lhs; whnf)) rfl rfl (by decide) (by kernel_rfl) ?_
        refine Al_nil ?_
        exact ⟨(i + 1, g48), by omega, by simp only []; omega, Le.ov ⟨Sub.num (by omega), Sub.rfl, trivial⟩ ⟨Sub.rfl, Sub.rfl, Sub.rfl, Sub.rfl, trivial⟩ ⟨obeq (by rw [List.take_succ_eq_append_getElem hi, List.map_append]; rfl), trivial⟩ ⟨rfl, rfl, trivial⟩⟩ -- loop 1 next.0
      · (try simp only [decide_eq_true_eq, decide_eq_false_iff_not, Bool.and_eq_true, Bool.or_eq_true, Bool.and_eq_false_iff, Bool.or_eq_false_iff, Bool.not_eq_true', Bool.not_eq_false', beq_iff_eq, Bool.not_eq_eq_eq_not, Bool.not_true, Bool.not_false, List.length_map, Bool.and_true, Bool.and_false, Bool.false_and, Bool.true_and, Bool.or_false, Bool.false_or] at h41)
        obtain rfl : i = c.owners.length := by omega
        refine Aw_exit ?_
        refine Aw_seq ?_
        refine Aw_region ?_
        refine Al_pu (Pu_move (.inl rfl) (by conv => lhs; whnf)) rfl rfl (by decide) (by kernel_rfl) ?_
        refine Al_pu (Pu_field 2 rfl Try.underlying28 rfl rfl Try.sizeOf26 rfl) rfl rfl (by decide) (by kernel_rfl) ?_
        refine Al_pu (Pu_load1 rfl Try.isAgg26 rfl rfl) rfl rfl (by decide) (by kernel_rfl) ?_
        refine Al_pu (Pu_len rfl Try.underlying26 rfl (by first | exact List.length_map .. | exact rfl)) rfl rfl (by decide) (by kernel_rfl) ?_
        refine Al_pu (Pu_conv rfl Try.underlying3 Try.underlying63 rfl (fun hv => u64_nat (by omega) (by simp only [vok, A.inI] at hv; omega))) rfl rfl (by decide) (by kernel_rfl) ?_
        refine Al_pu (Pu_slice1 rfl Try.underlying79 Try.sizeOf63 Try.zeroValue63 rfl (by decide) (by decide) (by kernel_rfl) rfl rfl rfl) rfl rfl (by decide) (by kernel_rfl) ?_
        refine Al_append rfl rfl rfl (by decide) (by kernel_rfl) elem79 (by decide) Try.sizeOf63 rfl rfl rfl (by simp; omega) (by decide) (fun g56 => ?_)
        refine Al_pu (Pu_move (.inr rfl) (by conv => lhs; whnf)) rfl rfl (by decide) (by kernel_rfl) ?_
        refine Al_nil ?_
        refine Aw_seq ?_
        refine Aw_seq ?_
        refine Aw_region ?_
        refine Al_pu (Pu_field 2 rfl Try.underlying28 rfl rfl Try.sizeOf26 rfl) rfl rfl (by decide) (by kernel_rfl) ?_
        refine Al_pu (Pu_load1 rfl Try.isAgg26 rfl rfl) rfl rfl (by decide) (by kernel_rfl) ?_
        refine Al_pu (Pu_len rfl Try.underlying26 rfl (by first | exact List.length_map .. | exact rfl)) rfl rfl (by decide) (by kernel_rfl) ?_
        refine Al_pu (Pu_move (.inl rfl) (by conv => lhs; whnf)) rfl rfl (by decide) (by kernel_rfl) ?_
        refine Al_nil ?_
        refine Aw_block ?_
        refine Aw_loopk (ι := Nat × Nat) [4, 58, 59] [4, 40] (fun (j, h) => [(60, .d (iv j)), (7, .ow 7 h)]) (fun (j, h) => [(7, h, .arr 63 1 ((c.owners.map fun x => [uv x]) ++ [[uv c.parents.length]] ++ ((c.parents.take j).map fun p => [uv (p + 1)])))]) (fun (j, h) => j ≤ c.parents.length) (fun (j, h) => c.parents.length - j) ((0, g56)) (Nat.zero_le _) ⟨Sub.rfl, Sub.rfl, trivial⟩ ⟨obeq (by rw [List.take_length]; simp [A.cellsA]), trivial⟩ ?_
        rintro ⟨j, h⟩ hk2
        refine Aw_seq ?_
        refine Aw_region ?_
        refine Al_pu (Pu_cmp rfl rfl rfl rfl) rfl rfl (by decide) (by kernel_rfl) ?_
        refine Al_nil ?_
        refine Aw_seq ?_
        refine Aw_cond rfl (fun h61 => ?_) (fun h61 => ?_)
        · (try simp only [decide_eq_true_eq, decide_eq_false_iff_not, Bool.and_eq_true, Bool.or_eq_true, Bool.and_eq_false_iff, Bool.or_eq_false_iff, Bool.not_eq_true', Bool.not_eq_false', beq_iff_eq, Bool.not_eq_eq_eq_not, Bool.not_true, Bool.not_false, List.length_map, Bool.and_true, Bool.and_false, Bool.false_and, Bool.true_and, Bool.or_false, Bool.false_or] at h61)
          have hj : j < c.parents.length := by omega
          have o1 := hp _ (List.getElem_mem hj)
          refine Aw_skip ?_
          refine Aw_seq ?_
          refine Aw_block ?_
          refine Aw_seq ?_
          refine Aw_region ?_
          refine Al_pu (Pu_index rfl Try.underlying26 Try.sizeOf3 rfl rfl (rfl) (mapget hj)) rfl rfl (by decide) (by kernel_rfl) ?_
          refine Al_pu (Pu_load1 rfl Try.isAgg3 rfl rfl) rfl rfl (by decide) (by kernel_rfl) ?_
          refine Al_pu (Pu_move (.inr rfl) (by conv => lhs; whnf)) rfl rfl (by decide) (by kernel_rfl) ?_
          refine Al_nil ?_
          refine Aw_region ?_
          refine Al_pu (Pu_move (.inl rfl) (by conv => lhs; whnf)) rfl rfl (by decide) (by kernel_rfl) ?_
          refine Al_pu (Pu_move (.inl rfl) (by conv => lhs; whnf)) rfl rfl (by decide) (by kernel_rfl) ?_
          refine Al_pu (Pu_add rfl rfl rfl (fun h1 h2 => by simp only [A.inI, A.maxI] at *; omega)) rfl rfl (by decide) (by kernel_rfl) ?_
          refine Al_pu (Pu_conv rfl Try.underlying3 Try.underlying63 rfl (fun hv => u64_nat (by omega) (by simp only [vok, A.inI] at hv; omega))) rfl rfl (by decide) (by kernel_rfl) ?_
          refine Al_pu (Pu_slice1 rfl Try.underlying79 Try.sizeOf63 Try.zeroValue63 rfl (by decide) (by decide) (by kernel_rfl) rfl rfl rfl) rfl rfl (by decide) (by kernel_rfl) ?_
          refine Al_append rfl rfl rfl (by decide) (by kernel_rfl) elem79 (by decide) Try.sizeOf63 rfl rfl rfl (by simp; omega) (by decide) (fun g69 => ?_)
          refine Al_pu (Pu_move (.inr rfl) (by conv => lhs; whnf)) rfl rfl (by decide) (by kernel_rfl) ?_
          refine Al_nil ?_
          refine Aw_region ?_
          refine Al_pu (Pu_add rfl rfl rfl (fun h1 h2 => by simp only [A.inI, A.maxI] at *; omega)) rfl rfl (by decide) (by kernel_rfl) ?_
          refine Al_pu (Pu_move (.inl rfl) (by conv => lhs; whnf)) rfl rfl (by decide) (by kernel_rfl) ?_
          refine Al_nil ?_
          exact ⟨(j + 1, g69), by omega, by simp only []; omega, Le.ov ⟨Sub.num (by omega), Sub.rfl, trivial⟩ ⟨Sub.rfl, Sub.rfl, Sub.rfl, trivial⟩ ⟨obeq (by rw [List.take_succ_eq_append_getElem hj, List.map_append]; simp [A.cellsA]), trivial⟩ ⟨rfl, rfl, trivial⟩⟩ -- loop 2 next.0
        · (try simp only [decide_eq_true_eq, decide_eq_false_iff_not, Bool.and_eq_true, Bool.or_eq_true, Bool.and_eq_false_iff, Bool.or_eq_false_iff, Bool.not_eq_true', Bool.not_eq_false', beq_iff_eq, Bool.not_eq_eq_eq_not, Bool.not_true, Bool.not_false, List.length_map, Bool.and_true, Bool.and_false, Bool.false_and, Bool.true_and, Bool.or_false, Bool.false_or] at h61)
          have hj : c.parents.take j = c.parents := List.take_of_length_le (by omega)
          have hrr := S.rest_rows hp hx
          have hrl : (S.rest c).length ≤ 20 := by unfold S.rest; simp; omega
          have q1 := S.flat_le (fun r : Rng => V.text r.t) 1010 ((S.cuts c).take k) (fun r hr => hct r (List.mem_of_mem_take hr))
          rw [hk] at q1
          have q2 := S.flat_le V.num 10 (S.rest c) (fun n hn => V.num_len64 (by
            unfold S.rest at hn
            rcases List.mem_append.1 hn with hn | hn
            · rcases List.mem_append.1 hn with hn | hn
              · obtain ⟨x, hx1, rfl⟩ := List.mem_map.1 hn
                have := hx x hx1
                omega
              · simp at hn; omega
            · obtain ⟨x, hx1, rfl⟩ := List.mem_map.1 hn
              have := hp x hx1
              omega))
          have q3 : (List.flatMap (fun r : Rng => V.text r.t) ((S.cuts c).take k)).length = (List.flatMap (fun r : Rng => V.text r.t) (S.cuts c)).length := by rw [hk]
          refine Aw_exit ?_
          refine Aw_seq ?_
          refine Aw_frz hnl (k := 7) [7] rfl ⟨rfl, trivial⟩ ?_
          refine Aw_region ?_
          refine Al_bstring (k := 4) (k2 := 40) (bs := V.num c.ranges.length ++ ((S.cuts c).take k).flatMap fun r => V.text r.t) rfl rfl rfl (by decide) (by kernel_rfl) rfl rfl (.inr rfl) rfl rfl (by have := V.num_pos c.ranges.length; intro h; rw [← List.length_eq_zero_iff, List.length_append] at h; omega) ?_
          refine Al_pu (Pu_move (.inl rfl) (by conv => lhs; whnf)) rfl rfl (by decide) (by kernel_rfl) ?_
          refine Al_pu (Pu_call (join_a (S.rest c) (by omega)) rfl ⟨Sub.d (by rw [← hrr, hj]), trivial⟩) rfl rfl (by decide) (by kernel_rfl) ?_
          refine Al_pu (Pu_catB rfl rfl rfl (by simp only [List.length_append, A.maxI]; omega)) rfl rfl (by decide) (by kernel_rfl) ?_
          refine Al_pu (Pu_move (.inr rfl) (by conv => lhs; whnf)) rfl rfl (by decide) (by kernel_rfl) ?_
          refine Al_nil ?_
          refine Aw_ret ?_
          exact Sub.str (by rw [if_pos rfl, hk, S.rest_bytes]) -- ret 1
end Go.Proofs.Ytocgnmklgklfnaa
