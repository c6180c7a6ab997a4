/- EpochOne, EpochParts, EpochBack, EpochGains: the walks. -/
import Derived.Test.YtfalbocgnmlncaaEQp
import Derived.Test.YtfalbocgnmlncaaEAw
set_option linter.unusedSimpArgs false
set_option linter.unusedVariables false
namespace Go.Proofs.Ytfalbocgnmlncaa
open Go.RowKit A R
open A.RowT
set_option maxRecDepth 100000 in
theorem rhas_r (r : Rng) (key : ByteArray) : ACall Try.prog 11 [.row r.row, tv key] (bv (hasR key r)) := by
  refine ACall_enter (fun _ _ => by kernel_rfl) Try.func11 rfl Try.ntmps11 Try.results11 (Nat.le_of_ble_eq_true rfl) (fun hok M0 w0 hnl => ?_)
  refine Aw_seq ?_
  refine Aw_region ?_
  refine Al_pu (Pu_boxN rfl rfl) rfl rfl (by decide) (by kernel_rfl) ?_
  refine Al_pu (Pu_move (.inr rfl) (by conv => lhs; whnf)) rfl rfl (by decide) (by kernel_rfl) ?_
  refine Al_nil ?_
  refine Aw_seq ?_
  refine Aw_region ?_
  refine Al_pu (Pu_move (.inl rfl) (by conv => lhs; whnf)) rfl rfl (by decide) (by kernel_rfl) ?_
  refine Al_pu (Pu_field 0 rfl Try.underlying35 rfl rfl Try.sizeOf9 rfl) rfl rfl (by decide) (by kernel_rfl) ?_
  refine Al_pu (Pu_load1 rfl Try.isAgg9 rfl rfl) rfl rfl (by decide) (by kernel_rfl) ?_
  refine Al_pu (Pu_str rfl rfl rfl rfl) rfl rfl (by decide) (by kernel_rfl) ?_
  refine Al_pu (Pu_move (.inl rfl) (by conv => lhs; whnf)) rfl rfl (by decide) (by kernel_rfl) ?_
  refine Al_st (St_gd [] rfl rfl rfl rfl trivial (fun hg10 => Pu_field 1 rfl Try.underlying35 rfl rfl Try.sizeOf9 rfl)) rfl (by decide) (by kernel_rfl) (by intro j b oj dj h1 h2 h3; cases h1; cases h2; cases h3; decide) ?_
  refine Al_st (St_gd [10] rfl rfl rfl rfl ⟨⟨_, rfl⟩, trivial⟩ (fun hg11 => Pu_load1 rfl Try.isAgg9 rfl rfl)) rfl (by decide) (by kernel_rfl) (by intro j b oj dj h1 h2 h3; cases h1; cases h2; cases h3; decide) ?_
  refine Al_st (St_gd [11] rfl rfl rfl rfl ⟨⟨_, rfl⟩, trivial⟩ (fun hg12 => Pu_str rfl rfl rfl rfl)) rfl (by decide) (by kernel_rfl) (by intro j b oj dj h1 h2 h3; cases h1; cases h2; cases h3; decide) ?_
  refine Al_st (St_gd [12] rfl rfl rfl rfl ⟨⟨_, rfl⟩, trivial⟩ (fun hg13 => by exact Pu_move (.inl rfl) (by conv => lhs; whnf))) rfl (by decide) (by kernel_rfl) (by intro j b oj dj h1 h2 h3; cases h1; cases h2; cases h3; decide) ?_
  refine Al_st (St_gd2 [] rfl rfl rfl rfl trivial (fun hp14 hg14 => by exact Pu_move (.inl rfl) (by conv => lhs; whnf))) rfl (by decide) (by kernel_rfl) (by intro j b oj dj h1 h2 h3; cases h1; cases h2; cases h3; decide) ?_
  refine Al_st (St_gd2 [] rfl rfl rfl rfl trivial (fun hp15 hg15 => Pu_field 1 rfl Try.underlying35 rfl rfl Try.sizeOf9 rfl)) rfl (by decide) (by kernel_rfl) (by intro j b oj dj h1 h2 h3; cases h1; cases h2; cases h3; decide) ?_
  refine Al_st (St_gd2 [15] rfl rfl rfl rfl ⟨⟨_, rfl⟩, trivial⟩ (fun hp16 hg16 => Pu_load1 rfl Try.isAgg9 rfl rfl)) rfl (by decide) (by kernel_rfl) (by intro j b oj dj h1 h2 h3; cases h1; cases h2; cases h3; decide) ?_
  refine Al_st (St_gd2 [14, 16] rfl rfl rfl rfl ⟨⟨_, rfl⟩, ⟨_, rfl⟩, trivial⟩ (fun hp17 hg17 => Pu_str rfl rfl rfl rfl)) rfl (by decide) (by kernel_rfl) (by intro j b oj dj h1 h2 h3; cases h1; cases h2; cases h3; decide) ?_
  refine Al_st (St_gd [13] rfl rfl rfl rfl ⟨⟨_, rfl⟩, trivial⟩ (fun hg18 => Pu_orG rfl rfl rfl (fun h => ⟨hg18, h⟩) rfl)) rfl (by decide) (by kernel_rfl) (by intro j b oj dj h1 h2 h3; cases h1; cases h2; cases h3; decide) ?_
  refine Al_pu (Pu_and rfl rfl rfl rfl) rfl rfl (by decide) (by kernel_rfl) ?_
  refine Al_pu (Pu_move (.inr rfl) (by conv => lhs; whnf)) rfl rfl (by decide) (by kernel_rfl) ?_
  refine Al_nil ?_
  refine Aw_ret ?_
  exact Sub.bool (by unfold hasR K.hasB; rw [A.nil_empty]) -- ret 0
theorem whole_av (l : List Rng) : ACall Try.prog 16 [.sl 2 (l.map Rng.row)] (bv (whole l)) := rwhole_a l
theorem T.mine_take {l : List Mv} {key : ByteArray} {s : Int} {i : Nat} (hi : i < l.length) : (l.take (i + 1)).countP (T.mine key s) = (l.take i).countP (T.mine key s) + if T.mine key s l[i] then 1 else 0 := by
  rw [List.take_succ_eq_append_getElem hi, List.countP_append, T.countP_bool]
theorem T.mine_le (l : List Mv) (key : ByteArray) (s : Int) (i : Nat) : (l.take i).countP (T.mine key s) ≤ l.length := by
  have := List.countP_le_length (p := T.mine key s) (l := l.take i)
  rw [List.length_take] at this
  omega
set_option maxRecDepth 100000 in
set_option maxHeartbeats 1000000 in
theorem eone_law (q : ESpec) (key : ByteArray) : ACall Try.prog 3 [.row q.row, tv key] (bv true) := by
  refine ACall_enter (fun _ _ => by kernel_rfl) Try.func3 rfl Try.ntmps3 Try.results3 (Nat.le_of_ble_eq_true rfl) (fun hok M0 w0 hnl => ?_)
  generalize hqq : (⟨q.e0, q.e1, q.o0, q.o1, q.p, false⟩ : ESpec) = q2
  have hrow : q2.row = [.sl 1 (intsA q.e0), .sl 1 (intsA q.e1), .sl 1 (intsA q.o0), .sl 1 (intsA q.o1), .sl 1 (intsA q.p), bv false] := by rw [← hqq]; rfl
  have htw := q2.two (by rw [← hqq])
  have ha := q2.ahead 0
  have hb := q2.ahead 1
  have hpl := T.partsF_len (q2.mkR 0) (q2.mkR 1)
  have hb6 : (q2.mkR 1).parents.length ≤ 6 := hb.le
  have hmul : (q2.mkR 1).parents.length * (T.partsF (q2.mkR 0) (q2.mkR 1)).length ≤ 6 * 33 := Nat.mul_le_mul hb6 hpl
  have hnn : (T.planF (q2.mkR 0) (q2.mkR 1)).length ≤ 198 := Nat.le_trans (T.planL_len _ _ _ _) hmul
  have hal := htw.okc.2.2
  generalize hP : T.planF (q2.mkR 0) (q2.mkR 1) = P at *
  refine Aw_seq ?_
  refine Aw_region ?_
  refine Al_boxN rfl rfl rfl (by decide) (by kernel_rfl) rfl (fun g2 => ?_)
  refine Al_pu (Pu_move (.inr rfl) (by conv => lhs; whnf)) rfl rfl (by decide) (by kernel_rfl) ?_
  refine Al_nil ?_
  refine Aw_seq ?_
  refine Aw_region ?_
  refine Al_pu (Pu_call (awake_a) rfl trivial) rfl rfl (by decide) (by kernel_rfl) ?_
  refine Al_pu (Pu_move (.inr rfl) (by conv => lhs; whnf)) rfl rfl (by decide) (by kernel_rfl) ?_
  refine Al_nil ?_
  refine Aw_seq ?_
  refine Aw_region ?_
  refine Al_pu (Pu_fieldb 5 rfl Try.underlying25 rfl rfl Try.sizeOf4 rfl) rfl rfl (by decide) (by kernel_rfl) ?_
  refine Al_store1 rfl rfl rfl (by kernel_rfl) Try.isAgg4 Try.sizeOf4 rfl rfl (Nat.le_of_ble_eq_true rfl) (by conv => lhs; whnf) rfl ?_
  refine Al_nil ?_
  refine Aw_seq ?_
  refine Aw_region ?_
  refine Al_pu (Pu_loadbN (r := [_, _, _, _, _, _]) rfl Try.isAgg25 Try.sizeOf25 rfl rfl rfl rfl) rfl rfl (by decide) (by kernel_rfl) ?_
  refine Al_pu (Pu_call (row_a q2 0 (by decide)) rfl ⟨Sub.d (by rw [hrow]), Sub.rfl, trivial⟩) rfl rfl (by decide) (by kernel_rfl) ?_
  refine Al_alloc rfl rfl rfl (by decide) Try.zeroValue29 rfl (by kernel_rfl) (fun g6 => ?_)
  refine Al_storeN rfl rfl rfl (by kernel_rfl) Try.isAgg29 Try.sizeOf29 rfl rfl rfl rfl (Nat.le_of_ble_eq_true rfl) ?_
  refine Al_nil ?_
  refine Aw_seq ?_
  refine Aw_region ?_
  refine Al_pu (Pu_loadbN (r := [_, _, _, _, _, _]) rfl Try.isAgg25 Try.sizeOf25 rfl rfl rfl rfl) rfl rfl (by decide) (by kernel_rfl) ?_
  refine Al_pu (Pu_call (row_a q2 1 (by decide)) rfl ⟨Sub.d (by rw [hrow]), Sub.rfl, trivial⟩) rfl rfl (by decide) (by kernel_rfl) ?_
  refine Al_alloc rfl rfl rfl (by decide) Try.zeroValue29 rfl (by kernel_rfl) (fun g7 => ?_)
  refine Al_storeN rfl rfl rfl (by kernel_rfl) Try.isAgg29 Try.sizeOf29 rfl rfl rfl rfl (Nat.le_of_ble_eq_true rfl) ?_
  refine Al_nil ?_
  refine Aw_seq ?_
  refine Aw_region ?_
  refine Al_pu (Pu_loadbN (r := [_, _, _]) rfl Try.isAgg29 Try.sizeOf29 rfl rfl rfl rfl) rfl rfl (by decide) (by kernel_rfl) ?_
  refine Al_pu (Pu_loadbN (r := [_, _, _]) rfl Try.isAgg29 Try.sizeOf29 rfl rfl rfl rfl) rfl rfl (by decide) (by kernel_rfl) ?_
  refine Al_pu (Pu_call (plan_a (q2.mkR 0) (q2.mkR 1) ha hb) rfl ⟨Sub.rfl, Sub.rfl, trivial⟩) rfl rfl (by decide) (by kernel_rfl) ?_
  refine Al_pu (Pu_move (.inr rfl) (by conv => lhs; whnf)) rfl rfl (by decide) (by kernel_rfl) ?_
  refine Al_nil ?_
  refine Aw_seq ?_
  refine Aw_seq ?_
  rw [hP]
  refine Aw_region ?_
  refine Al_pu (Pu_move (.inr rfl) (by conv => lhs; whnf)) rfl rfl (by decide) (by kernel_rfl) ?_
  refine Al_nil ?_
  refine Aw_block ?_
  refine Aw_loopk (ι := Nat) [1, 5, 6, 7, 8] [6, 7] (fun s => [(9, .d (iv s))]) (fun s => []) (fun s => s ≤ (q2.mkR 0).parents.length) (fun s => (q2.mkR 0).parents.length - s) (0) (Nat.zero_le _) ⟨Sub.rfl, trivial⟩ trivial ?_
  rintro s hk0
  refine Aw_seq ?_
  refine Aw_seq ?_
  refine Aw_region ?_
  refine Al_pu (Pu_move (.inl rfl) (by conv => lhs; whnf)) rfl rfl (by decide) (by kernel_rfl) ?_
  refine Al_pu (Pu_fieldb 2 rfl Try.underlying29 rfl rfl Try.sizeOf22 rfl) rfl rfl (by decide) (by kernel_rfl) ?_
  refine Al_pu (Pu_loadb rfl Try.isAgg22 rfl rfl rfl) rfl rfl (by decide) (by kernel_rfl) ?_
  refine Al_pu (Pu_len rfl Try.underlying22 rfl (by first | exact List.length_map .. | exact rfl)) rfl rfl (by decide) (by kernel_rfl) ?_
  refine Al_pu (Pu_cmp rfl rfl rfl rfl) rfl rfl (by decide) (by kernel_rfl) ?_
  refine Al_nil ?_
  refine Aw_cond rfl (fun h30 => ?_) (fun h30 => ?_)
  · (try simp only [decide_eq_true_eq, decide_eq_false_iff_not, Bool.and_eq_true, Bool.or_eq_true, Bool.and_eq_false_iff, Bool.or_eq_false_iff, Bool.not_eq_true', Bool.not_eq_false', beq_iff_eq, Bool.not_eq_eq_eq_not, Bool.not_true, Bool.not_false, List.length_map, Bool.and_true, Bool.and_false, Bool.false_and, Bool.true_and, Bool.or_false, Bool.false_or] at h30)
    have hs : s < (q2.mkR 1).parents.length := by omega
    refine Aw_skip ?_
    -- join 0: live [1, 5, 6, 7, 8, 9], turned []
    refine Aw_seq ?_
    refine Aw_block ?_
    refine Aw_seq ?_
    refine Aw_region ?_
    refine Al_pu (Pu_move (.inr rfl) (by conv => lhs; whnf)) rfl rfl (by decide) (by kernel_rfl) ?_
    refine Al_nil ?_
    refine Aw_seq ?_
    refine Aw_seq ?_
    refine Aw_region ?_
    refine Al_pu (Pu_move (.inr rfl) (by conv => lhs; whnf)) rfl rfl (by decide) (by kernel_rfl) ?_
    refine Al_nil ?_
    refine Aw_block ?_
    refine Aw_loopk (ι := Nat) [1, 5, 6, 7, 8, 9] [6, 7] (fun i => [(11, .d (iv i)), (10, .d (iv ((P.take i).countP (T.mine key s) : Nat)))]) (fun i => []) (fun i => i ≤ P.length) (fun i => P.length - i) (0) (Nat.zero_le _) ⟨Sub.rfl, Sub.rfl, trivial⟩ trivial ?_
    rintro i hk1
    refine Aw_seq ?_
    refine Aw_seq ?_
    refine Aw_region ?_
    refine Al_pu (Pu_move (.inl rfl) (by conv => lhs; whnf)) rfl rfl (by decide) (by kernel_rfl) ?_
    refine Al_pu (Pu_move (.inl rfl) (by conv => lhs; whnf)) rfl rfl (by decide) (by kernel_rfl) ?_
    refine Al_pu (Pu_len rfl Try.underlying31 rfl (by first | exact List.length_map .. | exact rfl)) rfl rfl (by decide) (by kernel_rfl) ?_
    refine Al_pu (Pu_cmp rfl rfl rfl rfl) rfl rfl (by decide) (by kernel_rfl) ?_
    refine Al_nil ?_
    refine Aw_cond rfl (fun h36 => ?_) (fun h36 => ?_)
    · (try simp only [decide_eq_true_eq, decide_eq_false_iff_not, Bool.and_eq_true, Bool.or_eq_true, Bool.and_eq_false_iff, Bool.or_eq_false_iff, Bool.not_eq_true', Bool.not_eq_false', beq_iff_eq, Bool.not_eq_eq_eq_not, Bool.not_true, Bool.not_false, List.length_map, Bool.and_true, Bool.and_false, Bool.false_and, Bool.true_and, Bool.or_false, Bool.false_or] at h36)
      have hi : i < P.length := by omega
      have hcl := T.mine_le P key s i
      refine Aw_skip ?_
      -- join 1: live [1, 5, 6, 7, 8, 9, 10, 11], turned [10]
      refine Aw_seq ?_
      refine Aw_block ?_
      refine Aw_seq ?_
      refine Aw_region ?_
      refine Al_pu (Pu_move (.inl rfl) (by conv => lhs; whnf)) rfl rfl (by decide) (by kernel_rfl) ?_
      refine Al_pu (Pu_move (.inl rfl) (by conv => lhs; whnf)) rfl rfl (by decide) (by kernel_rfl) ?_
      refine Al_pu (Pu_index rfl Try.underlying31 Try.sizeOf37 rfl rfl (rfl) (mapget hi)) rfl rfl (by decide) (by kernel_rfl) ?_
      refine Al_pu (Pu_field 2 rfl Try.underlying37 rfl rfl Try.sizeOf35 rfl) rfl rfl (by decide) (by kernel_rfl) ?_
      refine Al_pu (Pu_loadN rfl Try.isAgg35 Try.sizeOf35 rfl (Nat.le_of_ble_eq_true rfl)) rfl rfl (by decide) (by kernel_rfl) ?_
      refine Al_pu (Pu_move (.inl rfl) (by conv => lhs; whnf)) rfl rfl (by decide) (by kernel_rfl) ?_
      refine Al_pu (Pu_call (rhas_r (P[i]'hi).r key) rfl ⟨Sub.rfl, Sub.rfl, trivial⟩) rfl rfl (by decide) (by kernel_rfl) ?_
      refine Al_pu (Pu_move (.inr rfl) (by conv => lhs; whnf)) rfl rfl (by decide) (by kernel_rfl) ?_
      refine Al_nil ?_
      refine Aw_seq ?_
      refine Aw_region ?_
      refine Al_pu (Pu_move (.inl rfl) (by conv => lhs; whnf)) rfl rfl (by decide) (by kernel_rfl) ?_
      refine Al_pu (Pu_move (.inl rfl) (by conv => lhs; whnf)) rfl rfl (by decide) (by kernel_rfl) ?_
      refine Al_st (St_gd [] rfl rfl rfl rfl trivial (fun hg48 => by exact Pu_move (.inl rfl) (by conv => lhs; whnf))) rfl (by decide) (by kernel_rfl) (by intro j b oj dj h1 h2 h3; cases h1; cases h2; cases h3; decide) ?_
      refine Al_st (St_gd [] rfl rfl rfl rfl trivial (fun hg49 => by exact Pu_move (.inl rfl) (by conv => lhs; whnf))) rfl (by decide) (by kernel_rfl) (by intro j b oj dj h1 h2 h3; cases h1; cases h2; cases h3; decide) ?_
      refine Al_st (St_gd [48, 49] rfl rfl rfl rfl ⟨⟨_, rfl⟩, ⟨_, rfl⟩, trivial⟩ (fun hg50 => Pu_index rfl Try.underlying31 Try.sizeOf37 rfl rfl (rfl) (mapget hi))) rfl (by decide) (by kernel_rfl) (by intro j b oj dj h1 h2 h3; cases h1; cases h2; cases h3; decide) ?_
      refine Al_st (St_gd [50] rfl rfl rfl rfl ⟨⟨_, rfl⟩, trivial⟩ (fun hg51 => Pu_field 0 rfl Try.underlying37 rfl rfl Try.sizeOf3 rfl)) rfl (by decide) (by kernel_rfl) (by intro j b oj dj h1 h2 h3; cases h1; cases h2; cases h3; decide) ?_
      refine Al_st (St_gd [51] rfl rfl rfl rfl ⟨⟨_, rfl⟩, trivial⟩ (fun hg52 => Pu_load1 rfl Try.isAgg3 rfl rfl)) rfl (by decide) (by kernel_rfl) (by intro j b oj dj h1 h2 h3; cases h1; cases h2; cases h3; decide) ?_
      refine Al_st (St_gd [] rfl rfl rfl rfl trivial (fun hg53 => by exact Pu_move (.inl rfl) (by conv => lhs; whnf))) rfl (by decide) (by kernel_rfl) (by intro j b oj dj h1 h2 h3; cases h1; cases h2; cases h3; decide) ?_
      refine Al_st (St_gd [52, 53] rfl rfl rfl rfl ⟨⟨_, rfl⟩, ⟨_, rfl⟩, trivial⟩ (fun hg54 => Pu_cmp rfl rfl rfl rfl)) rfl (by decide) (by kernel_rfl) (by intro j b oj dj h1 h2 h3; cases h1; cases h2; cases h3; decide) ?_
      refine Al_pu (Pu_and rfl rfl rfl rfl) rfl rfl (by decide) (by kernel_rfl) ?_
      refine Al_nil ?_
      refine Aw_cond rfl (fun h55 => ?_) (fun h55 => ?_)
      · skip
        have hm : T.mine key s (P[i]'hi) = true := h55
        have hin : hasR key (P[i]'hi).r = true := by unfold T.mine at hm; simp only [Bool.and_eq_true] at hm; exact hm.1
        refine Aw_seq ?_
        refine Aw_region ?_
        refine Al_pu (Pu_move (.inl rfl) (by conv => lhs; whnf)) rfl rfl (by decide) (by kernel_rfl) ?_
        refine Al_pu (Pu_add rfl rfl rfl (fun h1 h2 => by simp only [A.inI, A.maxI] at *; omega)) rfl rfl (by decide) (by kernel_rfl) ?_
        refine Al_pu (Pu_move (.inr rfl) (by conv => lhs; whnf)) rfl rfl (by decide) (by kernel_rfl) ?_
        refine Al_nil ?_
        refine Aw_seq ?_
        refine Aw_draw 8 (by kernel_rfl) (by kernel_rfl) ?_
        refine Dr_pu (Pu_loadbN (r := [_, _, _]) rfl Try.isAgg29 Try.sizeOf29 rfl rfl rfl rfl) rfl rfl ?_
        refine Dr_pu (Pu_move (.inl rfl) (by conv => lhs; whnf)) rfl rfl ?_
        refine Dr_pu (Pu_move (.inl rfl) (by conv => lhs; whnf)) rfl rfl ?_
        refine Dr_pu (Pu_index rfl Try.underlying31 Try.sizeOf37 rfl rfl (rfl) (mapget hi)) rfl rfl ?_
        refine Dr_pu (Pu_field 1 rfl Try.underlying37 rfl rfl Try.sizeOf3 rfl) rfl rfl ?_
        refine Dr_pu (Pu_load1 rfl Try.isAgg3 rfl rfl) rfl rfl ?_
        refine Dr_pu (Pu_move (.inl rfl) (by conv => lhs; whnf)) rfl rfl ?_
        refine Dr_pu (Pu_call (rowns_a (q2.mkR 0) (P[i]'hi).fr key) rfl ⟨Sub.rfl, Sub.rfl, Sub.rfl, trivial⟩) rfl rfl ?_
        refine Dr_nil ?_
        refine Al_pu (Pu_move (.inr rfl) (by conv => lhs; whnf)) rfl rfl (by decide) (by kernel_rfl) ?_
        refine Al_nil ?_
        refine Aw_seq ?_
        refine Aw_region ?_
        refine Al_pu (Pu_move (.inl rfl) (by conv => lhs; whnf)) rfl rfl (by decide) (by kernel_rfl) ?_
        refine Al_pu (Pu_not rfl rfl) rfl rfl (by decide) (by kernel_rfl) ?_
        refine Al_nil ?_
        refine Aw_cond rfl (fun h67 => ?_) (fun h67 => ?_)
        · (try simp only [decide_eq_true_eq, decide_eq_false_iff_not, Bool.and_eq_true, Bool.or_eq_true, Bool.and_eq_false_iff, Bool.or_eq_false_iff, Bool.not_eq_true', Bool.not_eq_false', beq_iff_eq, Bool.not_eq_eq_eq_not, Bool.not_true, Bool.not_false, List.length_map, Bool.and_true, Bool.and_false, Bool.false_and, Bool.true_and, Bool.or_false, Bool.false_or] at h67)
          have := htw.from (m := P[i]'hi) (by rw [hP]; exact List.getElem_mem hi) hin
          rw [this] at h67; exact absurd h67 (by simp)
        · (try simp only [decide_eq_true_eq, decide_eq_false_iff_not, Bool.and_eq_true, Bool.or_eq_true, Bool.and_eq_false_iff, Bool.or_eq_false_iff, Bool.not_eq_true', Bool.not_eq_false', beq_iff_eq, Bool.not_eq_eq_eq_not, Bool.not_true, Bool.not_false, List.length_map, Bool.and_true, Bool.and_false, Bool.false_and, Bool.true_and, Bool.or_false, Bool.false_or] at h67)
          refine Aw_skip ?_
          refine Aw_region ?_
          refine Al_pu (Pu_move (.inl rfl) (by conv => lhs; whnf)) rfl rfl (by decide) (by kernel_rfl) ?_
          refine Al_pu (Pu_add rfl rfl rfl (fun h1 h2 => by simp only [A.inI, A.maxI] at *; omega)) rfl rfl (by decide) (by kernel_rfl) ?_
          refine Al_pu (Pu_move (.inr rfl) (by conv => lhs; whnf)) rfl rfl (by decide) (by kernel_rfl) ?_
          refine Al_nil ?_
          exact ⟨i + 1, by omega, by omega, Le.ov ⟨Sub.num (by omega), Sub.num (by rw [T.mine_take hi, hm]; simp), trivial⟩ ⟨Sub.rfl, Sub.rfl, Sub.rfl, Sub.rfl, Sub.rfl, Sub.rfl, trivial⟩ trivial ⟨rfl, rfl, trivial⟩⟩ -- loop 1 next.0
      · skip
        have hm : T.mine key s (P[i]'hi) = false := h55
        refine Aw_skip ?_
        refine Aw_region ?_
        refine Al_pu (Pu_move (.inl rfl) (by conv => lhs; whnf)) rfl rfl (by decide) (by kernel_rfl) ?_
        refine Al_pu (Pu_add rfl rfl rfl (fun h1 h2 => by simp only [A.inI, A.maxI] at *; omega)) rfl rfl (by decide) (by kernel_rfl) ?_
        refine Al_pu (Pu_move (.inr rfl) (by conv => lhs; whnf)) rfl rfl (by decide) (by kernel_rfl) ?_
        refine Al_nil ?_
        exact ⟨i + 1, by omega, by omega, Le.ov ⟨Sub.num (by omega), Sub.num (by rw [T.mine_take hi, hm]; simp), trivial⟩ ⟨Sub.rfl, Sub.rfl, Sub.rfl, Sub.rfl, Sub.rfl, Sub.rfl, trivial⟩ trivial ⟨rfl, rfl, trivial⟩⟩ -- loop 1 next.1
    · (try simp only [decide_eq_true_eq, decide_eq_false_iff_not, Bool.and_eq_true, Bool.or_eq_true, Bool.and_eq_false_iff, Bool.or_eq_false_iff, Bool.not_eq_true', Bool.not_eq_false', beq_iff_eq, Bool.not_eq_eq_eq_not, Bool.not_true, Bool.not_false, List.length_map, Bool.and_true, Bool.and_false, Bool.false_and, Bool.true_and, Bool.or_false, Bool.false_or] at h36)
      obtain rfl : i = P.length := by omega
      have hc := htw.count key hs
      rw [hP] at hc
      rw [List.take_length, hc]
      refine Aw_exit ?_
      refine Aw_seq ?_
      refine Aw_region ?_
      refine Al_pu (Pu_loadbN (r := [_, _, _]) rfl Try.isAgg29 Try.sizeOf29 rfl rfl rfl rfl) rfl rfl (by decide) (by kernel_rfl) ?_
      refine Al_pu (Pu_move (.inl rfl) (by conv => lhs; whnf)) rfl rfl (by decide) (by kernel_rfl) ?_
      refine Al_pu (Pu_move (.inl rfl) (by conv => lhs; whnf)) rfl rfl (by decide) (by kernel_rfl) ?_
      refine Al_pu (Pu_call (rowns_a (q2.mkR 0) s key) rfl ⟨Sub.rfl, Sub.rfl, Sub.rfl, trivial⟩) rfl rfl (by decide) (by kernel_rfl) ?_
      refine Al_pu (Pu_move (.inr rfl) (by conv => lhs; whnf)) rfl rfl (by decide) (by kernel_rfl) ?_
      refine Al_nil ?_
      refine Aw_seq ?_
      refine Aw_region ?_
      refine Al_pu (Pu_loadbN (r := [_, _, _]) rfl Try.isAgg29 Try.sizeOf29 rfl rfl rfl rfl) rfl rfl (by decide) (by kernel_rfl) ?_
      refine Al_pu (Pu_move (.inl rfl) (by conv => lhs; whnf)) rfl rfl (by decide) (by kernel_rfl) ?_
      refine Al_pu (Pu_move (.inl rfl) (by conv => lhs; whnf)) rfl rfl (by decide) (by kernel_rfl) ?_
      refine Al_pu (Pu_call (rowns_a (q2.mkR 1) s key) rfl ⟨Sub.rfl, Sub.rfl, Sub.rfl, trivial⟩) rfl rfl (by decide) (by kernel_rfl) ?_
      refine Al_pu (Pu_move (.inr rfl) (by conv => lhs; whnf)) rfl rfl (by decide) (by kernel_rfl) ?_
      refine Al_nil ?_
      refine Aw_seq ?_
      refine Aw_region ?_
      refine Al_pu (Pu_move (.inr rfl) (by conv => lhs; whnf)) rfl rfl (by decide) (by kernel_rfl) ?_
      refine Al_nil ?_
      -- join 2: live [1, 5, 6, 7, 8, 9, 10, 16], turned [16]
      refine Aw_seq ?_
      refine Aw_seq ?_
      refine Aw_region ?_
      refine Al_pu (Pu_move (.inl rfl) (by conv => lhs; whnf)) rfl rfl (by decide) (by kernel_rfl) ?_
      refine Al_pu (Pu_move (.inl rfl) (by conv => lhs; whnf)) rfl rfl (by decide) (by kernel_rfl) ?_
      refine Al_st (St_gd [] rfl rfl rfl rfl trivial (fun hg78 => by exact Pu_move (.inl rfl) (by conv => lhs; whnf))) rfl (by decide) (by kernel_rfl) (by intro j b oj dj h1 h2 h3; cases h1; cases h2; cases h3; decide) ?_
      refine Al_st (St_gd [78] rfl rfl rfl rfl ⟨⟨_, rfl⟩, trivial⟩ (fun hg79 => Pu_not rfl rfl)) rfl (by decide) (by kernel_rfl) (by intro j b oj dj h1 h2 h3; cases h1; cases h2; cases h3; decide) ?_
      refine Al_pu (Pu_and rfl rfl rfl rfl) rfl rfl (by decide) (by kernel_rfl) ?_
      refine Al_nil ?_
      refine Aw_cond rfl (fun h80 => ?_) (fun h80 => ?_)
      · skip
        have hcm : T.comes (q2.mkR 0) (q2.mkR 1) key s = true := h80
        refine Aw_region ?_
        refine Al_pu (Pu_move (.inr rfl) (by conv => lhs; whnf)) rfl rfl (by decide) (by kernel_rfl) ?_
        refine Al_nil ?_
        refine Aw_seq ?_
        refine Aw_region ?_
        refine Al_pu (Pu_move (.inl rfl) (by conv => lhs; whnf)) rfl rfl (by decide) (by kernel_rfl) ?_
        refine Al_pu (Pu_move (.inl rfl) (by conv => lhs; whnf)) rfl rfl (by decide) (by kernel_rfl) ?_
        refine Al_pu (Pu_cmp rfl rfl rfl rfl) rfl rfl (by decide) (by kernel_rfl) ?_
        refine Al_nil ?_
        refine Aw_cond rfl (fun h83 => ?_) (fun h83 => ?_)
        · (try simp only [decide_eq_true_eq, decide_eq_false_iff_not, Bool.and_eq_true, Bool.or_eq_true, Bool.and_eq_false_iff, Bool.or_eq_false_iff, Bool.not_eq_true', Bool.not_eq_false', beq_iff_eq, Bool.not_eq_eq_eq_not, Bool.not_true, Bool.not_false, List.length_map, Bool.and_true, Bool.and_false, Bool.false_and, Bool.true_and, Bool.or_false, Bool.false_or] at h83)
          exfalso; rw [hcm] at h83; simp at h83
        · (try simp only [decide_eq_true_eq, decide_eq_false_iff_not, Bool.and_eq_true, Bool.or_eq_true, Bool.and_eq_false_iff, Bool.or_eq_false_iff, Bool.not_eq_true', Bool.not_eq_false', beq_iff_eq, Bool.not_eq_eq_eq_not, Bool.not_true, Bool.not_false, List.length_map, Bool.and_true, Bool.and_false, Bool.false_and, Bool.true_and, Bool.or_false, Bool.false_or] at h83)
          refine Aw_skip ?_
          refine Aw_region ?_
          refine Al_pu (Pu_move (.inl rfl) (by conv => lhs; whnf)) rfl rfl (by decide) (by kernel_rfl) ?_
          refine Al_pu (Pu_add rfl rfl rfl (fun h1 h2 => by simp only [A.inI, A.maxI] at *; omega)) rfl rfl (by decide) (by kernel_rfl) ?_
          refine Al_pu (Pu_move (.inr rfl) (by conv => lhs; whnf)) rfl rfl (by decide) (by kernel_rfl) ?_
          refine Al_nil ?_
          exact ⟨s + 1, by omega, by omega, Le.ov ⟨Sub.num (by omega), trivial⟩ ⟨Sub.rfl, Sub.rfl, Sub.rfl, Sub.rfl, Sub.rfl, trivial⟩ trivial ⟨rfl, rfl, trivial⟩⟩ -- loop 0 next.0
      · skip
        have hcm : T.comes (q2.mkR 0) (q2.mkR 1) key s = false := h80
        refine Aw_skip ?_
        refine Aw_seq ?_
        refine Aw_region ?_
        refine Al_pu (Pu_move (.inl rfl) (by conv => lhs; whnf)) rfl rfl (by decide) (by kernel_rfl) ?_
        refine Al_pu (Pu_move (.inl rfl) (by conv => lhs; whnf)) rfl rfl (by decide) (by kernel_rfl) ?_
        refine Al_pu (Pu_cmp rfl rfl rfl rfl) rfl rfl (by decide) (by kernel_rfl) ?_
        refine Al_nil ?_
        refine Aw_cond rfl (fun h83 => ?_) (fun h83 => ?_)
        · (try simp only [decide_eq_true_eq, decide_eq_false_iff_not, Bool.and_eq_true, Bool.or_eq_true, Bool.and_eq_false_iff, Bool.or_eq_false_iff, Bool.not_eq_true', Bool.not_eq_false', beq_iff_eq, Bool.not_eq_eq_eq_not, Bool.not_true, Bool.not_false, List.length_map, Bool.and_true, Bool.and_false, Bool.false_and, Bool.true_and, Bool.or_false, Bool.false_or] at h83)
          exfalso; rw [hcm] at h83; simp at h83
        · (try simp only [decide_eq_true_eq, decide_eq_false_iff_not, Bool.and_eq_true, Bool.or_eq_true, Bool.and_eq_false_iff, Bool.or_eq_false_iff, Bool.not_eq_true', Bool.not_eq_false', beq_iff_eq, Bool.not_eq_eq_eq_not, Bool.not_true, Bool.not_false, List.length_map, Bool.and_true, Bool.and_false, Bool.false_and, Bool.true_and, Bool.or_false, Bool.false_or] at h83)
          refine Aw_skip ?_
          refine Aw_region ?_
          refine Al_pu (Pu_move (.inl rfl) (by conv => lhs; whnf)) rfl rfl (by decide) (by kernel_rfl) ?_
          refine Al_pu (Pu_add rfl rfl rfl (fun h1 h2 => by simp only [A.inI, A.maxI] at *; omega)) rfl rfl (by decide) (by kernel_rfl) ?_
          refine Al_pu (Pu_move (.inr rfl) (by conv => lhs; whnf)) rfl rfl (by decide) (by kernel_rfl) ?_
          refine Al_nil ?_
          exact ⟨s + 1, by omega, by omega, Le.ov ⟨Sub.num (by omega), trivial⟩ ⟨Sub.rfl, Sub.rfl, Sub.rfl, Sub.rfl, Sub.rfl, trivial⟩ trivial ⟨rfl, rfl, trivial⟩⟩ -- loop 0 next.1
  · (try simp only [decide_eq_true_eq, decide_eq_false_iff_not, Bool.and_eq_true, Bool.or_eq_true, Bool.and_eq_false_iff, Bool.or_eq_false_iff, Bool.not_eq_true', Bool.not_eq_false', beq_iff_eq, Bool.not_eq_eq_eq_not, Bool.not_true, Bool.not_false, List.length_map, Bool.and_true, Bool.and_false, Bool.false_and, Bool.true_and, Bool.or_false, Bool.false_or] at h30)
    refine Aw_exit ?_
    refine Aw_seq ?_
    refine Aw_region ?_
    refine Al_pu (Pu_move (.inl rfl) (by conv => lhs; whnf)) rfl rfl (by decide) (by kernel_rfl) ?_
    refine Al_pu (Pu_move (.inl rfl) (by conv => lhs; whnf)) rfl rfl (by decide) (by kernel_rfl) ?_
    refine Al_st (St_gd [] rfl rfl rfl rfl trivial (fun hg86 => Pu_loadbN (r := [_, _, _]) rfl Try.isAgg29 Try.sizeOf29 rfl rfl rfl rfl)) rfl (by decide) (by kernel_rfl) (by intro j b oj dj h1 h2 h3; cases h1; cases h2; cases h3; decide) ?_
    refine Al_st (St_gd [] rfl rfl rfl rfl trivial (fun hg87 => Pu_loadbN (r := [_, _, _]) rfl Try.isAgg29 Try.sizeOf29 rfl rfl rfl rfl)) rfl (by decide) (by kernel_rfl) (by intro j b oj dj h1 h2 h3; cases h1; cases h2; cases h3; decide) ?_
    refine Al_st (St_gd [86, 87] rfl rfl rfl rfl ⟨⟨_, rfl⟩, ⟨_, rfl⟩, trivial⟩ (fun hg88 => Pu_call (fits_a (q2.mkR 0) (q2.mkR 1) ha hb) rfl ⟨Sub.rfl, Sub.rfl, trivial⟩)) rfl (by decide) (by kernel_rfl) (by intro j b oj dj h1 h2 h3; cases h1; cases h2; cases h3; decide) ?_
    refine Al_pu (Pu_and rfl rfl rfl rfl) rfl rfl (by decide) (by kernel_rfl) ?_
    refine Al_pu (Pu_move (.inr rfl) (by conv => lhs; whnf)) rfl rfl (by decide) (by kernel_rfl) ?_
    refine Al_nil ?_
    refine Aw_ret ?_
    exact Sub.bool (by rw [htw.fits]; rfl) -- ret 0
theorem T.Two.find {c d : SRow} (h : T.Two c d) (key : ByteArray) : ∃ i, ∃ hi : i < (T.partsF c d).length, findR (T.partsF c d) key = (i : Nat) ∧ hasR key (T.partsF c d)[i] = true := by
  obtain ⟨m, a, h1, h2⟩ := h.chn
  rw [h2]
  exact h1.find key
theorem T.Two.whole {c d : SRow} (h : T.Two c d) : whole (T.partsF c d) = true := by
  obtain ⟨m, a, h1, h2⟩ := h.chn
  rw [h2]
  exact h1.whole
set_option maxRecDepth 100000 in
set_option maxHeartbeats 1000000 in
theorem eparts_law (q : ESpec) (key : ByteArray) : ACall Try.prog 4 [.row q.row, tv key] (bv true) := by
  refine ACall_enter (fun _ _ => by kernel_rfl) Try.func4 rfl Try.ntmps4 Try.results4 (Nat.le_of_ble_eq_true rfl) (fun hok M0 w0 hnl => ?_)
  generalize hqq : (⟨q.e0, q.e1, q.o0, q.o1, q.p, false⟩ : ESpec) = q2
  have hrow : q2.row = [.sl 1 (intsA q.e0), .sl 1 (intsA q.e1), .sl 1 (intsA q.o0), .sl 1 (intsA q.o1), .sl 1 (intsA q.p), bv false] := by rw [← hqq]; rfl
  have htw := q2.two (by rw [← hqq])
  have ha := q2.ahead 0
  have hb := q2.ahead 1
  have hpl := T.partsF_len (q2.mkR 0) (q2.mkR 1)
  have hwh := htw.whole
  obtain ⟨i, hi, hf, hin⟩ := htw.find key
  have hoc := htw.ownc (List.getElem_mem hi) hin
  have hod := htw.ownd (List.getElem_mem hi) hin
  have hr0 := rowners_a (q2.mkR 0) ((T.partsF (q2.mkR 0) (q2.mkR 1))[i]'hi).f
  have hr1 := rowners_a (q2.mkR 1) ((T.partsF (q2.mkR 0) (q2.mkR 1))[i]'hi).f
  have hpe : T.planF (q2.mkR 0) (q2.mkR 0) = [] := T.plan_self _
  refine Aw_seq ?_
  refine Aw_region ?_
  refine Al_boxN rfl rfl rfl (by decide) (by kernel_rfl) rfl (fun g2 => ?_)
  refine Al_pu (Pu_move (.inr rfl) (by conv => lhs; whnf)) rfl rfl (by decide) (by kernel_rfl) ?_
  refine Al_nil ?_
  refine Aw_seq ?_
  refine Aw_region ?_
  refine Al_pu (Pu_call (awake_a) rfl trivial) rfl rfl (by decide) (by kernel_rfl) ?_
  refine Al_pu (Pu_move (.inr rfl) (by conv => lhs; whnf)) rfl rfl (by decide) (by kernel_rfl) ?_
  refine Al_nil ?_
  refine Aw_seq ?_
  refine Aw_region ?_
  refine Al_pu (Pu_fieldb 5 rfl Try.underlying25 rfl rfl Try.sizeOf4 rfl) rfl rfl (by decide) (by kernel_rfl) ?_
  refine Al_store1 rfl rfl rfl (by kernel_rfl) Try.isAgg4 Try.sizeOf4 rfl rfl (Nat.le_of_ble_eq_true rfl) (by conv => lhs; whnf) rfl ?_
  refine Al_nil ?_
  refine Aw_seq ?_
  refine Aw_region ?_
  refine Al_pu (Pu_loadbN (r := [_, _, _, _, _, _]) rfl Try.isAgg25 Try.sizeOf25 rfl rfl rfl rfl) rfl rfl (by decide) (by kernel_rfl) ?_
  refine Al_pu (Pu_call (row_a q2 0 (by decide)) rfl ⟨Sub.d (by rw [hrow]), Sub.rfl, trivial⟩) rfl rfl (by decide) (by kernel_rfl) ?_
  refine Al_alloc rfl rfl rfl (by decide) Try.zeroValue29 rfl (by kernel_rfl) (fun g6 => ?_)
  refine Al_storeN rfl rfl rfl (by kernel_rfl) Try.isAgg29 Try.sizeOf29 rfl rfl rfl rfl (Nat.le_of_ble_eq_true rfl) ?_
  refine Al_nil ?_
  refine Aw_seq ?_
  refine Aw_region ?_
  refine Al_pu (Pu_loadbN (r := [_, _, _, _, _, _]) rfl Try.isAgg25 Try.sizeOf25 rfl rfl rfl rfl) rfl rfl (by decide) (by kernel_rfl) ?_
  refine Al_pu (Pu_call (row_a q2 1 (by decide)) rfl ⟨Sub.d (by rw [hrow]), Sub.rfl, trivial⟩) rfl rfl (by decide) (by kernel_rfl) ?_
  refine Al_alloc rfl rfl rfl (by decide) Try.zeroValue29 rfl (by kernel_rfl) (fun g7 => ?_)
  refine Al_storeN rfl rfl rfl (by kernel_rfl) Try.isAgg29 Try.sizeOf29 rfl rfl rfl rfl (Nat.le_of_ble_eq_true rfl) ?_
  refine Al_nil ?_
  refine Aw_seq ?_
  refine Aw_region ?_
  refine Al_pu (Pu_loadbN (r := [_, _, _]) rfl Try.isAgg29 Try.sizeOf29 rfl rfl rfl rfl) rfl rfl (by decide) (by kernel_rfl) ?_
  refine Al_pu (Pu_loadbN (r := [_, _, _]) rfl Try.isAgg29 Try.sizeOf29 rfl rfl rfl rfl) rfl rfl (by decide) (by kernel_rfl) ?_
  refine Al_pu (Pu_call (partsF_a (q2.mkR 0) (q2.mkR 1) ha hb) rfl ⟨Sub.rfl, Sub.rfl, trivial⟩) rfl rfl (by decide) (by kernel_rfl) ?_
  refine Al_pu (Pu_move (.inr rfl) (by conv => lhs; whnf)) rfl rfl (by decide) (by kernel_rfl) ?_
  refine Al_nil ?_
  refine Aw_seq ?_
  refine Aw_region ?_
  refine Al_pu (Pu_move (.inl rfl) (by conv => lhs; whnf)) rfl rfl (by decide) (by kernel_rfl) ?_
  refine Al_pu (Pu_move (.inl rfl) (by conv => lhs; whnf)) rfl rfl (by decide) (by kernel_rfl) ?_
  refine Al_pu (Pu_call (rfind_a (T.partsF (q2.mkR 0) (q2.mkR 1)) key (by omega)) rfl ⟨Sub.rfl, Sub.rfl, trivial⟩) rfl rfl (by decide) (by kernel_rfl) ?_
  refine Al_pu (Pu_move (.inr rfl) (by conv => lhs; whnf)) rfl rfl (by decide) (by kernel_rfl) ?_
  refine Al_nil ?_
  refine Aw_seq ?_
  refine Aw_region ?_
  refine Al_pu (Pu_move (.inl rfl) (by conv => lhs; whnf)) rfl rfl (by decide) (by kernel_rfl) ?_
  refine Al_pu (Pu_call (whole_av (T.partsF (q2.mkR 0) (q2.mkR 1))) rfl ⟨Sub.rfl, trivial⟩) rfl rfl (by decide) (by kernel_rfl) ?_
  refine Al_pu (Pu_move (.inr rfl) (by conv => lhs; whnf)) rfl rfl (by decide) (by kernel_rfl) ?_
  refine Al_nil ?_
  refine Aw_seq ?_
  refine Aw_seq ?_
  refine Aw_region ?_
  refine Al_pu (Pu_move (.inl rfl) (by conv => lhs; whnf)) rfl rfl (by decide) (by kernel_rfl) ?_
  refine Al_pu (Pu_not rfl rfl) rfl rfl (by decide) (by kernel_rfl) ?_
  refine Al_pu (Pu_move (.inl rfl) (by conv => lhs; whnf)) rfl rfl (by decide) (by kernel_rfl) ?_
  refine Al_st (St_gd [] rfl rfl rfl rfl trivial (fun hg29 => by exact Pu_move (.inl rfl) (by conv => lhs; whnf))) rfl (by decide) (by kernel_rfl) (by intro j b oj dj h1 h2 h3; cases h1; cases h2; cases h3; decide) ?_
  refine Al_st (St_gd [29] rfl rfl rfl rfl ⟨⟨_, rfl⟩, trivial⟩ (fun hg30 => Pu_cmp rfl rfl rfl rfl)) rfl (by decide) (by kernel_rfl) (by intro j b oj dj h1 h2 h3; cases h1; cases h2; cases h3; decide) ?_
  refine Al_pu (Pu_or rfl rfl rfl rfl) rfl rfl (by decide) (by kernel_rfl) ?_
  refine Al_nil ?_
  refine Aw_cond rfl (fun h31 => ?_) (fun h31 => ?_)
  · skip
    exfalso; rw [hwh, hf] at h31; simp at h31; omega
  · skip
    refine Aw_skip ?_
    refine Aw_seq ?_
    refine Aw_region ?_
    refine Al_pu (Pu_move (.inl rfl) (by conv => lhs; whnf)) rfl rfl (by decide) (by kernel_rfl) ?_
    refine Al_pu (Pu_move (.inl rfl) (by conv => lhs; whnf)) rfl rfl (by decide) (by kernel_rfl) ?_
    refine Al_pu (Pu_index rfl Try.underlying27 Try.sizeOf35 rfl rfl (hf) (mapget hi)) rfl rfl (by decide) (by kernel_rfl) ?_
    refine Al_pu (Pu_field 0 rfl Try.underlying35 rfl rfl Try.sizeOf9 rfl) rfl rfl (by decide) (by kernel_rfl) ?_
    refine Al_pu (Pu_load1 rfl Try.isAgg9 rfl rfl) rfl rfl (by decide) (by kernel_rfl) ?_
    refine Al_pu (Pu_move (.inr rfl) (by conv => lhs; whnf)) rfl rfl (by decide) (by kernel_rfl) ?_
    refine Al_nil ?_
    refine Aw_seq ?_
    refine Aw_draw 26 (by kernel_rfl) (by kernel_rfl) ?_
    refine Dr_pu (Pu_move (.inl rfl) (by conv => lhs; whnf)) rfl rfl ?_
    refine Dr_pu (Pu_move (.inl rfl) (by conv => lhs; whnf)) rfl rfl ?_
    refine Dr_st (St_gd [] rfl rfl rfl rfl trivial (fun hg39 => Pu_loadbN (r := [_, _, _]) rfl Try.isAgg29 Try.sizeOf29 rfl rfl rfl rfl)) rfl ?_
    refine Dr_st (St_gd [] rfl rfl rfl rfl trivial (fun hg40 => by exact Pu_move (.inl rfl) (by conv => lhs; whnf))) rfl ?_
    refine Dr_st (St_gd [39, 40] rfl rfl rfl rfl ⟨⟨_, rfl⟩, ⟨_, rfl⟩, trivial⟩ (fun hg41 => Pu_call (rowners_a (q2.mkR 0) key) rfl ⟨Sub.rfl, Sub.rfl, trivial⟩)) rfl ?_
    refine Dr_st (St_gd [] rfl rfl rfl rfl trivial (fun hg42 => Pu_loadbN (r := [_, _, _]) rfl Try.isAgg29 Try.sizeOf29 rfl rfl rfl rfl)) rfl ?_
    refine Dr_st (St_gd [] rfl rfl rfl rfl trivial (fun hg43 => by exact Pu_move (.inl rfl) (by conv => lhs; whnf))) rfl ?_
    refine Dr_st (St_gd [42, 43] rfl rfl rfl rfl ⟨⟨_, rfl⟩, ⟨_, rfl⟩, trivial⟩ (fun hg44 => Pu_call (hr0) rfl ⟨Sub.rfl, Sub.rfl, trivial⟩)) rfl ?_
    refine Dr_st (St_gd [41, 44] rfl rfl rfl rfl ⟨⟨_, rfl⟩, ⟨_, rfl⟩, trivial⟩ (fun hg45 => Pu_cmp rfl rfl rfl rfl)) rfl ?_
    refine Dr_pu (Pu_and rfl rfl rfl rfl) rfl rfl ?_
    refine Dr_pu (Pu_move (.inl rfl) (by conv => lhs; whnf)) rfl rfl ?_
    refine Dr_st (St_gd [] rfl rfl rfl rfl trivial (fun hg48 => Pu_loadbN (r := [_, _, _]) rfl Try.isAgg29 Try.sizeOf29 rfl rfl rfl rfl)) rfl ?_
    refine Dr_st (St_gd [] rfl rfl rfl rfl trivial (fun hg49 => by exact Pu_move (.inl rfl) (by conv => lhs; whnf))) rfl ?_
    refine Dr_st (St_gd [48, 49] rfl rfl rfl rfl ⟨⟨_, rfl⟩, ⟨_, rfl⟩, trivial⟩ (fun hg50 => Pu_call (rowners_a (q2.mkR 1) key) rfl ⟨Sub.rfl, Sub.rfl, trivial⟩)) rfl ?_
    refine Dr_st (St_gd [] rfl rfl rfl rfl trivial (fun hg51 => Pu_loadbN (r := [_, _, _]) rfl Try.isAgg29 Try.sizeOf29 rfl rfl rfl rfl)) rfl ?_
    refine Dr_st (St_gd [] rfl rfl rfl rfl trivial (fun hg52 => by exact Pu_move (.inl rfl) (by conv => lhs; whnf))) rfl ?_
    refine Dr_st (St_gd [51, 52] rfl rfl rfl rfl ⟨⟨_, rfl⟩, ⟨_, rfl⟩, trivial⟩ (fun hg53 => Pu_call (hr1) rfl ⟨Sub.rfl, Sub.rfl, trivial⟩)) rfl ?_
    refine Dr_st (St_gd [50, 53] rfl rfl rfl rfl ⟨⟨_, rfl⟩, ⟨_, rfl⟩, trivial⟩ (fun hg54 => Pu_cmp rfl rfl rfl rfl)) rfl ?_
    refine Dr_pu (Pu_and rfl rfl rfl rfl) rfl rfl ?_
    refine Dr_pu (Pu_move (.inl rfl) (by conv => lhs; whnf)) rfl rfl ?_
    refine Dr_st (St_gd [] rfl rfl rfl rfl trivial (fun hg57 => Pu_loadbN (r := [_, _, _]) rfl Try.isAgg29 Try.sizeOf29 rfl rfl rfl rfl)) rfl ?_
    refine Dr_st (St_gd [] rfl rfl rfl rfl trivial (fun hg58 => Pu_loadbN (r := [_, _, _]) rfl Try.isAgg29 Try.sizeOf29 rfl rfl rfl rfl)) rfl ?_
    refine Dr_st (St_gd [57, 58] rfl rfl rfl rfl ⟨⟨_, rfl⟩, ⟨_, rfl⟩, trivial⟩ (fun hg59 => Pu_call (plan_a (q2.mkR 0) (q2.mkR 0) ha ha) rfl ⟨Sub.rfl, Sub.rfl, trivial⟩)) rfl ?_
    refine Dr_st (St_gd [59] rfl rfl rfl rfl ⟨⟨_, rfl⟩, trivial⟩ (fun hg60 => by exact Pu_len rfl Try.underlying31 rfl (by first | exact List.length_map .. | exact rfl))) rfl ?_
    refine Dr_st (St_gd [60] rfl rfl rfl rfl ⟨⟨_, rfl⟩, trivial⟩ (fun hg61 => Pu_cmp rfl rfl rfl rfl)) rfl ?_
    refine Dr_pu (Pu_and rfl rfl rfl rfl) rfl rfl ?_
    refine Dr_nil ?_
    refine Al_pu (Pu_move (.inr rfl) (by conv => lhs; whnf)) rfl rfl (by decide) (by kernel_rfl) ?_
    refine Al_nil ?_
    refine Aw_ret ?_
    exact Sub.bool (by rw [hpe, hoc, hod]; simp) -- ret 0
set_option maxRecDepth 100000 in
set_option maxHeartbeats 1000000 in
theorem eback_law (q : ESpec) (key : ByteArray) (site : Int) : ACall Try.prog 6 [.row q.row, tv key, iv site] (bv true) := by
  refine ACall_enter (fun _ _ => by kernel_rfl) Try.func6 rfl Try.ntmps6 Try.results6 (Nat.le_of_ble_eq_true rfl) (fun hok M0 w0 hnl => ?_)
  generalize hqq : (⟨q.e0, q.e1, q.o0, q.o1, q.p, false⟩ : ESpec) = q2
  have hrow : q2.row = [.sl 1 (intsA q.e0), .sl 1 (intsA q.e1), .sl 1 (intsA q.o0), .sl 1 (intsA q.o1), .sl 1 (intsA q.p), bv false] := by rw [← hqq]; rfl
  have htw := q2.two (by rw [← hqq])
  have ha := q2.ahead 0
  have hb := q2.ahead 1
  have hal := htw.okc.2.2
  have hn1 : 1 ≤ (q2.mkR 0).parents.length := ESpec.pars_len q2 0 |>.1
  have hn6 : (q2.mkR 0).parents.length ≤ 6 := ESpec.pars_len q2 0 |>.2
  have hpl := T.partsF_len (q2.mkR 0) (q2.mkR 1)
  have hpl2 := T.partsF_len (q2.mkR 1) (q2.mkR 0)
  have hg1 := fun s => Nat.le_trans (T.gainsL_len (T.planF (q2.mkR 0) (q2.mkR 1)) s) (Nat.le_trans (T.planL_len _ _ _ _) (Nat.mul_le_mul hb.le hpl))
  have hg2 := fun s => Nat.le_trans (T.gainsL_len (T.planF (q2.mkR 1) (q2.mkR 0)) s) (Nat.le_trans (T.planL_len _ _ _ _) (Nat.mul_le_mul ha.le hpl2))
  have ht := ESpec.tmod_b site (n := ((q2.mkR 0).parents.length : Int)) (by omega)
  have hs : ∃ s : Nat, s < (q2.mkR 0).parents.length ∧ (site.tmod ((q2.mkR 0).parents.length : Int) + ((q2.mkR 0).parents.length : Int)).tmod ((q2.mkR 0).parents.length : Int) = (s : Int) := by
    have h1 := ESpec.tmod_b (site.tmod ((q2.mkR 0).parents.length : Int) + ((q2.mkR 0).parents.length : Int)) (n := ((q2.mkR 0).parents.length : Int)) (by omega)
    have h2 : 0 ≤ (site.tmod ((q2.mkR 0).parents.length : Int) + ((q2.mkR 0).parents.length : Int)).tmod ((q2.mkR 0).parents.length : Int) := by
      rw [Int.tmod_eq_emod_of_nonneg (by omega)]
      exact Int.emod_nonneg _ (by omega)
    exact ⟨((site.tmod ((q2.mkR 0).parents.length : Int) + ((q2.mkR 0).parents.length : Int)).tmod ((q2.mkR 0).parents.length : Int)).toNat, by omega, by omega⟩
  obtain ⟨s, hs0, hse⟩ := hs
  have hs1 : s < (q2.mkR 1).parents.length := by omega
  have e1 := htw.gains key hs1
  have e2 := htw.swap.gains key hs0
  refine Aw_seq ?_
  refine Aw_region ?_
  refine Al_boxN rfl rfl rfl (by decide) (by kernel_rfl) rfl (fun g3 => ?_)
  refine Al_pu (Pu_move (.inr rfl) (by conv => lhs; whnf)) rfl rfl (by decide) (by kernel_rfl) ?_
  refine Al_nil ?_
  refine Aw_seq ?_
  refine Aw_region ?_
  refine Al_pu (Pu_call (awake_a) rfl trivial) rfl rfl (by decide) (by kernel_rfl) ?_
  refine Al_pu (Pu_move (.inr rfl) (by conv => lhs; whnf)) rfl rfl (by decide) (by kernel_rfl) ?_
  refine Al_nil ?_
  refine Aw_seq ?_
  refine Aw_region ?_
  refine Al_pu (Pu_fieldb 5 rfl Try.underlying25 rfl rfl Try.sizeOf4 rfl) rfl rfl (by decide) (by kernel_rfl) ?_
  refine Al_store1 rfl rfl rfl (by kernel_rfl) Try.isAgg4 Try.sizeOf4 rfl rfl (Nat.le_of_ble_eq_true rfl) (by conv => lhs; whnf) rfl ?_
  refine Al_nil ?_
  refine Aw_seq ?_
  refine Aw_region ?_
  refine Al_pu (Pu_loadbN (r := [_, _, _, _, _, _]) rfl Try.isAgg25 Try.sizeOf25 rfl rfl rfl rfl) rfl rfl (by decide) (by kernel_rfl) ?_
  refine Al_pu (Pu_call (row_a q2 0 (by decide)) rfl ⟨Sub.d (by rw [hrow]), Sub.rfl, trivial⟩) rfl rfl (by decide) (by kernel_rfl) ?_
  refine Al_alloc rfl rfl rfl (by decide) Try.zeroValue29 rfl (by kernel_rfl) (fun g8 => ?_)
  refine Al_storeN rfl rfl rfl (by kernel_rfl) Try.isAgg29 Try.sizeOf29 rfl rfl rfl rfl (Nat.le_of_ble_eq_true rfl) ?_
  refine Al_nil ?_
  refine Aw_seq ?_
  refine Aw_region ?_
  refine Al_pu (Pu_loadbN (r := [_, _, _, _, _, _]) rfl Try.isAgg25 Try.sizeOf25 rfl rfl rfl rfl) rfl rfl (by decide) (by kernel_rfl) ?_
  refine Al_pu (Pu_call (row_a q2 1 (by decide)) rfl ⟨Sub.d (by rw [hrow]), Sub.rfl, trivial⟩) rfl rfl (by decide) (by kernel_rfl) ?_
  refine Al_alloc rfl rfl rfl (by decide) Try.zeroValue29 rfl (by kernel_rfl) (fun g9 => ?_)
  refine Al_storeN rfl rfl rfl (by kernel_rfl) Try.isAgg29 Try.sizeOf29 rfl rfl rfl rfl (Nat.le_of_ble_eq_true rfl) ?_
  refine Al_nil ?_
  refine Aw_seq ?_
  refine Aw_region ?_
  refine Al_pu (Pu_fieldb 2 rfl Try.underlying29 rfl rfl Try.sizeOf22 rfl) rfl rfl (by decide) (by kernel_rfl) ?_
  refine Al_pu (Pu_loadb rfl Try.isAgg22 rfl rfl rfl) rfl rfl (by decide) (by kernel_rfl) ?_
  refine Al_pu (Pu_len rfl Try.underlying22 rfl (by first | exact List.length_map .. | exact rfl)) rfl rfl (by decide) (by kernel_rfl) ?_
  refine Al_pu (Pu_move (.inr rfl) (by conv => lhs; whnf)) rfl rfl (by decide) (by kernel_rfl) ?_
  refine Al_nil ?_
  refine Aw_seq ?_
  refine Aw_region ?_
  refine Al_pu (Pu_move (.inl rfl) (by conv => lhs; whnf)) rfl rfl (by decide) (by kernel_rfl) ?_
  refine Al_pu (Pu_move (.inl rfl) (by conv => lhs; whnf)) rfl rfl (by decide) (by kernel_rfl) ?_
  refine Al_pu (Pu_rem rfl rfl rfl (by omega) rfl) rfl rfl (by decide) (by kernel_rfl) ?_
  refine Al_pu (Pu_move (.inl rfl) (by conv => lhs; whnf)) rfl rfl (by decide) (by kernel_rfl) ?_
  refine Al_pu (Pu_add rfl rfl rfl (fun h1 h2 => by simp only [A.inI, A.maxI] at *; omega)) rfl rfl (by decide) (by kernel_rfl) ?_
  refine Al_pu (Pu_move (.inl rfl) (by conv => lhs; whnf)) rfl rfl (by decide) (by kernel_rfl) ?_
  refine Al_pu (Pu_rem rfl rfl rfl (by omega) hse) rfl rfl (by decide) (by kernel_rfl) ?_
  refine Al_pu (Pu_move (.inr rfl) (by conv => lhs; whnf)) rfl rfl (by decide) (by kernel_rfl) ?_
  refine Al_nil ?_
  refine Aw_seq ?_
  refine Aw_region ?_
  refine Al_pu (Pu_loadbN (r := [_, _, _]) rfl Try.isAgg29 Try.sizeOf29 rfl rfl rfl rfl) rfl rfl (by decide) (by kernel_rfl) ?_
  refine Al_pu (Pu_loadbN (r := [_, _, _]) rfl Try.isAgg29 Try.sizeOf29 rfl rfl rfl rfl) rfl rfl (by decide) (by kernel_rfl) ?_
  refine Al_pu (Pu_move (.inl rfl) (by conv => lhs; whnf)) rfl rfl (by decide) (by kernel_rfl) ?_
  refine Al_pu (Pu_call (gains_a (q2.mkR 0) (q2.mkR 1) ha hb s) rfl ⟨Sub.rfl, Sub.rfl, Sub.rfl, trivial⟩) rfl rfl (by decide) (by kernel_rfl) ?_
  refine Al_pu (Pu_move (.inl rfl) (by conv => lhs; whnf)) rfl rfl (by decide) (by kernel_rfl) ?_
  refine Al_pu (Pu_call (rfind_a (T.gainsL (T.planF (q2.mkR 0) (q2.mkR 1)) s) key (by have := hg1 s; omega)) rfl ⟨Sub.rfl, Sub.rfl, trivial⟩) rfl rfl (by decide) (by kernel_rfl) ?_
  refine Al_pu (Pu_cmp rfl rfl rfl rfl) rfl rfl (by decide) (by kernel_rfl) ?_
  refine Al_pu (Pu_move (.inr rfl) (by conv => lhs; whnf)) rfl rfl (by decide) (by kernel_rfl) ?_
  refine Al_nil ?_
  refine Aw_seq ?_
  refine Aw_region ?_
  refine Al_pu (Pu_loadbN (r := [_, _, _]) rfl Try.isAgg29 Try.sizeOf29 rfl rfl rfl rfl) rfl rfl (by decide) (by kernel_rfl) ?_
  refine Al_pu (Pu_loadbN (r := [_, _, _]) rfl Try.isAgg29 Try.sizeOf29 rfl rfl rfl rfl) rfl rfl (by decide) (by kernel_rfl) ?_
  refine Al_pu (Pu_move (.inl rfl) (by conv => lhs; whnf)) rfl rfl (by decide) (by kernel_rfl) ?_
  refine Al_pu (Pu_call (gains_a (q2.mkR 1) (q2.mkR 0) hb ha s) rfl ⟨Sub.rfl, Sub.rfl, Sub.rfl, trivial⟩) rfl rfl (by decide) (by kernel_rfl) ?_
  refine Al_pu (Pu_move (.inl rfl) (by conv => lhs; whnf)) rfl rfl (by decide) (by kernel_rfl) ?_
  refine Al_pu (Pu_call (rfind_a (T.gainsL (T.planF (q2.mkR 1) (q2.mkR 0)) s) key (by have := hg2 s; omega)) rfl ⟨Sub.rfl, Sub.rfl, trivial⟩) rfl rfl (by decide) (by kernel_rfl) ?_
  refine Al_pu (Pu_cmp rfl rfl rfl rfl) rfl rfl (by decide) (by kernel_rfl) ?_
  refine Al_pu (Pu_move (.inr rfl) (by conv => lhs; whnf)) rfl rfl (by decide) (by kernel_rfl) ?_
  refine Al_nil ?_
  refine Aw_seq ?_
  refine Aw_region ?_
  refine Al_pu (Pu_loadbN (r := [_, _, _]) rfl Try.isAgg29 Try.sizeOf29 rfl rfl rfl rfl) rfl rfl (by decide) (by kernel_rfl) ?_
  refine Al_pu (Pu_move (.inl rfl) (by conv => lhs; whnf)) rfl rfl (by decide) (by kernel_rfl) ?_
  refine Al_pu (Pu_move (.inl rfl) (by conv => lhs; whnf)) rfl rfl (by decide) (by kernel_rfl) ?_
  refine Al_pu (Pu_call (rowns_a (q2.mkR 0) s key) rfl ⟨Sub.rfl, Sub.rfl, Sub.rfl, trivial⟩) rfl rfl (by decide) (by kernel_rfl) ?_
  refine Al_pu (Pu_move (.inr rfl) (by conv => lhs; whnf)) rfl rfl (by decide) (by kernel_rfl) ?_
  refine Al_nil ?_
  refine Aw_seq ?_
  refine Aw_region ?_
  refine Al_pu (Pu_loadbN (r := [_, _, _]) rfl Try.isAgg29 Try.sizeOf29 rfl rfl rfl rfl) rfl rfl (by decide) (by kernel_rfl) ?_
  refine Al_pu (Pu_move (.inl rfl) (by conv => lhs; whnf)) rfl rfl (by decide) (by kernel_rfl) ?_
  refine Al_pu (Pu_move (.inl rfl) (by conv => lhs; whnf)) rfl rfl (by decide) (by kernel_rfl) ?_
  refine Al_pu (Pu_call (rowns_a (q2.mkR 1) s key) rfl ⟨Sub.rfl, Sub.rfl, Sub.rfl, trivial⟩) rfl rfl (by decide) (by kernel_rfl) ?_
  refine Al_pu (Pu_move (.inr rfl) (by conv => lhs; whnf)) rfl rfl (by decide) (by kernel_rfl) ?_
  refine Al_nil ?_
  refine Aw_seq ?_
  refine Aw_region ?_
  refine Al_pu (Pu_move (.inl rfl) (by conv => lhs; whnf)) rfl rfl (by decide) (by kernel_rfl) ?_
  refine Al_pu (Pu_move (.inl rfl) (by conv => lhs; whnf)) rfl rfl (by decide) (by kernel_rfl) ?_
  refine Al_st (St_gd [] rfl rfl rfl rfl trivial (fun hg56 => by exact Pu_move (.inl rfl) (by conv => lhs; whnf))) rfl (by decide) (by kernel_rfl) (by intro j b oj dj h1 h2 h3; cases h1; cases h2; cases h3; decide) ?_
  refine Al_st (St_gd [] rfl rfl rfl rfl trivial (fun hg57 => by exact Pu_move (.inl rfl) (by conv => lhs; whnf))) rfl (by decide) (by kernel_rfl) (by intro j b oj dj h1 h2 h3; cases h1; cases h2; cases h3; decide) ?_
  refine Al_st (St_gd [57] rfl rfl rfl rfl ⟨⟨_, rfl⟩, trivial⟩ (fun hg58 => by exact Pu_move (.inl rfl) (by conv => lhs; whnf))) rfl (by decide) (by kernel_rfl) (by intro j b oj dj h1 h2 h3; cases h1; cases h2; cases h3; decide) ?_
  refine Al_st (St_gd2 [] rfl rfl rfl rfl trivial (fun hp59 hg59 => by exact Pu_move (.inl rfl) (by conv => lhs; whnf))) rfl (by decide) (by kernel_rfl) (by intro j b oj dj h1 h2 h3; cases h1; cases h2; cases h3; decide) ?_
  refine Al_st (St_gd2 [59] rfl rfl rfl rfl ⟨⟨_, rfl⟩, trivial⟩ (fun hp60 hg60 => Pu_not rfl rfl)) rfl (by decide) (by kernel_rfl) (by intro j b oj dj h1 h2 h3; cases h1; cases h2; cases h3; decide) ?_
  refine Al_st (St_gd [58] rfl rfl rfl rfl ⟨⟨_, rfl⟩, trivial⟩ (fun hg61 => Pu_andG rfl rfl (fun h => ⟨hg61, h⟩) rfl rfl)) rfl (by decide) (by kernel_rfl) (by intro j b oj dj h1 h2 h3; cases h1; cases h2; cases h3; decide) ?_
  refine Al_st (St_gd [56, 61] rfl rfl rfl rfl ⟨⟨_, rfl⟩, ⟨_, rfl⟩, trivial⟩ (fun hg62 => Pu_bool rfl Try.underlying4 rfl rfl rfl)) rfl (by decide) (by kernel_rfl) (by intro j b oj dj h1 h2 h3; cases h1; cases h2; cases h3; decide) ?_
  refine Al_pu (Pu_and rfl rfl rfl rfl) rfl rfl (by decide) (by kernel_rfl) ?_
  refine Al_pu (Pu_move (.inl rfl) (by conv => lhs; whnf)) rfl rfl (by decide) (by kernel_rfl) ?_
  refine Al_st (St_gd [] rfl rfl rfl rfl trivial (fun hg65 => by exact Pu_move (.inl rfl) (by conv => lhs; whnf))) rfl (by decide) (by kernel_rfl) (by intro j b oj dj h1 h2 h3; cases h1; cases h2; cases h3; decide) ?_
  refine Al_st (St_gd [] rfl rfl rfl rfl trivial (fun hg66 => by exact Pu_move (.inl rfl) (by conv => lhs; whnf))) rfl (by decide) (by kernel_rfl) (by intro j b oj dj h1 h2 h3; cases h1; cases h2; cases h3; decide) ?_
  refine Al_st (St_gd [66] rfl rfl rfl rfl ⟨⟨_, rfl⟩, trivial⟩ (fun hg67 => by exact Pu_move (.inl rfl) (by conv => lhs; whnf))) rfl (by decide) (by kernel_rfl) (by intro j b oj dj h1 h2 h3; cases h1; cases h2; cases h3; decide) ?_
  refine Al_st (St_gd2 [] rfl rfl rfl rfl trivial (fun hp68 hg68 => by exact Pu_move (.inl rfl) (by conv => lhs; whnf))) rfl (by decide) (by kernel_rfl) (by intro j b oj dj h1 h2 h3; cases h1; cases h2; cases h3; decide) ?_
  refine Al_st (St_gd2 [68] rfl rfl rfl rfl ⟨⟨_, rfl⟩, trivial⟩ (fun hp69 hg69 => Pu_not rfl rfl)) rfl (by decide) (by kernel_rfl) (by intro j b oj dj h1 h2 h3; cases h1; cases h2; cases h3; decide) ?_
  refine Al_st (St_gd [67] rfl rfl rfl rfl ⟨⟨_, rfl⟩, trivial⟩ (fun hg70 => Pu_andG rfl rfl (fun h => ⟨hg70, h⟩) rfl rfl)) rfl (by decide) (by kernel_rfl) (by intro j b oj dj h1 h2 h3; cases h1; cases h2; cases h3; decide) ?_
  refine Al_st (St_gd [65, 70] rfl rfl rfl rfl ⟨⟨_, rfl⟩, ⟨_, rfl⟩, trivial⟩ (fun hg71 => Pu_bool rfl Try.underlying4 rfl rfl rfl)) rfl (by decide) (by kernel_rfl) (by intro j b oj dj h1 h2 h3; cases h1; cases h2; cases h3; decide) ?_
  refine Al_pu (Pu_and rfl rfl rfl rfl) rfl rfl (by decide) (by kernel_rfl) ?_
  refine Al_pu (Pu_move (.inl rfl) (by conv => lhs; whnf)) rfl rfl (by decide) (by kernel_rfl) ?_
  refine Al_st (St_gd [] rfl rfl rfl rfl trivial (fun hg74 => by exact Pu_move (.inl rfl) (by conv => lhs; whnf))) rfl (by decide) (by kernel_rfl) (by intro j b oj dj h1 h2 h3; cases h1; cases h2; cases h3; decide) ?_
  refine Al_st (St_gd [74] rfl rfl rfl rfl ⟨⟨_, rfl⟩, trivial⟩ (fun hg75 => by exact Pu_move (.inl rfl) (by conv => lhs; whnf))) rfl (by decide) (by kernel_rfl) (by intro j b oj dj h1 h2 h3; cases h1; cases h2; cases h3; decide) ?_
  refine Al_st (St_gd2 [] rfl rfl rfl rfl trivial (fun hp76 hg76 => by exact Pu_move (.inl rfl) (by conv => lhs; whnf))) rfl (by decide) (by kernel_rfl) (by intro j b oj dj h1 h2 h3; cases h1; cases h2; cases h3; decide) ?_
  refine Al_st (St_gd [75] rfl rfl rfl rfl ⟨⟨_, rfl⟩, trivial⟩ (fun hg77 => Pu_andG rfl rfl (fun h => ⟨hg77, h⟩) rfl rfl)) rfl (by decide) (by kernel_rfl) (by intro j b oj dj h1 h2 h3; cases h1; cases h2; cases h3; decide) ?_
  refine Al_st (St_gd [77] rfl rfl rfl rfl ⟨⟨_, rfl⟩, trivial⟩ (fun hg78 => Pu_not rfl rfl)) rfl (by decide) (by kernel_rfl) (by intro j b oj dj h1 h2 h3; cases h1; cases h2; cases h3; decide) ?_
  refine Al_pu (Pu_and rfl rfl rfl rfl) rfl rfl (by decide) (by kernel_rfl) ?_
  refine Al_pu (Pu_move (.inr rfl) (by conv => lhs; whnf)) rfl rfl (by decide) (by kernel_rfl) ?_
  refine Al_nil ?_
  refine Aw_ret ?_
  exact Sub.bool (by
    have f1 : (!decide (findR (T.gainsL (T.planF (q2.mkR 0) (q2.mkR 1)) s) key < 0)) = T.comes (q2.mkR 0) (q2.mkR 1) key s := by rw [← e1]; by_cases h : findR (T.gainsL (T.planF (q2.mkR 0) (q2.mkR 1)) s) key < 0 <;> simp [h] <;> omega
    have f2 : (!decide (findR (T.gainsL (T.planF (q2.mkR 1) (q2.mkR 0)) s) key < 0)) = T.comes (q2.mkR 1) (q2.mkR 0) key s := by rw [← e2]; by_cases h : findR (T.gainsL (T.planF (q2.mkR 1) (q2.mkR 0)) s) key < 0 <;> simp [h] <;> omega
    first | rw [f1, f2] | rw [e1, e2]
    unfold T.comes
    cases T.bit (T.owners (q2.mkR 0) key) s <;> cases T.bit (T.owners (q2.mkR 1) key) s <;> rfl) -- ret 0
theorem T.ApartR.back {x y : Rng} (h : T.ApartR x y) : (Op.bytesLess x.t.toList y.f.toList || x.t.toList == y.f.toList) = true := by
  cases hl : Op.bytesLess x.t.toList y.f.toList with
  | true => rfl
  | false => simp [K.bl_tri _ _ hl h.2.2]
theorem T.gains_facts (q : ESpec) : (∀ s : Nat, (T.gainsL (T.planF (q.mkR 0) (q.mkR 1)) s).Pairwise T.ApartR) ∧ (∀ m ∈ T.planF (q.mkR 0) (q.mkR 1), ∃ s f : Nat, s < 6 ∧ f < 6 ∧ m.to' = s ∧ m.fr = f ∧ f ≠ s) ∧
    T.upTo (T.planF (q.mkR 0) (q.mkR 1)) 6 = (T.planF (q.mkR 0) (q.mkR 1)).length ∧ (q.odd = true → T.planF (q.mkR 0) (q.mkR 1) = []) := by
  cases ho : q.odd with
  | true =>
    have e := T.plan_none (q.odd_fits ho)
    rw [e]
    exact ⟨fun s => .nil, fun m hm => (by cases hm), rfl, fun _ => rfl⟩
  | false =>
    have h := q.two ho
    refine ⟨h.gains_apart, fun m hm => ?_, T.upTo_all h, fun h => by cases h⟩
    obtain ⟨_, s, f, h1, h2, h3, h4, _, _, h5⟩ := h.move hm
    have := (ESpec.pars_len q 1).2
    have hle : (q.mkR 1).parents.length ≤ 6 := this
    exact ⟨s, f, by omega, h2, h3, h4, h5⟩
set_option maxRecDepth 100000 in
set_option maxHeartbeats 1000000 in
theorem egains_law (q : ESpec) : ACall Try.prog 7 [.row q.row] (bv true) := by
  refine ACall_enter (fun _ _ => by kernel_rfl) Try.func7 rfl Try.ntmps7 Try.results7 (Nat.le_of_ble_eq_true rfl) (fun hok M0 w0 hnl => ?_)
  have ha := q.ahead 0
  have hb := q.ahead 1
  have hpl := T.partsF_len (q.mkR 0) (q.mkR 1)
  have hb6 : (q.mkR 1).parents.length ≤ 6 := hb.le
  have hmul : (q.mkR 1).parents.length * (T.partsF (q.mkR 0) (q.mkR 1)).length ≤ 6 * 33 := Nat.mul_le_mul hb6 hpl
  have hnn : (T.planF (q.mkR 0) (q.mkR 1)).length ≤ 198 := Nat.le_trans (T.planL_len _ _ _ _) hmul
  obtain ⟨hG, hM, hN, hO⟩ := T.gains_facts q
  have hga := fun s => gains_a (q.mkR 0) (q.mkR 1) ha hb s
  have hpa := plan_a (q.mkR 0) (q.mkR 1) ha hb
  generalize hP : T.planF (q.mkR 0) (q.mkR 1) = P at *
  refine Aw_seq ?_
  refine Aw_region ?_
  refine Al_pu (Pu_boxN rfl rfl) rfl rfl (by decide) (by kernel_rfl) ?_
  refine Al_pu (Pu_move (.inr rfl) (by conv => lhs; whnf)) rfl rfl (by decide) (by kernel_rfl) ?_
  refine Al_nil ?_
  refine Aw_seq ?_
  refine Aw_region ?_
  refine Al_pu (Pu_call (awake_a) rfl trivial) rfl rfl (by decide) (by kernel_rfl) ?_
  refine Al_pu (Pu_move (.inr rfl) (by conv => lhs; whnf)) rfl rfl (by decide) (by kernel_rfl) ?_
  refine Al_nil ?_
  refine Aw_seq ?_
  refine Aw_region ?_
  refine Al_pu (Pu_loadN rfl Try.isAgg25 Try.sizeOf25 rfl (Nat.le_of_ble_eq_true rfl)) rfl rfl (by decide) (by kernel_rfl) ?_
  refine Al_pu (Pu_call (row_a q 0 (by decide)) rfl ⟨Sub.rfl, Sub.rfl, trivial⟩) rfl rfl (by decide) (by kernel_rfl) ?_
  refine Al_alloc rfl rfl rfl (by decide) Try.zeroValue29 rfl (by kernel_rfl) (fun g4 => ?_)
  refine Al_storeN rfl rfl rfl (by kernel_rfl) Try.isAgg29 Try.sizeOf29 rfl rfl rfl rfl (Nat.le_of_ble_eq_true rfl) ?_
  refine Al_nil ?_
  refine Aw_seq ?_
  refine Aw_region ?_
  refine Al_pu (Pu_loadN rfl Try.isAgg25 Try.sizeOf25 rfl (Nat.le_of_ble_eq_true rfl)) rfl rfl (by decide) (by kernel_rfl) ?_
  refine Al_pu (Pu_call (row_a q 1 (by decide)) rfl ⟨Sub.rfl, Sub.rfl, trivial⟩) rfl rfl (by decide) (by kernel_rfl) ?_
  refine Al_alloc rfl rfl rfl (by decide) Try.zeroValue29 rfl (by kernel_rfl) (fun g5 => ?_)
  refine Al_storeN rfl rfl rfl (by kernel_rfl) Try.isAgg29 Try.sizeOf29 rfl rfl rfl rfl (Nat.le_of_ble_eq_true rfl) ?_
  refine Al_nil ?_
  refine Aw_seq ?_
  refine Aw_region ?_
  refine Al_pu (Pu_loadbN (r := [_, _, _]) rfl Try.isAgg29 Try.sizeOf29 rfl rfl rfl rfl) rfl rfl (by decide) (by kernel_rfl) ?_
  refine Al_pu (Pu_loadbN (r := [_, _, _]) rfl Try.isAgg29 Try.sizeOf29 rfl rfl rfl rfl) rfl rfl (by decide) (by kernel_rfl) ?_
  refine Al_pu (Pu_call (hpa) rfl ⟨Sub.rfl, Sub.rfl, trivial⟩) rfl rfl (by decide) (by kernel_rfl) ?_
  refine Al_pu (Pu_move (.inr rfl) (by conv => lhs; whnf)) rfl rfl (by decide) (by kernel_rfl) ?_
  refine Al_nil ?_
  refine Aw_seq ?_
  refine Aw_region ?_
  refine Al_pu (Pu_move (.inr rfl) (by conv => lhs; whnf)) rfl rfl (by decide) (by kernel_rfl) ?_
  refine Al_nil ?_
  refine Aw_seq ?_
  refine Aw_seq ?_
  refine Aw_region ?_
  refine Al_pu (Pu_move (.inr rfl) (by conv => lhs; whnf)) rfl rfl (by decide) (by kernel_rfl) ?_
  refine Al_nil ?_
  refine Aw_block ?_
  refine Aw_loopk (ι := Nat) [1, 3, 4, 5, 6] [1, 4, 5] (fun s => [(8, .d (iv s)), (7, .d (iv (T.upTo P s : Nat)))]) (fun s => []) (fun s => s ≤ 6) (fun s => 6 - s) (0) (Nat.zero_le _) ⟨Sub.rfl, Sub.num (by rw [T.upTo_zero]; rfl), trivial⟩ trivial ?_
  rintro s hk0
  refine Aw_seq ?_
  refine Aw_seq ?_
  refine Aw_region ?_
  refine Al_pu (Pu_move (.inl rfl) (by conv => lhs; whnf)) rfl rfl (by decide) (by kernel_rfl) ?_
  refine Al_pu (Pu_cmp rfl rfl rfl rfl) rfl rfl (by decide) (by kernel_rfl) ?_
  refine Al_nil ?_
  refine Aw_cond rfl (fun h22 => ?_) (fun h22 => ?_)
  · (try simp only [decide_eq_true_eq, decide_eq_false_iff_not, Bool.and_eq_true, Bool.or_eq_true, Bool.and_eq_false_iff, Bool.or_eq_false_iff, Bool.not_eq_true', Bool.not_eq_false', beq_iff_eq, Bool.not_eq_eq_eq_not, Bool.not_true, Bool.not_false, List.length_map, Bool.and_true, Bool.and_false, Bool.false_and, Bool.true_and, Bool.or_false, Bool.false_or] at h22)
    have hul := T.upTo_le P s
    have hgl := T.gainsL_len P s
    have hGs := hG s
    have hus := T.upTo_succ P s
    refine Aw_skip ?_
    refine Aw_seq ?_
    refine Aw_block ?_
    refine Aw_seq ?_
    refine Aw_region ?_
    refine Al_pu (Pu_loadbN (r := [_, _, _]) rfl Try.isAgg29 Try.sizeOf29 rfl rfl rfl rfl) rfl rfl (by decide) (by kernel_rfl) ?_
    refine Al_pu (Pu_loadbN (r := [_, _, _]) rfl Try.isAgg29 Try.sizeOf29 rfl rfl rfl rfl) rfl rfl (by decide) (by kernel_rfl) ?_
    refine Al_pu (Pu_move (.inl rfl) (by conv => lhs; whnf)) rfl rfl (by decide) (by kernel_rfl) ?_
    refine Al_pu (Pu_call (hga s) rfl ⟨Sub.rfl, Sub.rfl, Sub.rfl, trivial⟩) rfl rfl (by decide) (by kernel_rfl) ?_
    refine Al_pu (Pu_move (.inr rfl) (by conv => lhs; whnf)) rfl rfl (by decide) (by kernel_rfl) ?_
    refine Al_nil ?_
    refine Aw_seq ?_
    generalize T.gainsL P (s : Nat) = G at *
    refine Aw_region ?_
    refine Al_pu (Pu_move (.inl rfl) (by conv => lhs; whnf)) rfl rfl (by decide) (by kernel_rfl) ?_
    refine Al_pu (Pu_move (.inl rfl) (by conv => lhs; whnf)) rfl rfl (by decide) (by kernel_rfl) ?_
    refine Al_pu (Pu_len rfl Try.underlying27 rfl (by first | exact List.length_map .. | exact rfl)) rfl rfl (by decide) (by kernel_rfl) ?_
    refine Al_pu (Pu_add rfl rfl rfl (fun h1 h2 => by simp only [A.inI, A.maxI] at *; omega)) rfl rfl (by decide) (by kernel_rfl) ?_
    refine Al_pu (Pu_move (.inr rfl) (by conv => lhs; whnf)) rfl rfl (by decide) (by kernel_rfl) ?_
    refine Al_nil ?_
    refine Aw_seq ?_
    refine Aw_region ?_
    refine Al_pu (Pu_move (.inr rfl) (by conv => lhs; whnf)) rfl rfl (by decide) (by kernel_rfl) ?_
    refine Al_nil ?_
    refine Aw_block ?_
    refine Aw_loopk (ι := Nat) [1, 3, 4, 5, 6, 7, 8, 9] [1, 4, 5] (fun i => [(10, .d (iv i))]) (fun i => []) (fun i => i ≤ G.length) (fun i => G.length - i) (0) (Nat.zero_le _) ⟨Sub.rfl, trivial⟩ trivial ?_
    rintro i hk1
    refine Aw_seq ?_
    refine Aw_seq ?_
    refine Aw_region ?_
    refine Al_pu (Pu_move (.inl rfl) (by conv => lhs; whnf)) rfl rfl (by decide) (by kernel_rfl) ?_
    refine Al_pu (Pu_move (.inl rfl) (by conv => lhs; whnf)) rfl rfl (by decide) (by kernel_rfl) ?_
    refine Al_pu (Pu_len rfl Try.underlying27 rfl (by first | exact List.length_map .. | exact rfl)) rfl rfl (by decide) (by kernel_rfl) ?_
    refine Al_pu (Pu_cmp rfl rfl rfl rfl) rfl rfl (by decide) (by kernel_rfl) ?_
    refine Al_nil ?_
    refine Aw_cond rfl (fun h36 => ?_) (fun h36 => ?_)
    · (try simp only [decide_eq_true_eq, decide_eq_false_iff_not, Bool.and_eq_true, Bool.or_eq_true, Bool.and_eq_false_iff, Bool.or_eq_false_iff, Bool.not_eq_true', Bool.not_eq_false', beq_iff_eq, Bool.not_eq_eq_eq_not, Bool.not_true, Bool.not_false, List.length_map, Bool.and_true, Bool.and_false, Bool.false_and, Bool.true_and, Bool.or_false, Bool.false_or] at h36)
      have hi : i < G.length := by omega
      refine Aw_skip ?_
      refine Aw_seq ?_
      refine Aw_block ?_
      refine Aw_seq ?_
      refine Aw_region ?_
      refine Al_pu (Pu_move (.inr rfl) (by conv => lhs; whnf)) rfl rfl (by decide) (by kernel_rfl) ?_
      refine Al_nil ?_
      refine Aw_block ?_
      refine Aw_loopk (ι := Nat) [1, 3, 4, 5, 6, 7, 8, 9, 10] [1, 4, 5] (fun k => [(11, .d (iv k))]) (fun k => []) (fun k => k ≤ i) (fun k => i - k) (0) (Nat.zero_le _) ⟨Sub.rfl, trivial⟩ trivial ?_
      rintro k hk2
      refine Aw_seq ?_
      refine Aw_seq ?_
      refine Aw_region ?_
      refine Al_pu (Pu_move (.inl rfl) (by conv => lhs; whnf)) rfl rfl (by decide) (by kernel_rfl) ?_
      refine Al_pu (Pu_move (.inl rfl) (by conv => lhs; whnf)) rfl rfl (by decide) (by kernel_rfl) ?_
      refine Al_pu (Pu_cmp rfl rfl rfl rfl) rfl rfl (by decide) (by kernel_rfl) ?_
      refine Al_nil ?_
      refine Aw_cond rfl (fun h41 => ?_) (fun h41 => ?_)
      · (try simp only [decide_eq_true_eq, decide_eq_false_iff_not, Bool.and_eq_true, Bool.or_eq_true, Bool.and_eq_false_iff, Bool.or_eq_false_iff, Bool.not_eq_true', Bool.not_eq_false', beq_iff_eq, Bool.not_eq_eq_eq_not, Bool.not_true, Bool.not_false, List.length_map, Bool.and_true, Bool.and_false, Bool.false_and, Bool.true_and, Bool.or_false, Bool.false_or] at h41)
        have hki : k < i := by omega
        have hk : k < G.length := by omega
        have hap : T.ApartR G[k] G[i] := List.pairwise_iff_getElem.1 hGs k i hk hi hki
        refine Aw_skip ?_
        refine Aw_seq ?_
        refine Aw_block ?_
        refine Aw_seq ?_
        refine Aw_draw 30 (by kernel_rfl) (by kernel_rfl) ?_
        refine Dr_pu (Pu_move (.inl rfl) (by conv => lhs; whnf)) rfl rfl ?_
        refine Dr_pu (Pu_move (.inl rfl) (by conv => lhs; whnf)) rfl rfl ?_
        refine Dr_pu (Pu_index rfl Try.underlying27 Try.sizeOf35 rfl rfl (rfl) (mapget hi)) rfl rfl ?_
        refine Dr_pu (Pu_field 0 rfl Try.underlying35 rfl rfl Try.sizeOf9 rfl) rfl rfl ?_
        refine Dr_pu (Pu_load1 rfl Try.isAgg9 rfl rfl) rfl rfl ?_
        refine Dr_pu (Pu_move (.inl rfl) (by conv => lhs; whnf)) rfl rfl ?_
        refine Dr_pu (Pu_move (.inl rfl) (by conv => lhs; whnf)) rfl rfl ?_
        refine Dr_pu (Pu_index rfl Try.underlying27 Try.sizeOf35 rfl rfl (rfl) (mapget hk)) rfl rfl ?_
        refine Dr_pu (Pu_field 0 rfl Try.underlying35 rfl rfl Try.sizeOf9 rfl) rfl rfl ?_
        refine Dr_pu (Pu_load1 rfl Try.isAgg9 rfl rfl) rfl rfl ?_
        refine Dr_pu (Pu_str rfl rfl rfl rfl) rfl rfl ?_
        refine Dr_pu (Pu_move (.inl rfl) (by conv => lhs; whnf)) rfl rfl ?_
        refine Dr_st (St_gd [] rfl rfl rfl rfl trivial (fun hg56 => by exact Pu_move (.inl rfl) (by conv => lhs; whnf))) rfl ?_
        refine Dr_st (St_gd [] rfl rfl rfl rfl trivial (fun hg57 => by exact Pu_move (.inl rfl) (by conv => lhs; whnf))) rfl ?_
        refine Dr_st (St_gd [57] rfl rfl rfl rfl ⟨⟨_, rfl⟩, trivial⟩ (fun hg58 => by exact Pu_add rfl rfl rfl (fun h1 h2 => by simp only [A.inI, A.maxI] at *; omega))) rfl ?_
        refine Dr_st (St_gd [56, 58] rfl rfl rfl rfl ⟨⟨_, rfl⟩, ⟨_, rfl⟩, trivial⟩ (fun hg59 => Pu_cmp rfl rfl rfl rfl)) rfl ?_
        refine Dr_st (St_gd [59] rfl rfl rfl rfl ⟨⟨_, rfl⟩, trivial⟩ (fun hg60 => by exact Pu_move (.inl rfl) (by conv => lhs; whnf))) rfl ?_
        refine Dr_st (St_gd2 [] rfl rfl rfl rfl trivial (fun hp61 hg61 => by exact Pu_move (.inl rfl) (by conv => lhs; whnf))) rfl ?_
        refine Dr_st (St_gd2 [] rfl rfl rfl rfl trivial (fun hp62 hg62 => by exact Pu_move (.inl rfl) (by conv => lhs; whnf))) rfl ?_
        refine Dr_st (St_gd2 [61, 62] rfl rfl rfl rfl ⟨⟨_, rfl⟩, ⟨_, rfl⟩, trivial⟩ (fun hp63 hg63 => Pu_index rfl Try.underlying27 Try.sizeOf35 rfl rfl (rfl) (mapget hk))) rfl ?_
        refine Dr_st (St_gd2 [63] rfl rfl rfl rfl ⟨⟨_, rfl⟩, trivial⟩ (fun hp64 hg64 => Pu_field 1 rfl Try.underlying35 rfl rfl Try.sizeOf9 rfl)) rfl ?_
        refine Dr_st (St_gd2 [64] rfl rfl rfl rfl ⟨⟨_, rfl⟩, trivial⟩ (fun hp65 hg65 => Pu_load1 rfl Try.isAgg9 rfl rfl)) rfl ?_
        refine Dr_st (St_gd2 [] rfl rfl rfl rfl trivial (fun hp66 hg66 => by exact Pu_move (.inl rfl) (by conv => lhs; whnf))) rfl ?_
        refine Dr_st (St_gd2 [] rfl rfl rfl rfl trivial (fun hp67 hg67 => by exact Pu_move (.inl rfl) (by conv => lhs; whnf))) rfl ?_
        refine Dr_st (St_gd2 [66, 67] rfl rfl rfl rfl ⟨⟨_, rfl⟩, ⟨_, rfl⟩, trivial⟩ (fun hp68 hg68 => Pu_index rfl Try.underlying27 Try.sizeOf35 rfl rfl (rfl) (mapget hi))) rfl ?_
        refine Dr_st (St_gd2 [68] rfl rfl rfl rfl ⟨⟨_, rfl⟩, trivial⟩ (fun hp69 hg69 => Pu_field 0 rfl Try.underlying35 rfl rfl Try.sizeOf9 rfl)) rfl ?_
        refine Dr_st (St_gd2 [69] rfl rfl rfl rfl ⟨⟨_, rfl⟩, trivial⟩ (fun hp70 hg70 => Pu_load1 rfl Try.isAgg9 rfl rfl)) rfl ?_
        refine Dr_st (St_gd2 [65, 70] rfl rfl rfl rfl ⟨⟨_, rfl⟩, ⟨_, rfl⟩, trivial⟩ (fun hp71 hg71 => Pu_str rfl rfl rfl rfl)) rfl ?_
        refine Dr_st (St_gd [60] rfl rfl rfl rfl ⟨⟨_, rfl⟩, trivial⟩ (fun hg72 => Pu_andG rfl rfl (fun h => ⟨hg72, h⟩) rfl rfl)) rfl ?_
        refine Dr_pu (Pu_or rfl rfl rfl rfl) rfl rfl ?_
        refine Dr_nil ?_
        refine Al_nil ?_
        refine Aw_cond rfl (fun h73 => ?_) (fun h73 => ?_)
        · skip
          exfalso; rw [hap.2.1, hap.back] at h73; simp at h73
        · skip
          refine Aw_skip ?_
          refine Aw_region ?_
          refine Al_pu (Pu_move (.inl rfl) (by conv => lhs; whnf)) rfl rfl (by decide) (by kernel_rfl) ?_
          refine Al_pu (Pu_add rfl rfl rfl (fun h1 h2 => by simp only [A.inI, A.maxI] at *; omega)) rfl rfl (by decide) (by kernel_rfl) ?_
          refine Al_pu (Pu_move (.inr rfl) (by conv => lhs; whnf)) rfl rfl (by decide) (by kernel_rfl) ?_
          refine Al_nil ?_
          exact ⟨k + 1, by omega, by omega, Le.ov ⟨Sub.num (by omega), trivial⟩ ⟨Sub.rfl, Sub.rfl, Sub.rfl, Sub.rfl, Sub.rfl, Sub.rfl, Sub.rfl, Sub.rfl, Sub.rfl, trivial⟩ trivial ⟨rfl, rfl, rfl, trivial⟩⟩ -- loop 2 next.0
      · (try simp only [decide_eq_true_eq, decide_eq_false_iff_not, Bool.and_eq_true, Bool.or_eq_true, Bool.and_eq_false_iff, Bool.or_eq_false_iff, Bool.not_eq_true', Bool.not_eq_false', beq_iff_eq, Bool.not_eq_eq_eq_not, Bool.not_true, Bool.not_false, List.length_map, Bool.and_true, Bool.and_false, Bool.false_and, Bool.true_and, Bool.or_false, Bool.false_or] at h41)
        refine Aw_exit ?_
        refine Aw_region ?_
        refine Al_pu (Pu_move (.inl rfl) (by conv => lhs; whnf)) rfl rfl (by decide) (by kernel_rfl) ?_
        refine Al_pu (Pu_add rfl rfl rfl (fun h1 h2 => by simp only [A.inI, A.maxI] at *; omega)) rfl rfl (by decide) (by kernel_rfl) ?_
        refine Al_pu (Pu_move (.inr rfl) (by conv => lhs; whnf)) rfl rfl (by decide) (by kernel_rfl) ?_
        refine Al_nil ?_
        exact ⟨i + 1, by omega, by omega, Le.ov ⟨Sub.num (by omega), trivial⟩ ⟨Sub.rfl, Sub.rfl, Sub.rfl, Sub.rfl, Sub.rfl, Sub.rfl, Sub.rfl, Sub.rfl, trivial⟩ trivial ⟨rfl, rfl, rfl, trivial⟩⟩ -- loop 1 next.0
    · (try simp only [decide_eq_true_eq, decide_eq_false_iff_not, Bool.and_eq_true, Bool.or_eq_true, Bool.and_eq_false_iff, Bool.or_eq_false_iff, Bool.not_eq_true', Bool.not_eq_false', beq_iff_eq, Bool.not_eq_eq_eq_not, Bool.not_true, Bool.not_false, List.length_map, Bool.and_true, Bool.and_false, Bool.false_and, Bool.true_and, Bool.or_false, Bool.false_or] at h36)
      obtain rfl : i = G.length := by omega
      refine Aw_exit ?_
      refine Aw_region ?_
      refine Al_pu (Pu_move (.inl rfl) (by conv => lhs; whnf)) rfl rfl (by decide) (by kernel_rfl) ?_
      refine Al_pu (Pu_add rfl rfl rfl (fun h1 h2 => by simp only [A.inI, A.maxI] at *; omega)) rfl rfl (by decide) (by kernel_rfl) ?_
      refine Al_pu (Pu_move (.inr rfl) (by conv => lhs; whnf)) rfl rfl (by decide) (by kernel_rfl) ?_
      refine Al_nil ?_
      exact ⟨s + 1, by omega, by omega, Le.ov ⟨Sub.num (by omega), Sub.num (by rw [hus]; simp), trivial⟩ ⟨Sub.rfl, Sub.rfl, Sub.rfl, Sub.rfl, Sub.rfl, trivial⟩ trivial ⟨rfl, rfl, rfl, trivial⟩⟩ -- loop 0 next.0
  · (try simp only [decide_eq_true_eq, decide_eq_false_iff_not, Bool.and_eq_true, Bool.or_eq_true, Bool.and_eq_false_iff, Bool.or_eq_false_iff, Bool.not_eq_true', Bool.not_eq_false', beq_iff_eq, Bool.not_eq_eq_eq_not, Bool.not_true, Bool.not_false, List.length_map, Bool.and_true, Bool.and_false, Bool.false_and, Bool.true_and, Bool.or_false, Bool.false_or] at h22)
    obtain rfl : s = 6 := by omega
    rw [hN]
    refine Aw_exit ?_
    refine Aw_seq ?_
    refine Aw_seq ?_
    refine Aw_region ?_
    refine Al_pu (Pu_move (.inr rfl) (by conv => lhs; whnf)) rfl rfl (by decide) (by kernel_rfl) ?_
    refine Al_nil ?_
    refine Aw_block ?_
    refine Aw_loopk (ι := Nat) [1, 3, 6, 7] [1, 4, 5] (fun j => [(12, .d (iv j))]) (fun j => []) (fun j => j ≤ P.length) (fun j => P.length - j) (0) (Nat.zero_le _) ⟨Sub.rfl, trivial⟩ trivial ?_
    rintro j hk3
    refine Aw_seq ?_
    refine Aw_seq ?_
    refine Aw_region ?_
    refine Al_pu (Pu_move (.inl rfl) (by conv => lhs; whnf)) rfl rfl (by decide) (by kernel_rfl) ?_
    refine Al_pu (Pu_move (.inl rfl) (by conv => lhs; whnf)) rfl rfl (by decide) (by kernel_rfl) ?_
    refine Al_pu (Pu_len rfl Try.underlying31 rfl (by first | exact List.length_map .. | exact rfl)) rfl rfl (by decide) (by kernel_rfl) ?_
    refine Al_pu (Pu_cmp rfl rfl rfl rfl) rfl rfl (by decide) (by kernel_rfl) ?_
    refine Al_nil ?_
    refine Aw_cond rfl (fun h77 => ?_) (fun h77 => ?_)
    · (try simp only [decide_eq_true_eq, decide_eq_false_iff_not, Bool.and_eq_true, Bool.or_eq_true, Bool.and_eq_false_iff, Bool.or_eq_false_iff, Bool.not_eq_true', Bool.not_eq_false', beq_iff_eq, Bool.not_eq_eq_eq_not, Bool.not_true, Bool.not_false, List.length_map, Bool.and_true, Bool.and_false, Bool.false_and, Bool.true_and, Bool.or_false, Bool.false_or] at h77)
      have hj : j < P.length := by omega
      obtain ⟨x, y, hx6, hy6, hx, hy, hxy⟩ := hM (P[j]'hj) (List.getElem_mem hj)
      refine Aw_skip ?_
      refine Aw_seq ?_
      refine Aw_block ?_
      refine Aw_seq ?_
      refine Aw_draw 35 (by kernel_rfl) (by kernel_rfl) ?_
      refine Dr_pu (Pu_move (.inl rfl) (by conv => lhs; whnf)) rfl rfl ?_
      refine Dr_pu (Pu_move (.inl rfl) (by conv => lhs; whnf)) rfl rfl ?_
      refine Dr_pu (Pu_index rfl Try.underlying31 Try.sizeOf37 rfl rfl (rfl) (mapget hj)) rfl rfl ?_
      refine Dr_pu (Pu_field 0 rfl Try.underlying37 rfl rfl Try.sizeOf3 rfl) rfl rfl ?_
      refine Dr_pu (Pu_load1 rfl Try.isAgg3 rfl rfl) rfl rfl ?_
      refine Dr_pu (Pu_move (.inl rfl) (by conv => lhs; whnf)) rfl rfl ?_
      refine Dr_pu (Pu_move (.inl rfl) (by conv => lhs; whnf)) rfl rfl ?_
      refine Dr_pu (Pu_index rfl Try.underlying31 Try.sizeOf37 rfl rfl (rfl) (mapget hj)) rfl rfl ?_
      refine Dr_pu (Pu_field 1 rfl Try.underlying37 rfl rfl Try.sizeOf3 rfl) rfl rfl ?_
      refine Dr_pu (Pu_load1 rfl Try.isAgg3 rfl rfl) rfl rfl ?_
      refine Dr_pu (Pu_cmp rfl rfl rfl rfl) rfl rfl ?_
      refine Dr_pu (Pu_move (.inl rfl) (by conv => lhs; whnf)) rfl rfl ?_
      refine Dr_st (St_gd [] rfl rfl rfl rfl trivial (fun hg92 => by exact Pu_move (.inl rfl) (by conv => lhs; whnf))) rfl ?_
      refine Dr_st (St_gd [] rfl rfl rfl rfl trivial (fun hg93 => by exact Pu_move (.inl rfl) (by conv => lhs; whnf))) rfl ?_
      refine Dr_st (St_gd [92, 93] rfl rfl rfl rfl ⟨⟨_, rfl⟩, ⟨_, rfl⟩, trivial⟩ (fun hg94 => Pu_index rfl Try.underlying31 Try.sizeOf37 rfl rfl (rfl) (mapget hj))) rfl ?_
      refine Dr_st (St_gd [94] rfl rfl rfl rfl ⟨⟨_, rfl⟩, trivial⟩ (fun hg95 => Pu_field 1 rfl Try.underlying37 rfl rfl Try.sizeOf3 rfl)) rfl ?_
      refine Dr_st (St_gd [95] rfl rfl rfl rfl ⟨⟨_, rfl⟩, trivial⟩ (fun hg96 => Pu_load1 rfl Try.isAgg3 rfl rfl)) rfl ?_
      refine Dr_st (St_gd [96] rfl rfl rfl rfl ⟨⟨_, rfl⟩, trivial⟩ (fun hg97 => Pu_cmp rfl rfl rfl rfl)) rfl ?_
      refine Dr_pu (Pu_or rfl rfl rfl rfl) rfl rfl ?_
      refine Dr_pu (Pu_move (.inl rfl) (by conv => lhs; whnf)) rfl rfl ?_
      refine Dr_st (St_gd [] rfl rfl rfl rfl trivial (fun hg100 => by exact Pu_move (.inl rfl) (by conv => lhs; whnf))) rfl ?_
      refine Dr_st (St_gd [] rfl rfl rfl rfl trivial (fun hg101 => by exact Pu_move (.inl rfl) (by conv => lhs; whnf))) rfl ?_
      refine Dr_st (St_gd [100, 101] rfl rfl rfl rfl ⟨⟨_, rfl⟩, ⟨_, rfl⟩, trivial⟩ (fun hg102 => Pu_index rfl Try.underlying31 Try.sizeOf37 rfl rfl (rfl) (mapget hj))) rfl ?_
      refine Dr_st (St_gd [102] rfl rfl rfl rfl ⟨⟨_, rfl⟩, trivial⟩ (fun hg103 => Pu_field 0 rfl Try.underlying37 rfl rfl Try.sizeOf3 rfl)) rfl ?_
      refine Dr_st (St_gd [103] rfl rfl rfl rfl ⟨⟨_, rfl⟩, trivial⟩ (fun hg104 => Pu_load1 rfl Try.isAgg3 rfl rfl)) rfl ?_
      refine Dr_st (St_gd [104] rfl rfl rfl rfl ⟨⟨_, rfl⟩, trivial⟩ (fun hg105 => Pu_cmp rfl rfl rfl rfl)) rfl ?_
      refine Dr_pu (Pu_or rfl rfl rfl rfl) rfl rfl ?_
      refine Dr_pu (Pu_move (.inl rfl) (by conv => lhs; whnf)) rfl rfl ?_
      refine Dr_st (St_gd [] rfl rfl rfl rfl trivial (fun hg108 => by exact Pu_move (.inl rfl) (by conv => lhs; whnf))) rfl ?_
      refine Dr_st (St_gd [] rfl rfl rfl rfl trivial (fun hg109 => by exact Pu_move (.inl rfl) (by conv => lhs; whnf))) rfl ?_
      refine Dr_st (St_gd [108, 109] rfl rfl rfl rfl ⟨⟨_, rfl⟩, ⟨_, rfl⟩, trivial⟩ (fun hg110 => Pu_index rfl Try.underlying31 Try.sizeOf37 rfl rfl (rfl) (mapget hj))) rfl ?_
      refine Dr_st (St_gd [110] rfl rfl rfl rfl ⟨⟨_, rfl⟩, trivial⟩ (fun hg111 => Pu_field 0 rfl Try.underlying37 rfl rfl Try.sizeOf3 rfl)) rfl ?_
      refine Dr_st (St_gd [111] rfl rfl rfl rfl ⟨⟨_, rfl⟩, trivial⟩ (fun hg112 => Pu_load1 rfl Try.isAgg3 rfl rfl)) rfl ?_
      refine Dr_st (St_gd [112] rfl rfl rfl rfl ⟨⟨_, rfl⟩, trivial⟩ (fun hg113 => Pu_cmp rfl rfl rfl rfl)) rfl ?_
      refine Dr_pu (Pu_or rfl rfl rfl rfl) rfl rfl ?_
      refine Dr_nil ?_
      refine Al_nil ?_
      refine Aw_cond rfl (fun h114 => ?_) (fun h114 => ?_)
      · skip
        exfalso; rw [hx, hy] at h114; simp at h114; omega
      · skip
        refine Aw_skip ?_
        refine Aw_region ?_
        refine Al_pu (Pu_move (.inl rfl) (by conv => lhs; whnf)) rfl rfl (by decide) (by kernel_rfl) ?_
        refine Al_pu (Pu_add rfl rfl rfl (fun h1 h2 => by simp only [A.inI, A.maxI] at *; omega)) rfl rfl (by decide) (by kernel_rfl) ?_
        refine Al_pu (Pu_move (.inr rfl) (by conv => lhs; whnf)) rfl rfl (by decide) (by kernel_rfl) ?_
        refine Al_nil ?_
        exact ⟨j + 1, by omega, by omega, Le.ov ⟨Sub.num (by omega), trivial⟩ ⟨Sub.rfl, Sub.rfl, Sub.rfl, Sub.rfl, trivial⟩ trivial ⟨rfl, rfl, rfl, trivial⟩⟩ -- loop 3 next.0
    · (try simp only [decide_eq_true_eq, decide_eq_false_iff_not, Bool.and_eq_true, Bool.or_eq_true, Bool.and_eq_false_iff, Bool.or_eq_false_iff, Bool.not_eq_true', Bool.not_eq_false', beq_iff_eq, Bool.not_eq_eq_eq_not, Bool.not_true, Bool.not_false, List.length_map, Bool.and_true, Bool.and_false, Bool.false_and, Bool.true_and, Bool.or_false, Bool.false_or] at h77)
      refine Aw_exit ?_
      refine Aw_seq ?_
      refine Aw_region ?_
      refine Al_pu (Pu_move (.inl rfl) (by conv => lhs; whnf)) rfl rfl (by decide) (by kernel_rfl) ?_
      refine Al_pu (Pu_move (.inl rfl) (by conv => lhs; whnf)) rfl rfl (by decide) (by kernel_rfl) ?_
      refine Al_st (St_gd [] rfl rfl rfl rfl trivial (fun hg117 => by exact Pu_move (.inl rfl) (by conv => lhs; whnf))) rfl (by decide) (by kernel_rfl) (by intro j b oj dj h1 h2 h3; cases h1; cases h2; cases h3; decide) ?_
      refine Al_st (St_gd [] rfl rfl rfl rfl trivial (fun hg118 => by exact Pu_move (.inl rfl) (by conv => lhs; whnf))) rfl (by decide) (by kernel_rfl) (by intro j b oj dj h1 h2 h3; cases h1; cases h2; cases h3; decide) ?_
      refine Al_st (St_gd [118] rfl rfl rfl rfl ⟨⟨_, rfl⟩, trivial⟩ (fun hg119 => by exact Pu_len rfl Try.underlying31 rfl (by first | exact List.length_map .. | exact rfl))) rfl (by decide) (by kernel_rfl) (by intro j b oj dj h1 h2 h3; cases h1; cases h2; cases h3; decide) ?_
      refine Al_st (St_gd [117, 119] rfl rfl rfl rfl ⟨⟨_, rfl⟩, ⟨_, rfl⟩, trivial⟩ (fun hg120 => Pu_cmp rfl rfl rfl rfl)) rfl (by decide) (by kernel_rfl) (by intro j b oj dj h1 h2 h3; cases h1; cases h2; cases h3; decide) ?_
      refine Al_pu (Pu_and rfl rfl rfl rfl) rfl rfl (by decide) (by kernel_rfl) ?_
      refine Al_pu (Pu_move (.inl rfl) (by conv => lhs; whnf)) rfl rfl (by decide) (by kernel_rfl) ?_
      refine Al_st (St_gd [] rfl rfl rfl rfl trivial (fun hg123 => Pu_field 5 rfl Try.underlying25 rfl rfl Try.sizeOf4 rfl)) rfl (by decide) (by kernel_rfl) (by intro j b oj dj h1 h2 h3; cases h1; cases h2; cases h3; decide) ?_
      refine Al_st (St_gd [123] rfl rfl rfl rfl ⟨⟨_, rfl⟩, trivial⟩ (fun hg124 => Pu_load1 rfl Try.isAgg4 rfl rfl)) rfl (by decide) (by kernel_rfl) (by intro j b oj dj h1 h2 h3; cases h1; cases h2; cases h3; decide) ?_
      refine Al_st (St_gd [124] rfl rfl rfl rfl ⟨⟨_, rfl⟩, trivial⟩ (fun hg125 => Pu_not rfl rfl)) rfl (by decide) (by kernel_rfl) (by intro j b oj dj h1 h2 h3; cases h1; cases h2; cases h3; decide) ?_
      refine Al_st (St_gd [125] rfl rfl rfl rfl ⟨⟨_, rfl⟩, trivial⟩ (fun hg126 => by exact Pu_move (.inl rfl) (by conv => lhs; whnf))) rfl (by decide) (by kernel_rfl) (by intro j b oj dj h1 h2 h3; cases h1; cases h2; cases h3; decide) ?_
      refine Al_st (St_gd2 [] rfl rfl rfl rfl trivial (fun hp127 hg127 => by exact Pu_move (.inl rfl) (by conv => lhs; whnf))) rfl (by decide) (by kernel_rfl) (by intro j b oj dj h1 h2 h3; cases h1; cases h2; cases h3; decide) ?_
      refine Al_st (St_gd2 [127] rfl rfl rfl rfl ⟨⟨_, rfl⟩, trivial⟩ (fun hp128 hg128 => by exact Pu_len rfl Try.underlying31 rfl (by first | exact List.length_map .. | exact rfl))) rfl (by decide) (by kernel_rfl) (by intro j b oj dj h1 h2 h3; cases h1; cases h2; cases h3; decide) ?_
      refine Al_st (St_gd2 [128] rfl rfl rfl rfl ⟨⟨_, rfl⟩, trivial⟩ (fun hp129 hg129 => Pu_cmp rfl rfl rfl rfl)) rfl (by decide) (by kernel_rfl) (by intro j b oj dj h1 h2 h3; cases h1; cases h2; cases h3; decide) ?_
      refine Al_st (St_gd [126] rfl rfl rfl rfl ⟨⟨_, rfl⟩, trivial⟩ (fun hg130 => Pu_orG rfl rfl rfl (fun h => ⟨hg130, h⟩) rfl)) rfl (by decide) (by kernel_rfl) (by intro j b oj dj h1 h2 h3; cases h1; cases h2; cases h3; decide) ?_
      refine Al_pu (Pu_and rfl rfl rfl rfl) rfl rfl (by decide) (by kernel_rfl) ?_
      refine Al_pu (Pu_move (.inr rfl) (by conv => lhs; whnf)) rfl rfl (by decide) (by kernel_rfl) ?_
      refine Al_nil ?_
      refine Aw_ret ?_
      exact Sub.bool (by
        cases ho : q.odd with
        | false => simp
        | true => rw [hO ho]; simp) -- ret 0
end Go.Proofs.Ytfalbocgnmlncaa
