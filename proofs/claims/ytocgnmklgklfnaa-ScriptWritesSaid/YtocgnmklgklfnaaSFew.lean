/- few of chapter 22's law: the walk. -/
import Derived.Test.YtocgnmklgklfnaaSOp
set_option linter.unusedSimpArgs false
set_option linter.unusedVariables false
namespace Go.Proofs.Ytocgnmklgklfnaa
open Go.RowKit A
abbrev S.bx (o : SOp) : List SV := o.row.map .d
theorem A.boxeq {g : Nat} {T : TypeId} {a b : List SV} (h : a = b) : some (g, AO.box T a) = some (g, AO.box T b) := h ▸ rfl
def S.k9 (o : SOp) : SOp := { o with keys := o.keys.take 9 }
set_option maxRecDepth 100000 in
theorem sfew_a (o : SOp) : ACall Try.prog 9 [.row o.row] (.row (S.few o).row) := by
  refine ACall_enterG (fun _ _ => by kernel_rfl) Try.func9 rfl Try.ntmps9 (Reads.cN Try.results9 Try.isAgg30 Try.sizeOf30) (Nat.le_of_ble_eq_true rfl) (fun hok M0 w0 hnl => ?_)
  have hr := (hok _ (List.mem_cons_self ..)).row
  have l0 := (hr (.sl 1 (o.keys.map fun s => [tv s])) (by simp [SOp.row])).len
  rw [List.length_map] at l0
  refine Aw_seq ?_
  refine Aw_region ?_
  refine Al_boxN rfl rfl rfl (by decide) (by kernel_rfl) rfl (fun g1 => ?_)
  refine Al_alloc rfl rfl rfl (by decide) Try.zeroValue30 rfl (by kernel_rfl) (fun g2 => ?_)
  refine Al_nil ?_
  refine Aw_join (ι := Unit) [1, 2] [2] (fun _ => []) (fun _ => [(1, g1, .box 30 (S.bx (S.k9 o)))]) (fun _ => True) ?_ ?_ -- join 0
  · refine Aw_seq ?_
    refine Aw_region ?_
    refine Al_pu (Pu_fieldb 8 rfl Try.underlying30 rfl rfl Try.sizeOf24 rfl) rfl rfl (by decide) (by kernel_rfl) ?_
    refine Al_pu (Pu_loadb rfl Try.isAgg24 rfl rfl rfl) rfl rfl (by decide) (by kernel_rfl) ?_
    refine Al_pu (Pu_len rfl Try.underlying24 rfl (by first | exact List.length_map .. | exact rfl)) rfl rfl (by decide) (by kernel_rfl) ?_
    refine Al_pu (Pu_cmp rfl rfl rfl rfl) rfl rfl (by decide) (by kernel_rfl) ?_
    refine Al_nil ?_
    refine Aw_cond rfl (fun h10 => ?_) (fun h10 => ?_)
    · (try simp only [decide_eq_true_eq, decide_eq_false_iff_not, Bool.and_eq_true, Bool.or_eq_true, Bool.and_eq_false_iff, Bool.or_eq_false_iff, Bool.not_eq_true', Bool.not_eq_false', beq_iff_eq, Bool.not_eq_eq_eq_not, Bool.not_true, Bool.not_false, List.length_map, Bool.and_true, Bool.and_false, Bool.false_and, Bool.true_and, Bool.or_false, Bool.false_or] at h10)
      refine Aw_region ?_
      refine Al_pu (Pu_fieldb 8 rfl Try.underlying30 rfl rfl Try.sizeOf24 rfl) rfl rfl (by decide) (by kernel_rfl) ?_
      refine Al_pu (Pu_loadb rfl Try.isAgg24 rfl rfl rfl) rfl rfl (by decide) (by kernel_rfl) ?_
      refine Al_pu (Pu_subL (0) (9) rfl Try.underlying24 Try.sizeOf9 rfl rfl ⟨_, rfl, by omega⟩ ⟨by first | omega | (simp; omega), by first | omega | (simp; omega)⟩) rfl rfl (by decide) (by kernel_rfl) ?_
      refine Al_pu (Pu_fieldb 8 rfl Try.underlying30 rfl rfl Try.sizeOf24 rfl) rfl rfl (by decide) (by kernel_rfl) ?_
      refine Al_store1 rfl rfl rfl (by kernel_rfl) Try.isAgg24 Try.sizeOf24 rfl rfl (Nat.le_of_ble_eq_true rfl) (by conv => lhs; whnf) rfl ?_
      refine Al_nil ?_
      exact ⟨(), trivial, Le.ov trivial ⟨Sub.rfl, Sub.rfl, trivial⟩ ⟨A.boxeq (by simp [S.bx, S.k9, SOp.row, List.map_take]), trivial⟩ ⟨rfl, trivial⟩⟩ -- join 0 next.0
    · (try simp only [decide_eq_true_eq, decide_eq_false_iff_not, Bool.and_eq_true, Bool.or_eq_true, Bool.and_eq_false_iff, Bool.or_eq_false_iff, Bool.not_eq_true', Bool.not_eq_false', beq_iff_eq, Bool.not_eq_eq_eq_not, Bool.not_true, Bool.not_false, List.length_map, Bool.and_true, Bool.and_false, Bool.false_and, Bool.true_and, Bool.or_false, Bool.false_or] at h10)
      refine Aw_skip ?_
      exact ⟨(), trivial, Le.ov trivial ⟨Sub.rfl, Sub.rfl, trivial⟩ ⟨A.boxeq (by simp [S.bx, S.k9, SOp.row, List.take_of_length_le (show o.keys.length ≤ 9 by omega)]), trivial⟩ ⟨rfl, trivial⟩⟩ -- join 0 next.1
  · rintro _ hj0
    have hks : (S.k9 o).keys.length ≤ 9 := by simp [S.k9]; omega
    have lr : (S.k9 o).c.ranges.length ≤ A.maxI ∧ (S.k9 o).c.owners.length ≤ A.maxI ∧ (S.k9 o).c.parents.length ≤ A.maxI := by
      have l1 := (hr (.sl 2 (o.c.ranges.map Rng.row)) (by simp [SOp.row])).len
      have l2 := (hr (.sl 1 (o.c.owners.map fun x => [iv x])) (by simp [SOp.row])).len
      have l3 := (hr (.sl 1 (o.c.parents.map fun x => [iv x])) (by simp [SOp.row])).len
      rw [List.length_map] at l1 l2 l3
      exact ⟨l1, l2, l3⟩
    obtain ⟨l1, l2, l3⟩ := lr
    simp only [A.maxI] at l1 l2 l3
    have hfew : S.few o = ⟨(S.k9 o).kind, (S.k9 o).client, (S.k9 o).site, (S.k9 o).to', (S.k9 o).at', (S.k9 o).how, S.short (S.k9 o).key, S.short (S.k9 o).value, (S.k9 o).keys.map S.short, ⟨((S.k9 o).c.ranges.take 9).map S.cutR, (S.k9 o).c.owners.take 9, (S.k9 o).c.parents.take 9⟩⟩ := rfl
    rw [hfew]
    generalize S.k9 o = p at *
    refine Aw_seq ?_
    refine Aw_region ?_
    refine Al_pu (Pu_move (.inr rfl) (by conv => lhs; whnf)) rfl rfl (by decide) (by kernel_rfl) ?_
    refine Al_nil ?_
    refine Aw_seq ?_
    refine Aw_seq ?_
    refine Aw_region ?_
    refine Al_pu (Pu_move (.inr rfl) (by conv => lhs; whnf)) rfl rfl (by decide) (by kernel_rfl) ?_
    refine Al_nil ?_
    refine Aw_block ?_
    refine Aw_own (j := 3) (k := 3) (T := 9) (n := 1) rfl (fun g0 => ?_)
    refine Aw_loopk (ι := Nat × Nat) [1, 2] [1, 2] (fun (k, g) => [(4, .d (iv k)), (3, .ow 3 g)]) (fun (k, g) => [(3, g, .arr 9 1 (((p.keys.take k).map S.short).map fun s => [tv s]))]) (fun (k, g) => k ≤ p.keys.length) (fun (k, g) => p.keys.length - k) ((0, g0)) (Nat.zero_le _) ⟨Sub.rfl, Sub.rfl, trivial⟩ ⟨rfl, trivial⟩ ?_
    rintro ⟨k, g⟩ hk0
    refine Aw_seq ?_
    refine Aw_seq ?_
    refine Aw_region ?_
    refine Al_pu (Pu_move (.inl rfl) (by conv => lhs; whnf)) rfl rfl (by decide) (by kernel_rfl) ?_
    refine Al_pu (Pu_fieldb 8 rfl Try.underlying30 rfl rfl Try.sizeOf24 rfl) rfl rfl (by decide) (by kernel_rfl) ?_
    refine Al_pu (Pu_loadb rfl Try.isAgg24 rfl rfl rfl) rfl rfl (by decide) (by kernel_rfl) ?_
    refine Al_pu (Pu_len rfl Try.underlying24 rfl (by first | exact List.length_map .. | exact rfl)) rfl rfl (by decide) (by kernel_rfl) ?_
    refine Al_pu (Pu_cmp rfl rfl rfl rfl) rfl rfl (by decide) (by kernel_rfl) ?_
    refine Al_nil ?_
    refine Aw_cond rfl (fun h19 => ?_) (fun h19 => ?_)
    · (try simp only [decide_eq_true_eq, decide_eq_false_iff_not, Bool.and_eq_true, Bool.or_eq_true, Bool.and_eq_false_iff, Bool.or_eq_false_iff, Bool.not_eq_true', Bool.not_eq_false', beq_iff_eq, Bool.not_eq_eq_eq_not, Bool.not_true, Bool.not_false, List.length_map, Bool.and_true, Bool.and_false, Bool.false_and, Bool.true_and, Bool.or_false, Bool.false_or] at h19)
      have hk : k < p.keys.length := by omega
      refine Aw_skip ?_
      refine Aw_seq ?_
      refine Aw_block ?_
      refine Aw_region ?_
      refine Al_pu (Pu_move (.inl rfl) (by conv => lhs; whnf)) rfl rfl (by decide) (by kernel_rfl) ?_
      refine Al_pu (Pu_fieldb 8 rfl Try.underlying30 rfl rfl Try.sizeOf24 rfl) rfl rfl (by decide) (by kernel_rfl) ?_
      refine Al_pu (Pu_loadb rfl Try.isAgg24 rfl rfl rfl) rfl rfl (by decide) (by kernel_rfl) ?_
      refine Al_pu (Pu_move (.inl rfl) (by conv => lhs; whnf)) rfl rfl (by decide) (by kernel_rfl) ?_
      refine Al_pu (Pu_index rfl Try.underlying24 Try.sizeOf9 rfl rfl (rfl) (mapget hk)) rfl rfl (by decide) (by kernel_rfl) ?_
      refine Al_pu (Pu_load1 rfl Try.isAgg9 rfl rfl) rfl rfl (by decide) (by kernel_rfl) ?_
      refine Al_pu (Pu_call (sshort_a _) rfl ⟨Sub.rfl, trivial⟩) rfl rfl (by decide) (by kernel_rfl) ?_
      refine Al_pu (Pu_slice1 rfl Try.underlying24 Try.sizeOf9 Try.zeroValue9 rfl (by decide) (by decide) (by kernel_rfl) rfl rfl rfl) rfl rfl (by decide) (by kernel_rfl) ?_
      refine Al_append rfl rfl rfl (by decide) (by kernel_rfl) elem24 (by decide) Try.sizeOf9 rfl rfl rfl (by simp; omega) (by decide) (fun g30 => ?_)
      refine Al_pu (Pu_move (.inr rfl) (by conv => lhs; whnf)) rfl rfl (by decide) (by kernel_rfl) ?_
      refine Al_nil ?_
      refine Aw_region ?_
      refine Al_pu (Pu_move (.inl rfl) (by conv => lhs; whnf)) rfl rfl (by decide) (by kernel_rfl) ?_
      refine Al_pu (Pu_add rfl rfl rfl (fun h1 h2 => by simp only [A.inI, A.maxI] at *; omega)) rfl rfl (by decide) (by kernel_rfl) ?_
      refine Al_pu (Pu_move (.inr rfl) (by conv => lhs; whnf)) rfl rfl (by decide) (by kernel_rfl) ?_
      refine Al_nil ?_
      exact ⟨(k + 1, g30), by omega, by simp only []; omega, Le.ov ⟨Sub.num (by omega), Sub.rfl, trivial⟩ ⟨Sub.rfl, Sub.rfl, trivial⟩ ⟨obeq (by rw [List.take_succ_eq_append_getElem hk]; simp only [List.map_append]; rfl), trivial⟩ ⟨rfl, rfl, trivial⟩⟩ -- loop 0 next.0
    · (try simp only [decide_eq_true_eq, decide_eq_false_iff_not, Bool.and_eq_true, Bool.or_eq_true, Bool.and_eq_false_iff, Bool.or_eq_false_iff, Bool.not_eq_true', Bool.not_eq_false', beq_iff_eq, Bool.not_eq_eq_eq_not, Bool.not_true, Bool.not_false, List.length_map, Bool.and_true, Bool.and_false, Bool.false_and, Bool.true_and, Bool.or_false, Bool.false_or] at h19)
      obtain rfl : k = p.keys.length := by omega
      refine Aw_exit ?_
      refine Aw_seq ?_
      refine Aw_frz (k := 3) [3] rfl ⟨rfl, trivial⟩ ?_
      refine Aw_region ?_
      refine Al_pu (Pu_move (.inl rfl) (by conv => lhs; whnf)) rfl rfl (by decide) (by kernel_rfl) ?_
      refine Al_pu (Pu_fieldb 8 rfl Try.underlying30 rfl rfl Try.sizeOf24 rfl) rfl rfl (by decide) (by kernel_rfl) ?_
      refine Al_store1 rfl rfl rfl (by kernel_rfl) Try.isAgg24 Try.sizeOf24 rfl rfl (Nat.le_of_ble_eq_true rfl) (by conv => lhs; whnf) rfl ?_
      refine Al_nil ?_
      refine Aw_seq ?_
      refine Aw_region ?_
      refine Al_pu (Pu_fieldb 6 rfl Try.underlying30 rfl rfl Try.sizeOf9 rfl) rfl rfl (by decide) (by kernel_rfl) ?_
      refine Al_pu (Pu_loadb rfl Try.isAgg9 rfl rfl rfl) rfl rfl (by decide) (by kernel_rfl) ?_
      refine Al_pu (Pu_call (sshort_a _) rfl ⟨Sub.rfl, trivial⟩) rfl rfl (by decide) (by kernel_rfl) ?_
      refine Al_pu (Pu_fieldb 6 rfl Try.underlying30 rfl rfl Try.sizeOf9 rfl) rfl rfl (by decide) (by kernel_rfl) ?_
      refine Al_store1 rfl rfl rfl (by kernel_rfl) Try.isAgg9 Try.sizeOf9 rfl rfl (Nat.le_of_ble_eq_true rfl) (by conv => lhs; whnf) rfl ?_
      refine Al_nil ?_
      refine Aw_seq ?_
      refine Aw_region ?_
      refine Al_pu (Pu_fieldb 7 rfl Try.underlying30 rfl rfl Try.sizeOf9 rfl) rfl rfl (by decide) (by kernel_rfl) ?_
      refine Al_pu (Pu_loadb rfl Try.isAgg9 rfl rfl rfl) rfl rfl (by decide) (by kernel_rfl) ?_
      refine Al_pu (Pu_call (sshort_a _) rfl ⟨Sub.rfl, trivial⟩) rfl rfl (by decide) (by kernel_rfl) ?_
      refine Al_pu (Pu_fieldb 7 rfl Try.underlying30 rfl rfl Try.sizeOf9 rfl) rfl rfl (by decide) (by kernel_rfl) ?_
      refine Al_store1 rfl rfl rfl (by kernel_rfl) Try.isAgg9 Try.sizeOf9 rfl rfl (Nat.le_of_ble_eq_true rfl) (by conv => lhs; whnf) rfl ?_
      refine Al_nil ?_
      refine Aw_seq ?_
      refine Aw_region ?_
      refine Al_pu (Pu_move (.inr rfl) (by conv => lhs; whnf)) rfl rfl (by decide) (by kernel_rfl) ?_
      refine Al_nil ?_
      refine Aw_seq ?_
      refine Aw_seq ?_
      refine Aw_region ?_
      refine Al_pu (Pu_move (.inr rfl) (by conv => lhs; whnf)) rfl rfl (by decide) (by kernel_rfl) ?_
      refine Al_nil ?_
      refine Aw_block ?_
      refine Aw_own (j := 5) (k := 5) (T := 46) (n := 2) rfl (fun g5 => ?_)
      refine Aw_loopk (ι := Nat × Nat) [1, 2] [1, 2] (fun (j, g) => [(6, .d (iv j)), (5, .ow 5 g)]) (fun (j, g) => [(5, g, .arr 46 2 (((p.c.ranges.take j).map S.cutR).map Rng.row))]) (fun (j, g) => j ≤ p.c.ranges.length ∧ j ≤ 9) (fun (j, g) => p.c.ranges.length - j) ((0, g5)) (⟨Nat.zero_le _, by omega⟩) ⟨Sub.rfl, Sub.rfl, trivial⟩ ⟨rfl, trivial⟩ ?_
      rintro ⟨j, g⟩ ⟨hk1, hj9⟩
      refine Aw_seq ?_
      refine Aw_seq ?_
      refine Aw_region ?_
      refine Al_pu (Pu_move (.inl rfl) (by conv => lhs; whnf)) rfl rfl (by decide) (by kernel_rfl) ?_
      refine Al_pu (Pu_fieldb 9 rfl Try.underlying30 rfl rfl Try.sizeOf28 rfl) rfl rfl (by decide) (by kernel_rfl) ?_
      refine Al_pu (Pu_fieldb 0 rfl Try.underlying28 rfl rfl Try.sizeOf25 rfl) rfl rfl (by decide) (by kernel_rfl) ?_
      refine Al_pu (Pu_loadb rfl Try.isAgg25 rfl rfl rfl) rfl rfl (by decide) (by kernel_rfl) ?_
      refine Al_pu (Pu_len rfl Try.underlying25 rfl (by first | exact List.length_map .. | exact rfl)) rfl rfl (by decide) (by kernel_rfl) ?_
      refine Al_pu (Pu_cmp rfl rfl rfl rfl) rfl rfl (by decide) (by kernel_rfl) ?_
      refine Al_pu (Pu_move (.inl rfl) (by conv => lhs; whnf)) rfl rfl (by decide) (by kernel_rfl) ?_
      refine Al_st (St_gd [] rfl rfl rfl rfl trivial (fun hg48 => by exact Pu_move (.inl rfl) (by conv => lhs; whnf))) rfl (by decide) (by kernel_rfl) (by intro j b oj dj h1 h2 h3; cases h1; cases h2; cases h3; decide) ?_
      refine Al_st (St_gd [48] rfl rfl rfl rfl ⟨⟨_, rfl⟩, trivial⟩ (fun hg49 => Pu_cmp rfl rfl rfl rfl)) rfl (by decide) (by kernel_rfl) (by intro j b oj dj h1 h2 h3; cases h1; cases h2; cases h3; decide) ?_
      refine Al_pu (Pu_and rfl rfl rfl rfl) rfl rfl (by decide) (by kernel_rfl) ?_
      refine Al_nil ?_
      refine Aw_cond rfl (fun h50 => ?_) (fun h50 => ?_)
      · (try simp only [decide_eq_true_eq, decide_eq_false_iff_not, Bool.and_eq_true, Bool.or_eq_true, Bool.and_eq_false_iff, Bool.or_eq_false_iff, Bool.not_eq_true', Bool.not_eq_false', beq_iff_eq, Bool.not_eq_eq_eq_not, Bool.not_true, Bool.not_false, List.length_map, Bool.and_true, Bool.and_false, Bool.false_and, Bool.true_and, Bool.or_false, Bool.false_or] at h50)
        obtain ⟨h1, h2⟩ := h50
        have hj : j < p.c.ranges.length := by omega
        refine Aw_skip ?_
        refine Aw_seq ?_
        refine Aw_block ?_
        refine Aw_draw 19 (by kernel_rfl) (by kernel_rfl) ?_
        refine Dr_pu (Pu_move (.inl rfl) (by conv => lhs; whnf)) rfl rfl ?_
        refine Dr_pu (Pu_fieldb 9 rfl Try.underlying30 rfl rfl Try.sizeOf28 rfl) rfl rfl ?_
        refine Dr_pu (Pu_fieldb 0 rfl Try.underlying28 rfl rfl Try.sizeOf25 rfl) rfl rfl ?_
        refine Dr_pu (Pu_loadb rfl Try.isAgg25 rfl rfl rfl) rfl rfl ?_
        refine Dr_pu (Pu_move (.inl rfl) (by conv => lhs; whnf)) rfl rfl ?_
        refine Dr_pu (Pu_index rfl Try.underlying25 Try.sizeOf46 rfl rfl (rfl) (mapget hj)) rfl rfl ?_
        refine Dr_pu (Pu_field 0 rfl Try.underlying46 rfl rfl Try.sizeOf9 rfl) rfl rfl ?_
        refine Dr_pu (Pu_load1 rfl Try.isAgg9 rfl rfl) rfl rfl ?_
        refine Dr_pu (Pu_call (sshort_a _) rfl ⟨Sub.rfl, trivial⟩) rfl rfl ?_
        refine Dr_pu (Pu_fieldb 9 rfl Try.underlying30 rfl rfl Try.sizeOf28 rfl) rfl rfl ?_
        refine Dr_pu (Pu_fieldb 0 rfl Try.underlying28 rfl rfl Try.sizeOf25 rfl) rfl rfl ?_
        refine Dr_pu (Pu_loadb rfl Try.isAgg25 rfl rfl rfl) rfl rfl ?_
        refine Dr_pu (Pu_move (.inl rfl) (by conv => lhs; whnf)) rfl rfl ?_
        refine Dr_pu (Pu_index rfl Try.underlying25 Try.sizeOf46 rfl rfl (rfl) (mapget hj)) rfl rfl ?_
        refine Dr_pu (Pu_field 1 rfl Try.underlying46 rfl rfl Try.sizeOf9 rfl) rfl rfl ?_
        refine Dr_pu (Pu_load1 rfl Try.isAgg9 rfl rfl) rfl rfl ?_
        refine Dr_pu (Pu_call (sshort_a _) rfl ⟨Sub.rfl, trivial⟩) rfl rfl ?_
        refine Dr_pu (Pu_build (aa := [(0, _), (1, _)]) rfl Try.underlying46 Try.zeroValue46 (places46 Try.underlying46) (by kernel_rfl) ⟨rfl, rfl, rfl, rfl, rfl, rfl, trivial⟩ rfl) rfl rfl ?_
        refine Dr_pu (Pu_slice1 rfl Try.underlying25 Try.sizeOf46 Try.zeroValue46 rfl (by decide) (by decide) (by kernel_rfl) rfl rfl rfl) rfl rfl ?_
        refine Dr_nil ?_
        refine Al_append rfl rfl rfl (by decide) (by kernel_rfl) elem25 (by decide) Try.sizeOf46 rfl rfl rfl (by simp; omega) (by decide) (fun g72 => ?_)
        refine Al_pu (Pu_move (.inr rfl) (by conv => lhs; whnf)) rfl rfl (by decide) (by kernel_rfl) ?_
        refine Al_nil ?_
        refine Aw_region ?_
        refine Al_pu (Pu_move (.inl rfl) (by conv => lhs; whnf)) rfl rfl (by decide) (by kernel_rfl) ?_
        refine Al_pu (Pu_add rfl rfl rfl (fun h1 h2 => by simp only [A.inI, A.maxI] at *; omega)) rfl rfl (by decide) (by kernel_rfl) ?_
        refine Al_pu (Pu_move (.inr rfl) (by conv => lhs; whnf)) rfl rfl (by decide) (by kernel_rfl) ?_
        refine Al_nil ?_
        exact ⟨(j + 1, g72), ⟨by omega, by omega⟩, by simp only []; omega, Le.ov ⟨Sub.num (by omega), Sub.rfl, trivial⟩ ⟨Sub.rfl, Sub.rfl, trivial⟩ ⟨obeq (by rw [List.take_succ_eq_append_getElem hj]; simp only [List.map_append]; rfl), trivial⟩ ⟨rfl, rfl, trivial⟩⟩ -- loop 1 next.0
      · (try simp only [decide_eq_true_eq, decide_eq_false_iff_not, Bool.and_eq_true, Bool.or_eq_true, Bool.and_eq_false_iff, Bool.or_eq_false_iff, Bool.not_eq_true', Bool.not_eq_false', beq_iff_eq, Bool.not_eq_eq_eq_not, Bool.not_true, Bool.not_false, List.length_map, Bool.and_true, Bool.and_false, Bool.false_and, Bool.true_and, Bool.or_false, Bool.false_or] at h50)
        have he : p.c.ranges.take j = p.c.ranges.take 9 := by
          by_cases h : j = 9
          · rw [h]
          · rw [List.take_of_length_le (by omega), List.take_of_length_le (by omega)]
        refine Aw_exit ?_
        refine Aw_seq ?_
        refine Aw_frz (k := 5) [5] rfl ⟨rfl, trivial⟩ ?_
        refine Aw_region ?_
        refine Al_pu (Pu_move (.inl rfl) (by conv => lhs; whnf)) rfl rfl (by decide) (by kernel_rfl) ?_
        refine Al_pu (Pu_fieldb 9 rfl Try.underlying30 rfl rfl Try.sizeOf28 rfl) rfl rfl (by decide) (by kernel_rfl) ?_
        refine Al_pu (Pu_fieldb 0 rfl Try.underlying28 rfl rfl Try.sizeOf25 rfl) rfl rfl (by decide) (by kernel_rfl) ?_
        refine Al_store1 rfl rfl rfl (by kernel_rfl) Try.isAgg25 Try.sizeOf25 rfl rfl (Nat.le_of_ble_eq_true rfl) (by conv => lhs; whnf) rfl ?_
        refine Al_nil ?_
        -- join 1: live [1, 2], turned []
        refine Aw_seq ?_
        refine Aw_seq ?_
        refine Aw_region ?_
        refine Al_pu (Pu_fieldb 9 rfl Try.underlying30 rfl rfl Try.sizeOf28 rfl) rfl rfl (by decide) (by kernel_rfl) ?_
        refine Al_pu (Pu_fieldb 1 rfl Try.underlying28 rfl rfl Try.sizeOf26 rfl) rfl rfl (by decide) (by kernel_rfl) ?_
        refine Al_pu (Pu_loadb rfl Try.isAgg26 rfl rfl rfl) rfl rfl (by decide) (by kernel_rfl) ?_
        refine Al_pu (Pu_len rfl Try.underlying26 rfl (by first | exact List.length_map .. | exact rfl)) rfl rfl (by decide) (by kernel_rfl) ?_
        refine Al_pu (Pu_cmp rfl rfl rfl rfl) rfl rfl (by decide) (by kernel_rfl) ?_
        refine Al_nil ?_
        refine Aw_cond rfl (fun h80 => ?_) (fun h80 => ?_)
        · (try simp only [decide_eq_true_eq, decide_eq_false_iff_not, Bool.and_eq_true, Bool.or_eq_true, Bool.and_eq_false_iff, Bool.or_eq_false_iff, Bool.not_eq_true', Bool.not_eq_false', beq_iff_eq, Bool.not_eq_eq_eq_not, Bool.not_true, Bool.not_false, List.length_map, Bool.and_true, Bool.and_false, Bool.false_and, Bool.true_and, Bool.or_false, Bool.false_or] at h80)
          refine Aw_region ?_
          refine Al_pu (Pu_fieldb 9 rfl Try.underlying30 rfl rfl Try.sizeOf28 rfl) rfl rfl (by decide) (by kernel_rfl) ?_
          refine Al_pu (Pu_fieldb 1 rfl Try.underlying28 rfl rfl Try.sizeOf26 rfl) rfl rfl (by decide) (by kernel_rfl) ?_
          refine Al_pu (Pu_loadb rfl Try.isAgg26 rfl rfl rfl) rfl rfl (by decide) (by kernel_rfl) ?_
          refine Al_pu (Pu_subL (0) (9) rfl Try.underlying26 Try.sizeOf3 rfl rfl ⟨_, rfl, by omega⟩ ⟨by first | omega | (simp; omega), by first | omega | (simp; omega)⟩) rfl rfl (by decide) (by kernel_rfl) ?_
          refine Al_pu (Pu_fieldb 9 rfl Try.underlying30 rfl rfl Try.sizeOf28 rfl) rfl rfl (by decide) (by kernel_rfl) ?_
          refine Al_pu (Pu_fieldb 1 rfl Try.underlying28 rfl rfl Try.sizeOf26 rfl) rfl rfl (by decide) (by kernel_rfl) ?_
          refine Al_store1 rfl rfl rfl (by kernel_rfl) Try.isAgg26 Try.sizeOf26 rfl rfl (Nat.le_of_ble_eq_true rfl) (by conv => lhs; whnf) rfl ?_
          refine Al_nil ?_
          -- join 2: live [1, 2], turned []
          refine Aw_seq ?_
          refine Aw_seq ?_
          refine Aw_region ?_
          refine Al_pu (Pu_fieldb 9 rfl Try.underlying30 rfl rfl Try.sizeOf28 rfl) rfl rfl (by decide) (by kernel_rfl) ?_
          refine Al_pu (Pu_fieldb 2 rfl Try.underlying28 rfl rfl Try.sizeOf26 rfl) rfl rfl (by decide) (by kernel_rfl) ?_
          refine Al_pu (Pu_loadb rfl Try.isAgg26 rfl rfl rfl) rfl rfl (by decide) (by kernel_rfl) ?_
          refine Al_pu (Pu_len rfl Try.underlying26 rfl (by first | exact List.length_map .. | exact rfl)) rfl rfl (by decide) (by kernel_rfl) ?_
          refine Al_pu (Pu_cmp rfl rfl rfl rfl) rfl rfl (by decide) (by kernel_rfl) ?_
          refine Al_nil ?_
          refine Aw_cond rfl (fun h91 => ?_) (fun h91 => ?_)
          · (try simp only [decide_eq_true_eq, decide_eq_false_iff_not, Bool.and_eq_true, Bool.or_eq_true, Bool.and_eq_false_iff, Bool.or_eq_false_iff, Bool.not_eq_true', Bool.not_eq_false', beq_iff_eq, Bool.not_eq_eq_eq_not, Bool.not_true, Bool.not_false, List.length_map, Bool.and_true, Bool.and_false, Bool.false_and, Bool.true_and, Bool.or_false, Bool.false_or] at h91)
            refine Aw_region ?_
            refine Al_pu (Pu_fieldb 9 rfl Try.underlying30 rfl rfl Try.sizeOf28 rfl) rfl rfl (by decide) (by kernel_rfl) ?_
            refine Al_pu (Pu_fieldb 2 rfl Try.underlying28 rfl rfl Try.sizeOf26 rfl) rfl rfl (by decide) (by kernel_rfl) ?_
            refine Al_pu (Pu_loadb rfl Try.isAgg26 rfl rfl rfl) rfl rfl (by decide) (by kernel_rfl) ?_
            refine Al_pu (Pu_subL (0) (9) rfl Try.underlying26 Try.sizeOf3 rfl rfl ⟨_, rfl, by omega⟩ ⟨by first | omega | (simp; omega), by first | omega | (simp; omega)⟩) rfl rfl (by decide) (by kernel_rfl) ?_
            refine Al_pu (Pu_fieldb 9 rfl Try.underlying30 rfl rfl Try.sizeOf28 rfl) rfl rfl (by decide) (by kernel_rfl) ?_
            refine Al_pu (Pu_fieldb 2 rfl Try.underlying28 rfl rfl Try.sizeOf26 rfl) rfl rfl (by decide) (by kernel_rfl) ?_
            refine Al_store1 rfl rfl rfl (by kernel_rfl) Try.isAgg26 Try.sizeOf26 rfl rfl (Nat.le_of_ble_eq_true rfl) (by conv => lhs; whnf) rfl ?_
            refine Al_nil ?_
            refine Aw_seq ?_
            refine Aw_region ?_
            refine Al_pu (Pu_loadbN (r := [_, _, _, _, _, _, _, _, _, _, _, _]) rfl Try.isAgg30 Try.sizeOf30 rfl rfl rfl rfl) rfl rfl (by decide) (by kernel_rfl) ?_
            refine Al_storeN rfl rfl rfl (by kernel_rfl) Try.isAgg30 Try.sizeOf30 rfl rfl rfl rfl (Nat.le_of_ble_eq_true rfl) ?_
            refine Al_nil ?_
            refine Aw_ret ?_
            exact ⟨_, _, _, _, _, [_, _, _, _, _, _, _, _, _, _, _, _], rfl, rfl, rfl, rfl, by simp [SOp.row, he, List.map_take]⟩ -- ret 0
          · (try simp only [decide_eq_true_eq, decide_eq_false_iff_not, Bool.and_eq_true, Bool.or_eq_true, Bool.and_eq_false_iff, Bool.or_eq_false_iff, Bool.not_eq_true', Bool.not_eq_false', beq_iff_eq, Bool.not_eq_eq_eq_not, Bool.not_true, Bool.not_false, List.length_map, Bool.and_true, Bool.and_false, Bool.false_and, Bool.true_and, Bool.or_false, Bool.false_or] at h91)
            refine Aw_skip ?_
            refine Aw_seq ?_
            refine Aw_region ?_
            refine Al_pu (Pu_loadbN (r := [_, _, _, _, _, _, _, _, _, _, _, _]) rfl Try.isAgg30 Try.sizeOf30 rfl rfl rfl rfl) rfl rfl (by decide) (by kernel_rfl) ?_
            refine Al_storeN rfl rfl rfl (by kernel_rfl) Try.isAgg30 Try.sizeOf30 rfl rfl rfl rfl (Nat.le_of_ble_eq_true rfl) ?_
            refine Al_nil ?_
            refine Aw_ret ?_
            exact ⟨_, _, _, _, _, [_, _, _, _, _, _, _, _, _, _, _, _], rfl, rfl, rfl, rfl, by simp [SOp.row, he, List.map_take, List.take_of_length_le (show p.c.parents.length ≤ 9 by omega)]⟩ -- ret 1
        · (try simp only [decide_eq_true_eq, decide_eq_false_iff_not, Bool.and_eq_true, Bool.or_eq_true, Bool.and_eq_false_iff, Bool.or_eq_false_iff, Bool.not_eq_true', Bool.not_eq_false', beq_iff_eq, Bool.not_eq_eq_eq_not, Bool.not_true, Bool.not_false, List.length_map, Bool.and_true, Bool.and_false, Bool.false_and, Bool.true_and, Bool.or_false, Bool.false_or] at h80)
          refine Aw_skip ?_
          -- join 2: live [1, 2], turned []
          refine Aw_seq ?_
          refine Aw_seq ?_
          refine Aw_region ?_
          refine Al_pu (Pu_fieldb 9 rfl Try.underlying30 rfl rfl Try.sizeOf28 rfl) rfl rfl (by decide) (by kernel_rfl) ?_
          refine Al_pu (Pu_fieldb 2 rfl Try.underlying28 rfl rfl Try.sizeOf26 rfl) rfl rfl (by decide) (by kernel_rfl) ?_
          refine Al_pu (Pu_loadb rfl Try.isAgg26 rfl rfl rfl) rfl rfl (by decide) (by kernel_rfl) ?_
          refine Al_pu (Pu_len rfl Try.underlying26 rfl (by first | exact List.length_map .. | exact rfl)) rfl rfl (by decide) (by kernel_rfl) ?_
          refine Al_pu (Pu_cmp rfl rfl rfl rfl) rfl rfl (by decide) (by kernel_rfl) ?_
          refine Al_nil ?_
          refine Aw_cond rfl (fun h91 => ?_) (fun h91 => ?_)
          · (try simp only [decide_eq_true_eq, decide_eq_false_iff_not, Bool.and_eq_true, Bool.or_eq_true, Bool.and_eq_false_iff, Bool.or_eq_false_iff, Bool.not_eq_true', Bool.not_eq_false', beq_iff_eq, Bool.not_eq_eq_eq_not, Bool.not_true, Bool.not_false, List.length_map, Bool.and_true, Bool.and_false, Bool.false_and, Bool.true_and, Bool.or_false, Bool.false_or] at h91)
            refine Aw_region ?_
            refine Al_pu (Pu_fieldb 9 rfl Try.underlying30 rfl rfl Try.sizeOf28 rfl) rfl rfl (by decide) (by kernel_rfl) ?_
            refine Al_pu (Pu_fieldb 2 rfl Try.underlying28 rfl rfl Try.sizeOf26 rfl) rfl rfl (by decide) (by kernel_rfl) ?_
            refine Al_pu (Pu_loadb rfl Try.isAgg26 rfl rfl rfl) rfl rfl (by decide) (by kernel_rfl) ?_
            refine Al_pu (Pu_subL (0) (9) rfl Try.underlying26 Try.sizeOf3 rfl rfl ⟨_, rfl, by omega⟩ ⟨by first | omega | (simp; omega), by first | omega | (simp; omega)⟩) rfl rfl (by decide) (by kernel_rfl) ?_
            refine Al_pu (Pu_fieldb 9 rfl Try.underlying30 rfl rfl Try.sizeOf28 rfl) rfl rfl (by decide) (by kernel_rfl) ?_
            refine Al_pu (Pu_fieldb 2 rfl Try.underlying28 rfl rfl Try.sizeOf26 rfl) rfl rfl (by decide) (by kernel_rfl) ?_
            refine Al_store1 rfl rfl rfl (by kernel_rfl) Try.isAgg26 Try.sizeOf26 rfl rfl (Nat.le_of_ble_eq_true rfl) (by conv => lhs; whnf) rfl ?_
            refine Al_nil ?_
            refine Aw_seq ?_
            refine Aw_region ?_
            refine Al_pu (Pu_loadbN (r := [_, _, _, _, _, _, _, _, _, _, _, _]) rfl Try.isAgg30 Try.sizeOf30 rfl rfl rfl rfl) rfl rfl (by decide) (by kernel_rfl) ?_
            refine Al_storeN rfl rfl rfl (by kernel_rfl) Try.isAgg30 Try.sizeOf30 rfl rfl rfl rfl (Nat.le_of_ble_eq_true rfl) ?_
            refine Al_nil ?_
            refine Aw_ret ?_
            exact ⟨_, _, _, _, _, [_, _, _, _, _, _, _, _, _, _, _, _], rfl, rfl, rfl, rfl, by simp [SOp.row, he, List.map_take, List.take_of_length_le (show p.c.owners.length ≤ 9 by omega)]⟩ -- ret 2
          · (try simp only [decide_eq_true_eq, decide_eq_false_iff_not, Bool.and_eq_true, Bool.or_eq_true, Bool.and_eq_false_iff, Bool.or_eq_false_iff, Bool.not_eq_true', Bool.not_eq_false', beq_iff_eq, Bool.not_eq_eq_eq_not, Bool.not_true, Bool.not_false, List.length_map, Bool.and_true, Bool.and_false, Bool.false_and, Bool.true_and, Bool.or_false, Bool.false_or] at h91)
            refine Aw_skip ?_
            refine Aw_seq ?_
            refine Aw_region ?_
            refine Al_pu (Pu_loadbN (r := [_, _, _, _, _, _, _, _, _, _, _, _]) rfl Try.isAgg30 Try.sizeOf30 rfl rfl rfl rfl) rfl rfl (by decide) (by kernel_rfl) ?_
            refine Al_storeN rfl rfl rfl (by kernel_rfl) Try.isAgg30 Try.sizeOf30 rfl rfl rfl rfl (Nat.le_of_ble_eq_true rfl) ?_
            refine Al_nil ?_
            refine Aw_ret ?_
            exact ⟨_, _, _, _, _, [_, _, _, _, _, _, _, _, _, _, _, _], rfl, rfl, rfl, rfl, by simp [SOp.row, he, List.map_take, List.take_of_length_le (show p.c.owners.length ≤ 9 by omega), List.take_of_length_le (show p.c.parents.length ≤ 9 by omega)]⟩ -- ret 3
end Go.Proofs.Ytocgnmklgklfnaa
