/- The reference's bytes of steps. -/
import Derived.Test.YtocgnmklgklfnaaSRef
set_option linter.unusedSimpArgs false
set_option linter.unusedVariables false
namespace Go.Proofs.Ytocgnmklgklfnaa
open Go.RowKit A R
namespace S
theorem get6 {o : SOp} {j : Nat} (h : j < 6) : (List.map SV.d [iv o.kind, iv o.client, iv o.site, iv o.to', iv o.at', iv o.how])[0 + j * 1]? = some (.d (iv ((numbers o).getD j 0))) := by
  have : j = 0 ∨ j = 1 ∨ j = 2 ∨ j = 3 ∨ j = 4 ∨ j = 5 := by omega
  rcases this with rfl | rfl | rfl | rfl | rfl | rfl <;> rfl
theorem six_at {o : SOp} {j : Nat} (h : j < 6) : (numbers o).getD j 0 = (numbers o)[j]'h := by
  rw [List.getD_eq_getElem?_getD, List.getElem?_eq_getElem (show j < (numbers o).length from h)]; rfl
theorem none_ranges {c : SRow} (h : c.ranges = []) : written c = false := by
  unfold written shape whole
  rw [h]; simp
theorem rowText_nil {c : SRow} (h : c.ranges.length = 0) (hr : empty c = true ∨ written c = true) : rowText c = [] := by
  have h0 := none_ranges (List.eq_nil_of_length_eq_zero h)
  rcases hr with hr | hr
  · unfold rowText; rw [hr]; rfl
  · rw [h0] at hr; cases hr
theorem rowText_some {c : SRow} (h : ¬ c.ranges.length = 0) (hr : empty c = true ∨ written c = true) : written c = true ∧ rowText c = rowBytes c := by
  have h0 : empty c = false := decide_eq_false (by omega)
  rcases hr with hr | hr
  · rw [h0] at hr; cases hr
  · refine ⟨hr, ?_⟩
    unfold rowText; rw [h0, hr]; rfl
end S
set_option maxRecDepth 100000 in
theorem rone_a (o : SOp) (hc : S.check o = true) (hf : S.fits o) : ACall Try.prog 31 [.row o.row] (tv (V.ba (S.one o))) := by
  refine ACall_enter (fun _ _ => by kernel_rfl) Try.func31 rfl Try.ntmps31 Try.results31 (Nat.le_of_ble_eq_true rfl) (fun hok M0 w0 => ?_)
  obtain ⟨f1, f2, f3, f4, f5, f6⟩ := S.check_facts hc
  have k1 := S.text_le f4 (by omega)
  have k2 := S.text_le f5 (by omega)
  have k3 := V.num_len64 (n := o.keys.length) (by omega)
  have k4 : ∀ s ∈ o.keys, (V.text s).length ≤ 42 := fun s hs => S.text_le (f3 s hs) (by omega)
  refine Aw_seq ?_
  refine Aw_region ?_
  refine Al_pu (Pu_boxN rfl rfl) rfl rfl (by decide) (by kernel_rfl) ?_
  refine Al_pu (Pu_move (.inr rfl) (by conv => lhs; whnf)) rfl rfl (by decide) (by kernel_rfl) ?_
  refine Al_nil ?_
  refine Aw_seq ?_
  refine Aw_region ?_
  refine Al_pu (Pu_field 0 rfl Try.underlying30 rfl rfl Try.sizeOf3 rfl) rfl rfl (by decide) (by kernel_rfl) ?_
  refine Al_pu (Pu_load1 rfl Try.isAgg3 rfl rfl) rfl rfl (by decide) (by kernel_rfl) ?_
  refine Al_pu (Pu_field 1 rfl Try.underlying30 rfl rfl Try.sizeOf3 rfl) rfl rfl (by decide) (by kernel_rfl) ?_
  refine Al_pu (Pu_load1 rfl Try.isAgg3 rfl rfl) rfl rfl (by decide) (by kernel_rfl) ?_
  refine Al_pu (Pu_field 2 rfl Try.underlying30 rfl rfl Try.sizeOf3 rfl) rfl rfl (by decide) (by kernel_rfl) ?_
  refine Al_pu (Pu_load1 rfl Try.isAgg3 rfl rfl) rfl rfl (by decide) (by kernel_rfl) ?_
  refine Al_pu (Pu_field 3 rfl Try.underlying30 rfl rfl Try.sizeOf3 rfl) rfl rfl (by decide) (by kernel_rfl) ?_
  refine Al_pu (Pu_load1 rfl Try.isAgg3 rfl rfl) rfl rfl (by decide) (by kernel_rfl) ?_
  refine Al_pu (Pu_field 4 rfl Try.underlying30 rfl rfl Try.sizeOf3 rfl) rfl rfl (by decide) (by kernel_rfl) ?_
  refine Al_pu (Pu_load1 rfl Try.isAgg3 rfl rfl) rfl rfl (by decide) (by kernel_rfl) ?_
  refine Al_pu (Pu_field 5 rfl Try.underlying30 rfl rfl Try.sizeOf3 rfl) rfl rfl (by decide) (by kernel_rfl) ?_
  refine Al_pu (Pu_load1 rfl Try.isAgg3 rfl rfl) rfl rfl (by decide) (by kernel_rfl) ?_
  refine Al_pu (Pu_buildArr (aa := [(0, _), (1, _), (2, _), (3, _), (4, _), (5, _)]) rfl Try.underlying82 Try.zeroValue82 Try.sizeOf3 (by kernel_rfl) ⟨rfl, rfl, rfl, rfl, rfl, rfl, rfl, rfl, rfl, rfl, rfl, rfl, rfl, rfl, rfl, rfl, rfl, rfl, trivial⟩ rfl) rfl rfl (by decide) (by kernel_rfl) ?_
  refine Al_alloc rfl rfl rfl (by decide) Try.zeroValue82 rfl (by kernel_rfl) (fun g3 => ?_)
  refine Al_storeN rfl rfl rfl (by kernel_rfl) Try.isAgg82 Try.sizeOf82 rfl rfl rfl rfl (Nat.le_of_ble_eq_true rfl) ?_
  refine Al_nil ?_
  refine Aw_seq ?_
  refine Aw_region ?_
  refine Al_pu (Pu_move (.inr rfl) (by conv => lhs; whnf)) rfl rfl (by decide) (by kernel_rfl) ?_
  refine Al_nil ?_
  refine Aw_seq ?_
  refine Aw_seq ?_
  refine Aw_region ?_
  refine Al_pu (Pu_move (.inr rfl) (by conv => lhs; whnf)) rfl rfl (by decide) (by kernel_rfl) ?_
  refine Al_nil ?_
  refine Aw_block ?_
  refine Aw_loopk (ι := Nat) [1, 3] [3] (fun j => [(5, .d (iv j)), (4, .d (tv (V.ba (((S.numbers o).take j).flatMap fun x => V.num x.toNat))))]) (fun j => []) (fun j => j ≤ 6) (fun j => 6 - j) (0) (Nat.zero_le _) ⟨Sub.rfl, Sub.rfl, trivial⟩ trivial ?_
  rintro j hk0
  refine Aw_seq ?_
  refine Aw_seq ?_
  refine Aw_region ?_
  refine Al_pu (Pu_move (.inl rfl) (by conv => lhs; whnf)) rfl rfl (by decide) (by kernel_rfl) ?_
  refine Al_pu (Pu_cmp rfl rfl rfl rfl) rfl rfl (by decide) (by kernel_rfl) ?_
  refine Al_nil ?_
  refine Aw_cond rfl (fun h21 => ?_) (fun h21 => ?_)
  · (try simp only [decide_eq_true_eq, decide_eq_false_iff_not, Bool.and_eq_true, Bool.or_eq_true, Bool.and_eq_false_iff, Bool.or_eq_false_iff, Bool.not_eq_true', Bool.not_eq_false', beq_iff_eq, Bool.not_eq_eq_eq_not, Bool.not_true, Bool.not_false, List.length_map, Bool.and_true, Bool.and_false, Bool.false_and, Bool.true_and, Bool.or_false, Bool.false_or] at h21)
    have hj : j < 6 := by omega
    have o1 : 0 ≤ (S.numbers o).getD j 0 ∧ (S.numbers o).getD j 0 ≤ 63 := by rw [S.six_at hj]; exact f1 _ (List.getElem_mem _)
    have o2 := V.num_len64 (n := ((S.numbers o).getD j 0).toNat) (by omega)
    have o3 := S.flat_le (fun x : Int => V.num x.toNat) 10 ((S.numbers o).take j) (fun x hx => V.num_len64 (by have := f1 x (List.mem_of_mem_take hx); omega))
    rw [List.length_take] at o3
    refine Aw_skip ?_
    refine Aw_seq ?_
    refine Aw_block ?_
    refine Aw_region ?_
    refine Al_pu (Pu_move (.inl rfl) (by conv => lhs; whnf)) rfl rfl (by decide) (by kernel_rfl) ?_
    refine Al_pu (Pu_move (.inl rfl) (by conv => lhs; whnf)) rfl rfl (by decide) (by kernel_rfl) ?_
    refine Al_pu (Pu_indexArr rfl Try.underlying82 Try.sizeOf3 rfl rfl rfl hj) rfl rfl (by decide) (by kernel_rfl) ?_
    refine Al_pu (Pu_loadb rfl Try.isAgg3 rfl rfl (S.get6 hj)) rfl rfl (by decide) (by kernel_rfl) ?_
    refine Al_pu (Pu_conv rfl Try.underlying3 Try.underlying63 rfl (fun hv => u64_nat (by omega) (by simp only [vok, A.inI] at hv; omega))) rfl rfl (by decide) (by kernel_rfl) ?_
    refine Al_pu (Pu_call (rnumber_az _ (by omega) (by omega)) rfl ⟨Sub.rfl, trivial⟩) rfl rfl (by decide) (by kernel_rfl) ?_
    refine Al_pu (Pu_catB rfl rfl rfl (by simp only [A.ba_sz, List.length_append, A.maxI]; omega)) rfl rfl (by decide) (by kernel_rfl) ?_
    refine Al_pu (Pu_move (.inr rfl) (by conv => lhs; whnf)) rfl rfl (by decide) (by kernel_rfl) ?_
    refine Al_nil ?_
    refine Aw_region ?_
    refine Al_pu (Pu_move (.inl rfl) (by conv => lhs; whnf)) rfl rfl (by decide) (by kernel_rfl) ?_
    refine Al_pu (Pu_add rfl rfl rfl (fun h1 h2 => by simp only [A.inI, A.maxI] at *; omega)) rfl rfl (by decide) (by kernel_rfl) ?_
    refine Al_pu (Pu_move (.inr rfl) (by conv => lhs; whnf)) rfl rfl (by decide) (by kernel_rfl) ?_
    refine Al_nil ?_
    exact ⟨j + 1, by omega, by omega, Le.ov ⟨Sub.num (by omega), Sub.str (by rw [S.flat_snoc _ (show j < (S.numbers o).length from hj), S.six_at hj]; rfl), trivial⟩ ⟨Sub.rfl, Sub.rfl, trivial⟩ trivial ⟨rfl, trivial⟩⟩ -- loop 0 next.0
  · (try simp only [decide_eq_true_eq, decide_eq_false_iff_not, Bool.and_eq_true, Bool.or_eq_true, Bool.and_eq_false_iff, Bool.or_eq_false_iff, Bool.not_eq_true', Bool.not_eq_false', beq_iff_eq, Bool.not_eq_eq_eq_not, Bool.not_true, Bool.not_false, List.length_map, Bool.and_true, Bool.and_false, Bool.false_and, Bool.true_and, Bool.or_false, Bool.false_or] at h21)
    have hj : (S.numbers o).take j = S.numbers o := List.take_of_length_le (show 6 ≤ j by omega)
    have o3 := S.flat_le (fun x : Int => V.num x.toNat) 10 ((S.numbers o).take j) (fun x hx => V.num_len64 (by have := f1 x (List.mem_of_mem_take hx); omega))
    rw [hj] at o3
    have o4 : (S.numbers o).length = 6 := rfl
    rw [hj]
    refine Aw_exit ?_
    refine Aw_seq ?_
    refine Aw_draw 15 (by kernel_rfl) (by kernel_rfl) ?_
    refine Dr_pu (Pu_move (.inl rfl) (by conv => lhs; whnf)) rfl rfl ?_
    refine Dr_pu (Pu_field 6 rfl Try.underlying30 rfl rfl Try.sizeOf9 rfl) rfl rfl ?_
    refine Dr_pu (Pu_load1 rfl Try.isAgg9 rfl rfl) rfl rfl ?_
    refine Dr_pu (Pu_call (rtext_a o.key (by omega)) rfl ⟨Sub.rfl, trivial⟩) rfl rfl ?_
    refine Dr_pu (Pu_catB rfl rfl rfl (by simp only [A.ba_sz, List.length_append, A.maxI]; omega)) rfl rfl ?_
    refine Dr_pu (Pu_field 7 rfl Try.underlying30 rfl rfl Try.sizeOf9 rfl) rfl rfl ?_
    refine Dr_pu (Pu_load1 rfl Try.isAgg9 rfl rfl) rfl rfl ?_
    refine Dr_pu (Pu_call (rtext_a o.value (by omega)) rfl ⟨Sub.rfl, trivial⟩) rfl rfl ?_
    refine Dr_pu (Pu_catB rfl rfl rfl (by simp only [A.ba_sz, List.length_append, A.maxI]; omega)) rfl rfl ?_
    refine Dr_pu (Pu_field 8 rfl Try.underlying30 rfl rfl Try.sizeOf24 rfl) rfl rfl ?_
    refine Dr_pu (Pu_load1 rfl Try.isAgg24 rfl rfl) rfl rfl ?_
    refine Dr_pu (Pu_len rfl Try.underlying24 rfl (by first | exact List.length_map .. | exact rfl)) rfl rfl ?_
    refine Dr_pu (Pu_conv rfl Try.underlying3 Try.underlying63 rfl (fun hv => u64_nat (by omega) (by simp only [vok, A.inI] at hv; omega))) rfl rfl ?_
    refine Dr_pu (Pu_call (rnumber_a o.keys.length (by omega)) rfl ⟨Sub.rfl, trivial⟩) rfl rfl ?_
    refine Dr_pu (Pu_catB rfl rfl rfl (by simp only [A.ba_sz, List.length_append, A.maxI]; omega)) rfl rfl ?_
    refine Dr_nil ?_
    refine Al_pu (Pu_move (.inr rfl) (by conv => lhs; whnf)) rfl rfl (by decide) (by kernel_rfl) ?_
    refine Al_nil ?_
    refine Aw_seq ?_
    refine Aw_seq ?_
    refine Aw_region ?_
    refine Al_pu (Pu_move (.inr rfl) (by conv => lhs; whnf)) rfl rfl (by decide) (by kernel_rfl) ?_
    refine Al_nil ?_
    refine Aw_block ?_
    refine Aw_loopk (ι := Nat) [1] [] (fun m => [(6, .d (iv m)), (4, .d (tv (V.ba (((S.numbers o).flatMap fun x => V.num x.toNat) ++ V.text o.key ++ V.text o.value ++ V.num o.keys.length ++ (o.keys.take m).flatMap V.text))))]) (fun m => []) (fun m => m ≤ o.keys.length) (fun m => o.keys.length - m) (0) (Nat.zero_le _) ⟨Sub.rfl, Sub.str (by simp), trivial⟩ trivial ?_
    rintro m hk1
    refine Aw_seq ?_
    refine Aw_seq ?_
    refine Aw_region ?_
    refine Al_pu (Pu_move (.inl rfl) (by conv => lhs; whnf)) rfl rfl (by decide) (by kernel_rfl) ?_
    refine Al_pu (Pu_field 8 rfl Try.underlying30 rfl rfl Try.sizeOf24 rfl) rfl rfl (by decide) (by kernel_rfl) ?_
    refine Al_pu (Pu_load1 rfl Try.isAgg24 rfl rfl) rfl rfl (by decide) (by kernel_rfl) ?_
    refine Al_pu (Pu_len rfl Try.underlying24 rfl (by first | exact List.length_map .. | exact rfl)) rfl rfl (by decide) (by kernel_rfl) ?_
    refine Al_pu (Pu_cmp rfl rfl rfl rfl) rfl rfl (by decide) (by kernel_rfl) ?_
    refine Al_nil ?_
    refine Aw_cond rfl (fun h50 => ?_) (fun h50 => ?_)
    · (try simp only [decide_eq_true_eq, decide_eq_false_iff_not, Bool.and_eq_true, Bool.or_eq_true, Bool.and_eq_false_iff, Bool.or_eq_false_iff, Bool.not_eq_true', Bool.not_eq_false', beq_iff_eq, Bool.not_eq_eq_eq_not, Bool.not_true, Bool.not_false, List.length_map, Bool.and_true, Bool.and_false, Bool.false_and, Bool.true_and, Bool.or_false, Bool.false_or] at h50)
      have hm : m < o.keys.length := by omega
      have m0 := f3 _ (List.getElem_mem hm)
      have m1 := k4 _ (List.getElem_mem hm)
      have m2 := S.flat_le V.text 42 (o.keys.take m) (fun s hs => k4 s (List.mem_of_mem_take hs))
      rw [List.length_take] at m2
      refine Aw_skip ?_
      refine Aw_seq ?_
      refine Aw_block ?_
      refine Aw_region ?_
      refine Al_pu (Pu_move (.inl rfl) (by conv => lhs; whnf)) rfl rfl (by decide) (by kernel_rfl) ?_
      refine Al_pu (Pu_field 8 rfl Try.underlying30 rfl rfl Try.sizeOf24 rfl) rfl rfl (by decide) (by kernel_rfl) ?_
      refine Al_pu (Pu_load1 rfl Try.isAgg24 rfl rfl) rfl rfl (by decide) (by kernel_rfl) ?_
      refine Al_pu (Pu_move (.inl rfl) (by conv => lhs; whnf)) rfl rfl (by decide) (by kernel_rfl) ?_
      refine Al_pu (Pu_index rfl Try.underlying24 Try.sizeOf9 rfl rfl (rfl) (mapget hm)) rfl rfl (by decide) (by kernel_rfl) ?_
      refine Al_pu (Pu_load1 rfl Try.isAgg9 rfl rfl) rfl rfl (by decide) (by kernel_rfl) ?_
      refine Al_pu (Pu_call (rtext_a _ (by omega)) rfl ⟨Sub.rfl, trivial⟩) rfl rfl (by decide) (by kernel_rfl) ?_
      refine Al_pu (Pu_catB rfl rfl rfl (by simp only [A.ba_sz, List.length_append, A.maxI]; omega)) rfl rfl (by decide) (by kernel_rfl) ?_
      refine Al_pu (Pu_move (.inr rfl) (by conv => lhs; whnf)) rfl rfl (by decide) (by kernel_rfl) ?_
      refine Al_nil ?_
      refine Aw_region ?_
      refine Al_pu (Pu_move (.inl rfl) (by conv => lhs; whnf)) rfl rfl (by decide) (by kernel_rfl) ?_
      refine Al_pu (Pu_add rfl rfl rfl (fun h1 h2 => by simp only [A.inI, A.maxI] at *; omega)) rfl rfl (by decide) (by kernel_rfl) ?_
      refine Al_pu (Pu_move (.inr rfl) (by conv => lhs; whnf)) rfl rfl (by decide) (by kernel_rfl) ?_
      refine Al_nil ?_
      exact ⟨m + 1, by omega, by omega, Le.ov ⟨Sub.num (by omega), Sub.str (by rw [S.flat_snoc _ hm]; simp), trivial⟩ ⟨Sub.rfl, trivial⟩ trivial trivial⟩ -- loop 1 next.0
    · (try simp only [decide_eq_true_eq, decide_eq_false_iff_not, Bool.and_eq_true, Bool.or_eq_true, Bool.and_eq_false_iff, Bool.or_eq_false_iff, Bool.not_eq_true', Bool.not_eq_false', beq_iff_eq, Bool.not_eq_eq_eq_not, Bool.not_true, Bool.not_false, List.length_map, Bool.and_true, Bool.and_false, Bool.false_and, Bool.true_and, Bool.or_false, Bool.false_or] at h50)
      have hm : o.keys.take m = o.keys := List.take_of_length_le (by omega)
      have m2 := S.flat_le V.text 42 (o.keys.take m) (fun s hs => k4 s (List.mem_of_mem_take hs))
      rw [List.length_take] at m2
      refine Aw_exit ?_
      refine Aw_seq ?_
      refine Aw_seq ?_
      refine Aw_region ?_
      refine Al_pu (Pu_field 9 rfl Try.underlying30 rfl rfl Try.sizeOf28 rfl) rfl rfl (by decide) (by kernel_rfl) ?_
      refine Al_pu (Pu_field 0 rfl Try.underlying28 rfl rfl Try.sizeOf25 rfl) rfl rfl (by decide) (by kernel_rfl) ?_
      refine Al_pu (Pu_load1 rfl Try.isAgg25 rfl rfl) rfl rfl (by decide) (by kernel_rfl) ?_
      refine Al_pu (Pu_len rfl Try.underlying25 rfl (by first | exact List.length_map .. | exact rfl)) rfl rfl (by decide) (by kernel_rfl) ?_
      refine Al_pu (Pu_cmp rfl rfl rfl rfl) rfl rfl (by decide) (by kernel_rfl) ?_
      refine Al_nil ?_
      refine Aw_cond rfl (fun h65 => ?_) (fun h65 => ?_)
      · skip
        have hz : o.c.ranges.length = 0 := by have := of_decide_eq_true h65; omega
        have hrt := S.rowText_nil hz f6
        have z2 : (V.text ⟨#[]⟩).length ≤ 12010 := S.text_le (n := 12000) (by decide) (by omega)
        refine Aw_seq ?_
        refine Aw_region ?_
        refine Al_pu (Pu_move (.inl rfl) (by conv => lhs; whnf)) rfl rfl (by decide) (by kernel_rfl) ?_
        refine Al_pu (Pu_call (rtext_a ⟨#[]⟩ (by decide)) rfl ⟨Sub.rfl, trivial⟩) rfl rfl (by decide) (by kernel_rfl) ?_
        refine Al_pu (Pu_catB rfl rfl rfl (by simp only [A.ba_sz, List.length_append, A.maxI]; omega)) rfl rfl (by decide) (by kernel_rfl) ?_
        refine Al_pu (Pu_move (.inr rfl) (by conv => lhs; whnf)) rfl rfl (by decide) (by kernel_rfl) ?_
        refine Al_nil ?_
        refine Aw_ret ?_
        exact Sub.str (by rw [S.one, hrt, hm]; simp [V.ba]) -- ret 0
      · skip
        have hz : ¬ o.c.ranges.length = 0 := by have := of_decide_eq_false h65; omega
        obtain ⟨hw, hrt⟩ := S.rowText_some hz f6
        have z0 := S.rowBytes_le hw hf.1
        have z1 : (V.ba (S.rowBytes o.c)).size ≤ 12000 := by rw [A.ba_sz]; exact z0
        have z2 := S.text_le z1 (by omega)
        refine Aw_skip ?_
        refine Aw_seq ?_
        refine Aw_region ?_
        refine Al_pu (Pu_move (.inl rfl) (by conv => lhs; whnf)) rfl rfl (by decide) (by kernel_rfl) ?_
        refine Al_pu (Pu_field 9 rfl Try.underlying30 rfl rfl Try.sizeOf28 rfl) rfl rfl (by decide) (by kernel_rfl) ?_
        refine Al_pu (Pu_loadN rfl Try.isAgg28 Try.sizeOf28 rfl (Nat.le_of_ble_eq_true rfl)) rfl rfl (by decide) (by kernel_rfl) ?_
        refine Al_pu (Pu_call (rrowbytes_a o.c hw hf.1) rfl ⟨Sub.rfl, trivial⟩) rfl rfl (by decide) (by kernel_rfl) ?_
        refine Al_pu (Pu_call (rtext_a (V.ba (S.rowBytes o.c)) (by omega)) rfl ⟨Sub.rfl, trivial⟩) rfl rfl (by decide) (by kernel_rfl) ?_
        refine Al_pu (Pu_catB rfl rfl rfl (by simp only [A.ba_sz, List.length_append, A.maxI]; omega)) rfl rfl (by decide) (by kernel_rfl) ?_
        refine Al_pu (Pu_move (.inr rfl) (by conv => lhs; whnf)) rfl rfl (by decide) (by kernel_rfl) ?_
        refine Al_nil ?_
        refine Aw_ret ?_
        exact Sub.str (by rw [S.one, hrt, hm]; simp) -- ret 1
set_option maxRecDepth 100000 in
theorem srbytes_a (l : List SOp) (hl : l.length ≤ 1000) (hf : ∀ o ∈ l, S.fits o) : ACall Try.prog 13 [.sl 12 (l.map SOp.row)] (tv (V.ba (S.bytes l))) := by
  refine ACall_enter (fun _ _ => by kernel_rfl) Try.func13 rfl Try.ntmps13 Try.results13 (Nat.le_of_ble_eq_true rfl) (fun hok M0 w0 => ?_)
  have b1 := V.num_len64 (n := l.length) (by omega)
  refine Aw_seq ?_
  refine Aw_region ?_
  refine Al_pu (Pu_move (.inr rfl) (by conv => lhs; whnf)) rfl rfl (by decide) (by kernel_rfl) ?_
  refine Al_nil ?_
  refine Aw_seq ?_
  refine Aw_region ?_
  refine Al_pu (Pu_move (.inl rfl) (by conv => lhs; whnf)) rfl rfl (by decide) (by kernel_rfl) ?_
  refine Al_pu (Pu_len rfl Try.underlying22 rfl (by first | exact List.length_map .. | exact rfl)) rfl rfl (by decide) (by kernel_rfl) ?_
  refine Al_pu (Pu_conv rfl Try.underlying3 Try.underlying63 rfl (fun hv => u64_nat (by omega) (by simp only [vok, A.inI] at hv; omega))) rfl rfl (by decide) (by kernel_rfl) ?_
  refine Al_pu (Pu_call (rnumber_a l.length (by omega)) rfl ⟨Sub.rfl, trivial⟩) rfl rfl (by decide) (by kernel_rfl) ?_
  refine Al_pu (Pu_move (.inr rfl) (by conv => lhs; whnf)) rfl rfl (by decide) (by kernel_rfl) ?_
  refine Al_nil ?_
  refine Aw_seq ?_
  refine Aw_seq ?_
  refine Aw_region ?_
  refine Al_pu (Pu_move (.inr rfl) (by conv => lhs; whnf)) rfl rfl (by decide) (by kernel_rfl) ?_
  refine Al_nil ?_
  refine Aw_block ?_
  refine Aw_loopk (ι := Nat) [0] [] (fun i => [(4, .d (iv i)), (3, .d (tv (V.ba (V.num l.length ++ (l.take i).flatMap S.one))))]) (fun i => []) (fun i => i ≤ l.length ∧ ∀ o ∈ l.take i, S.check o = true) (fun i => l.length - i) (0) (⟨Nat.zero_le _, by simp⟩) ⟨Sub.rfl, Sub.str (by simp), trivial⟩ trivial ?_
  rintro i ⟨hk0, hall⟩
  refine Aw_seq ?_
  refine Aw_seq ?_
  refine Aw_region ?_
  refine Al_pu (Pu_move (.inl rfl) (by conv => lhs; whnf)) rfl rfl (by decide) (by kernel_rfl) ?_
  refine Al_pu (Pu_move (.inl rfl) (by conv => lhs; whnf)) rfl rfl (by decide) (by kernel_rfl) ?_
  refine Al_pu (Pu_len rfl Try.underlying22 rfl (by first | exact List.length_map .. | exact rfl)) rfl rfl (by decide) (by kernel_rfl) ?_
  refine Al_pu (Pu_cmp rfl rfl rfl rfl) rfl rfl (by decide) (by kernel_rfl) ?_
  refine Al_nil ?_
  refine Aw_cond rfl (fun h13 => ?_) (fun h13 => ?_)
  · (try simp only [decide_eq_true_eq, decide_eq_false_iff_not, Bool.and_eq_true, Bool.or_eq_true, Bool.and_eq_false_iff, Bool.or_eq_false_iff, Bool.not_eq_true', Bool.not_eq_false', beq_iff_eq, Bool.not_eq_eq_eq_not, Bool.not_true, Bool.not_false, List.length_map, Bool.and_true, Bool.and_false, Bool.false_and, Bool.true_and, Bool.or_false, Bool.false_or] at h13)
    have hi : i < l.length := by omega
    have hfi := hf _ (List.getElem_mem hi)
    have p1 := S.flat_le S.one 20000 (l.take i) (fun o ho => S.one_le (hall o ho) (hf o (List.mem_of_mem_take ho)).1)
    rw [List.length_take] at p1
    refine Aw_skip ?_
    refine Aw_seq ?_
    refine Aw_block ?_
    refine Aw_seq ?_
    refine Aw_region ?_
    refine Al_pu (Pu_move (.inl rfl) (by conv => lhs; whnf)) rfl rfl (by decide) (by kernel_rfl) ?_
    refine Al_pu (Pu_move (.inl rfl) (by conv => lhs; whnf)) rfl rfl (by decide) (by kernel_rfl) ?_
    refine Al_pu (Pu_index rfl Try.underlying22 Try.sizeOf30 rfl rfl (rfl) (mapget hi)) rfl rfl (by decide) (by kernel_rfl) ?_
    refine Al_pu (Pu_loadN rfl Try.isAgg30 Try.sizeOf30 rfl (Nat.le_of_ble_eq_true rfl)) rfl rfl (by decide) (by kernel_rfl) ?_
    refine Al_pu (Pu_call (srcheck_a l[i] hfi) rfl ⟨Sub.rfl, trivial⟩) rfl rfl (by decide) (by kernel_rfl) ?_
    refine Al_pu (Pu_move (.inr rfl) (by conv => lhs; whnf)) rfl rfl (by decide) (by kernel_rfl) ?_
    refine Al_nil ?_
    refine Aw_seq ?_
    refine Aw_seq ?_
    refine Aw_region ?_
    refine Al_pu (Pu_move (.inl rfl) (by conv => lhs; whnf)) rfl rfl (by decide) (by kernel_rfl) ?_
    refine Al_pu (Pu_not rfl rfl) rfl rfl (by decide) (by kernel_rfl) ?_
    refine Al_nil ?_
    refine Aw_cond rfl (fun h22 => ?_) (fun h22 => ?_)
    · (try simp only [decide_eq_true_eq, decide_eq_false_iff_not, Bool.and_eq_true, Bool.or_eq_true, Bool.and_eq_false_iff, Bool.or_eq_false_iff, Bool.not_eq_true', Bool.not_eq_false', beq_iff_eq, Bool.not_eq_eq_eq_not, Bool.not_true, Bool.not_false, List.length_map, Bool.and_true, Bool.and_false, Bool.false_and, Bool.true_and, Bool.or_false, Bool.false_or] at h22)
      have hc : S.check l[i] = false := by simpa using h22
      refine Aw_seq ?_
      refine Aw_region ?_
      refine Al_pu (Pu_move (.inr rfl) (by conv => lhs; whnf)) rfl rfl (by decide) (by kernel_rfl) ?_
      refine Al_nil ?_
      refine Aw_ret ?_
      exact Sub.str (by
        have : l.all S.check = false := by
          rw [List.all_eq_false]
          exact ⟨_, List.getElem_mem hi, by simp [hc]⟩
        unfold S.bytes
        rw [this]; rfl) -- ret 0
    · (try simp only [decide_eq_true_eq, decide_eq_false_iff_not, Bool.and_eq_true, Bool.or_eq_true, Bool.and_eq_false_iff, Bool.or_eq_false_iff, Bool.not_eq_true', Bool.not_eq_false', beq_iff_eq, Bool.not_eq_eq_eq_not, Bool.not_true, Bool.not_false, List.length_map, Bool.and_true, Bool.and_false, Bool.false_and, Bool.true_and, Bool.or_false, Bool.false_or] at h22)
      have hc : S.check l[i] = true := by simpa using h22
      have hol := S.one_le hc hfi.1
      refine Aw_skip ?_
      refine Aw_region ?_
      refine Al_pu (Pu_move (.inl rfl) (by conv => lhs; whnf)) rfl rfl (by decide) (by kernel_rfl) ?_
      refine Al_pu (Pu_move (.inl rfl) (by conv => lhs; whnf)) rfl rfl (by decide) (by kernel_rfl) ?_
      refine Al_pu (Pu_move (.inl rfl) (by conv => lhs; whnf)) rfl rfl (by decide) (by kernel_rfl) ?_
      refine Al_pu (Pu_index rfl Try.underlying22 Try.sizeOf30 rfl rfl (rfl) (mapget hi)) rfl rfl (by decide) (by kernel_rfl) ?_
      refine Al_pu (Pu_loadN rfl Try.isAgg30 Try.sizeOf30 rfl (Nat.le_of_ble_eq_true rfl)) rfl rfl (by decide) (by kernel_rfl) ?_
      refine Al_pu (Pu_call (rone_a l[i] hc hfi) rfl ⟨Sub.rfl, trivial⟩) rfl rfl (by decide) (by kernel_rfl) ?_
      refine Al_pu (Pu_catB rfl rfl rfl (by simp only [A.ba_sz, List.length_append, A.maxI]; omega)) rfl rfl (by decide) (by kernel_rfl) ?_
      refine Al_pu (Pu_move (.inr rfl) (by conv => lhs; whnf)) rfl rfl (by decide) (by kernel_rfl) ?_
      refine Al_nil ?_
      refine Aw_region ?_
      refine Al_pu (Pu_move (.inl rfl) (by conv => lhs; whnf)) rfl rfl (by decide) (by kernel_rfl) ?_
      refine Al_pu (Pu_add rfl rfl rfl (fun h1 h2 => by simp only [A.inI, A.maxI] at *; omega)) rfl rfl (by decide) (by kernel_rfl) ?_
      refine Al_pu (Pu_move (.inr rfl) (by conv => lhs; whnf)) rfl rfl (by decide) (by kernel_rfl) ?_
      refine Al_nil ?_
      exact ⟨i + 1, ⟨by omega, S.all_snoc hi hall hc⟩, by omega, Le.ov ⟨Sub.num (by omega), Sub.str (by rw [S.flat_snoc _ hi, List.append_assoc]), trivial⟩ ⟨Sub.rfl, trivial⟩ trivial trivial⟩ -- loop 0 next.0
  · (try simp only [decide_eq_true_eq, decide_eq_false_iff_not, Bool.and_eq_true, Bool.or_eq_true, Bool.and_eq_false_iff, Bool.or_eq_false_iff, Bool.not_eq_true', Bool.not_eq_false', beq_iff_eq, Bool.not_eq_eq_eq_not, Bool.not_true, Bool.not_false, List.length_map, Bool.and_true, Bool.and_false, Bool.false_and, Bool.true_and, Bool.or_false, Bool.false_or] at h13)
    have hi : l.take i = l := List.take_of_length_le (by omega)
    rw [hi] at hall
    have hal : l.all S.check = true := List.all_eq_true.2 hall
    refine Aw_exit ?_
    refine Aw_seq ?_
    refine Aw_region ?_
    refine Al_pu (Pu_move (.inl rfl) (by conv => lhs; whnf)) rfl rfl (by decide) (by kernel_rfl) ?_
    refine Al_pu (Pu_move (.inr rfl) (by conv => lhs; whnf)) rfl rfl (by decide) (by kernel_rfl) ?_
    refine Al_nil ?_
    refine Aw_ret ?_
    exact Sub.str (by rw [hi]; unfold S.bytes; rw [hal]; rfl) -- ret 1
end Go.Proofs.Ytocgnmklgklfnaa
