/- A row's bytes: the reference's. -/
import Derived.Test.YtocgnmklgklfnaaSRowR
set_option linter.unusedSimpArgs false
set_option linter.unusedVariables false
namespace Go.Proofs.Ytocgnmklgklfnaa
open Go.RowKit A R
namespace S
theorem flat_le {α : Type} (f : α → List UInt8) (b : Nat) : ∀ l : List α, (∀ x ∈ l, (f x).length ≤ b) → (l.flatMap f).length ≤ b * l.length
  | [], _ => by simp
  | x :: r, h => by
    have h1 := h x (by simp)
    have h2 := flat_le f b r fun y hy => h y (by simp [hy])
    simp only [List.flatMap_cons, List.length_append, List.length_cons, Nat.mul_add]
    omega
theorem flat_snoc {α : Type} (f : α → List UInt8) {l : List α} {k : Nat} (h : k < l.length) : (l.take (k + 1)).flatMap f = (l.take k).flatMap f ++ f l[k] := by
  rw [List.take_succ_eq_append_getElem h, List.flatMap_append]; simp
def cuts (c : SRow) : List Rng := c.ranges.take (c.ranges.length - 1)
def rowBytes (c : SRow) : List UInt8 := V.num c.ranges.length ++ (cuts c).flatMap (fun r => V.text r.t) ++ c.owners.flatMap (fun x => V.num x.toNat) ++ V.num c.parents.length ++ c.parents.flatMap fun p => V.num (p + 1).toNat
def fitRow (c : SRow) : Prop := ∀ r ∈ c.ranges, r.f.size ≤ 1000 ∧ r.t.size ≤ 1000
theorem written_facts {c : SRow} (h : written c = true) : shape c = true ∧ (∀ p ∈ c.parents, -1 ≤ p ∧ p ≤ 5) ∧ ∀ x ∈ c.owners, 1 ≤ x ∧ x ≤ 63 := by
  unfold written at h
  rw [Bool.and_eq_true, Bool.and_eq_true] at h
  obtain ⟨h1, h2, h3⟩ := h
  have hn := (shape_facts h1).2.1
  refine ⟨h1, fun p hp => ?_, fun x hx => ?_⟩
  · by_cases hb : badP p = true
    · rw [List.any_eq_true.2 ⟨p, hp, hb⟩] at h2; cases h2
    · simp only [badP, Bool.or_eq_true, decide_eq_true_eq, not_or] at hb; omega
  · by_cases hb : badO c.parents.length x = true
    · rw [List.any_eq_true.2 ⟨x, hx, hb⟩] at h3; cases h3
    · simp only [badO, Bool.or_eq_true, decide_eq_true_eq, not_or] at hb
      have := pow_in c.parents.length hn
      omega
end S
set_option maxRecDepth 100000 in
theorem rrowbytes_a (c : SRow) (hw : S.written c = true) (hf : S.fitRow c) : ACall Try.prog 44 [.row c.row] (tv (V.ba (S.rowBytes c))) := by
  refine ACall_enter (fun _ _ => by kernel_rfl) Try.func44 rfl Try.ntmps44 Try.results44 (Nat.le_of_ble_eq_true rfl) (fun hok M0 w0 => ?_)
  obtain ⟨hs, hp, hx⟩ := S.written_facts hw
  obtain ⟨n1, n2, n3, n4, _⟩ := S.shape_facts hs
  have b1 := V.num_len64 (n := c.ranges.length) (by omega)
  have b2 := V.num_len64 (n := c.parents.length) (by omega)
  refine Aw_seq ?_
  refine Aw_region ?_
  refine Al_pu (Pu_boxN rfl rfl) rfl rfl (by decide) (by kernel_rfl) ?_
  refine Al_pu (Pu_move (.inr rfl) (by conv => lhs; whnf)) rfl rfl (by decide) (by kernel_rfl) ?_
  refine Al_nil ?_
  refine Aw_seq ?_
  refine Aw_region ?_
  refine Al_pu (Pu_field 0 rfl Try.underlying28 rfl rfl Try.sizeOf25 rfl) rfl rfl (by decide) (by kernel_rfl) ?_
  refine Al_pu (Pu_load1 rfl Try.isAgg25 rfl rfl) rfl rfl (by decide) (by kernel_rfl) ?_
  refine Al_pu (Pu_len rfl Try.underlying25 rfl (by first | exact List.length_map .. | exact rfl)) rfl rfl (by decide) (by kernel_rfl) ?_
  refine Al_pu (Pu_move (.inr rfl) (by conv => lhs; whnf)) rfl rfl (by decide) (by kernel_rfl) ?_
  refine Al_nil ?_
  refine Aw_seq ?_
  refine Aw_region ?_
  refine Al_pu (Pu_move (.inl rfl) (by conv => lhs; whnf)) rfl rfl (by decide) (by kernel_rfl) ?_
  refine Al_pu (Pu_conv rfl Try.underlying3 Try.underlying63 rfl (fun hv => u64_nat (by omega) (by simp only [vok, A.inI] at hv; omega))) rfl rfl (by decide) (by kernel_rfl) ?_
  refine Al_pu (Pu_call (rnumber_a c.ranges.length (by omega)) rfl ⟨Sub.rfl, trivial⟩) rfl rfl (by decide) (by kernel_rfl) ?_
  refine Al_pu (Pu_move (.inr rfl) (by conv => lhs; whnf)) rfl rfl (by decide) (by kernel_rfl) ?_
  refine Al_nil ?_
  refine Aw_seq ?_
  refine Aw_seq ?_
  refine Aw_region ?_
  refine Al_pu (Pu_move (.inr rfl) (by conv => lhs; whnf)) rfl rfl (by decide) (by kernel_rfl) ?_
  refine Al_nil ?_
  refine Aw_block ?_
  refine Aw_loopk (ι := Nat) [1, 3] [] (fun k => [(5, .d (iv k)), (4, .d (tv (V.ba (V.num c.ranges.length ++ (c.ranges.take k).flatMap fun r => V.text r.t))))]) (fun k => []) (fun k => k ≤ (c.ranges.length - 1)) (fun k => (c.ranges.length - 1) - k) (0) (Nat.zero_le _) ⟨Sub.rfl, Sub.str (by simp), trivial⟩ trivial ?_
  rintro k hk0
  refine Aw_seq ?_
  refine Aw_seq ?_
  refine Aw_region ?_
  refine Al_pu (Pu_move (.inl rfl) (by conv => lhs; whnf)) rfl rfl (by decide) (by kernel_rfl) ?_
  refine Al_pu (Pu_add rfl rfl rfl (fun h1 h2 => by simp only [A.inI, A.maxI] at *; omega)) rfl rfl (by decide) (by kernel_rfl) ?_
  refine Al_pu (Pu_move (.inl rfl) (by conv => lhs; whnf)) rfl rfl (by decide) (by kernel_rfl) ?_
  refine Al_pu (Pu_cmp rfl rfl rfl rfl) rfl rfl (by decide) (by kernel_rfl) ?_
  refine Al_nil ?_
  refine Aw_cond rfl (fun h17 => ?_) (fun h17 => ?_)
  · (try simp only [decide_eq_true_eq, decide_eq_false_iff_not, Bool.and_eq_true, Bool.or_eq_true, Bool.and_eq_false_iff, Bool.or_eq_false_iff, Bool.not_eq_true', Bool.not_eq_false', beq_iff_eq, Bool.not_eq_eq_eq_not, Bool.not_true, Bool.not_false, List.length_map, Bool.and_true, Bool.and_false, Bool.false_and, Bool.true_and, Bool.or_false, Bool.false_or] at h17)
    have hk : k < c.ranges.length := by omega
    have t0 := (hf _ (List.getElem_mem hk)).2
    have t1 : (V.text c.ranges[k].t).length ≤ 1010 := by
      have := V.num_len64 (n := c.ranges[k].t.size) (by omega)
      simp [V.text]; omega
    have t2 := S.flat_le (fun r : Rng => V.text r.t) 1010 (c.ranges.take k) (fun r hr => by
      have := (hf r (List.mem_of_mem_take hr)).2
      have := V.num_len64 (n := r.t.size) (by omega)
      simp [V.text]; omega)
    rw [List.length_take] at t2
    refine Aw_skip ?_
    refine Aw_seq ?_
    refine Aw_block ?_
    refine Aw_region ?_
    refine Al_pu (Pu_move (.inl rfl) (by conv => lhs; whnf)) rfl rfl (by decide) (by kernel_rfl) ?_
    refine Al_pu (Pu_field 0 rfl Try.underlying28 rfl rfl Try.sizeOf25 rfl) rfl rfl (by decide) (by kernel_rfl) ?_
    refine Al_pu (Pu_load1 rfl Try.isAgg25 rfl rfl) rfl rfl (by decide) (by kernel_rfl) ?_
    refine Al_pu (Pu_move (.inl rfl) (by conv => lhs; whnf)) rfl rfl (by decide) (by kernel_rfl) ?_
    refine Al_pu (Pu_index rfl Try.underlying25 Try.sizeOf46 rfl rfl (rfl) (mapget hk)) rfl rfl (by decide) (by kernel_rfl) ?_
    refine Al_pu (Pu_field 1 rfl Try.underlying46 rfl rfl Try.sizeOf9 rfl) rfl rfl (by decide) (by kernel_rfl) ?_
    refine Al_pu (Pu_load1 rfl Try.isAgg9 rfl rfl) rfl rfl (by decide) (by kernel_rfl) ?_
    refine Al_pu (Pu_call (rtext_a _ (by omega)) rfl ⟨Sub.rfl, trivial⟩) rfl rfl (by decide) (by kernel_rfl) ?_
    refine Al_pu (Pu_catB rfl rfl rfl (by simp only [A.ba_sz, List.length_append, A.maxI]; omega)) rfl rfl (by decide) (by kernel_rfl) ?_
    refine Al_pu (Pu_move (.inr rfl) (by conv => lhs; whnf)) rfl rfl (by decide) (by kernel_rfl) ?_
    refine Al_nil ?_
    refine Aw_region ?_
    refine Al_pu (Pu_move (.inl rfl) (by conv => lhs; whnf)) rfl rfl (by decide) (by kernel_rfl) ?_
    refine Al_pu (Pu_add rfl rfl rfl (fun h1 h2 => by simp only [A.inI, A.maxI] at *; omega)) rfl rfl (by decide) (by kernel_rfl) ?_
    refine Al_pu (Pu_move (.inr rfl) (by conv => lhs; whnf)) rfl rfl (by decide) (by kernel_rfl) ?_
    refine Al_nil ?_
    exact ⟨k + 1, by omega, by omega, Le.ov ⟨Sub.num (by omega), Sub.str (by rw [S.flat_snoc _ hk, List.append_assoc]), trivial⟩ ⟨Sub.rfl, Sub.rfl, trivial⟩ trivial trivial⟩ -- loop 0 next.0
  · (try simp only [decide_eq_true_eq, decide_eq_false_iff_not, Bool.and_eq_true, Bool.or_eq_true, Bool.and_eq_false_iff, Bool.or_eq_false_iff, Bool.not_eq_true', Bool.not_eq_false', beq_iff_eq, Bool.not_eq_eq_eq_not, Bool.not_true, Bool.not_false, List.length_map, Bool.and_true, Bool.and_false, Bool.false_and, Bool.true_and, Bool.or_false, Bool.false_or] at h17)
    obtain ⟨pA, hpA⟩ : ∃ pA, pA = V.num c.ranges.length ++ (S.cuts c).flatMap fun r => V.text r.t := ⟨_, rfl⟩
    have hk0 : c.ranges.take k = S.cuts c := by
      unfold S.cuts
      congr 1
      omega
    have hpAl : pA.length ≤ 10000 := by
      have := S.flat_le (fun r : Rng => V.text r.t) 1010 (S.cuts c) (fun r hr => by
        have := (hf r (List.mem_of_mem_take hr)).2
        have := V.num_len64 (n := r.t.size) (by omega)
        simp [V.text]; omega)
      have h2 : (S.cuts c).length ≤ 8 := by unfold S.cuts; simp; omega
      rw [hpA, List.length_append]; omega
    rw [hk0, ← hpA]
    refine Aw_exit ?_
    refine Aw_seq ?_
    refine Aw_seq ?_
    refine Aw_region ?_
    refine Al_pu (Pu_move (.inr rfl) (by conv => lhs; whnf)) rfl rfl (by decide) (by kernel_rfl) ?_
    refine Al_nil ?_
    refine Aw_block ?_
    refine Aw_loopk (ι := Nat) [1, 3] [] (fun i => [(6, .d (iv i)), (4, .d (tv (V.ba (pA ++ (c.owners.take i).flatMap fun x => V.num x.toNat))))]) (fun i => []) (fun i => i ≤ c.ranges.length) (fun i => c.ranges.length - i) (0) (Nat.zero_le _) ⟨Sub.rfl, Sub.str (by simp), trivial⟩ trivial ?_
    rintro i hk1
    refine Aw_seq ?_
    refine Aw_seq ?_
    refine Aw_region ?_
    refine Al_pu (Pu_move (.inl rfl) (by conv => lhs; whnf)) rfl rfl (by decide) (by kernel_rfl) ?_
    refine Al_pu (Pu_move (.inl rfl) (by conv => lhs; whnf)) rfl rfl (by decide) (by kernel_rfl) ?_
    refine Al_pu (Pu_cmp rfl rfl rfl rfl) rfl rfl (by decide) (by kernel_rfl) ?_
    refine Al_nil ?_
    refine Aw_cond rfl (fun h31 => ?_) (fun h31 => ?_)
    · (try simp only [decide_eq_true_eq, decide_eq_false_iff_not, Bool.and_eq_true, Bool.or_eq_true, Bool.and_eq_false_iff, Bool.or_eq_false_iff, Bool.not_eq_true', Bool.not_eq_false', beq_iff_eq, Bool.not_eq_eq_eq_not, Bool.not_true, Bool.not_false, List.length_map, Bool.and_true, Bool.and_false, Bool.false_and, Bool.true_and, Bool.or_false, Bool.false_or] at h31)
      have hi : i < c.owners.length := by omega
      have o1 := hx _ (List.getElem_mem hi)
      have o2 := V.num_len64 (n := c.owners[i].toNat) (by omega)
      have o3 := S.flat_le (fun x : Int => V.num x.toNat) 10 (c.owners.take i) (fun x hxm => by
        have := hx x (List.mem_of_mem_take hxm)
        exact V.num_len64 (by omega))
      rw [List.length_take] at o3
      refine Aw_skip ?_
      refine Aw_seq ?_
      refine Aw_block ?_
      refine Aw_region ?_
      refine Al_pu (Pu_move (.inl rfl) (by conv => lhs; whnf)) rfl rfl (by decide) (by kernel_rfl) ?_
      refine Al_pu (Pu_field 1 rfl Try.underlying28 rfl rfl Try.sizeOf26 rfl) rfl rfl (by decide) (by kernel_rfl) ?_
      refine Al_pu (Pu_load1 rfl Try.isAgg26 rfl rfl) rfl rfl (by decide) (by kernel_rfl) ?_
      refine Al_pu (Pu_move (.inl rfl) (by conv => lhs; whnf)) rfl rfl (by decide) (by kernel_rfl) ?_
      refine Al_pu (Pu_index rfl Try.underlying26 Try.sizeOf3 rfl rfl (rfl) (mapget hi)) rfl rfl (by decide) (by kernel_rfl) ?_
      refine Al_pu (Pu_load1 rfl Try.isAgg3 rfl rfl) rfl rfl (by decide) (by kernel_rfl) ?_
      refine Al_pu (Pu_conv rfl Try.underlying3 Try.underlying63 rfl (fun hv => u64_nat (by omega) (by simp only [vok, A.inI] at hv; omega))) rfl rfl (by decide) (by kernel_rfl) ?_
      refine Al_pu (Pu_call (rnumber_az _ (by omega) (by omega)) rfl ⟨Sub.rfl, trivial⟩) rfl rfl (by decide) (by kernel_rfl) ?_
      refine Al_pu (Pu_catB rfl rfl rfl (by simp only [A.ba_sz, List.length_append, A.maxI]; omega)) rfl rfl (by decide) (by kernel_rfl) ?_
      refine Al_pu (Pu_move (.inr rfl) (by conv => lhs; whnf)) rfl rfl (by decide) (by kernel_rfl) ?_
      refine Al_nil ?_
      refine Aw_region ?_
      refine Al_pu (Pu_move (.inl rfl) (by conv => lhs; whnf)) rfl rfl (by decide) (by kernel_rfl) ?_
      refine Al_pu (Pu_add rfl rfl rfl (fun h1 h2 => by simp only [A.inI, A.maxI] at *; omega)) rfl rfl (by decide) (by kernel_rfl) ?_
      refine Al_pu (Pu_move (.inr rfl) (by conv => lhs; whnf)) rfl rfl (by decide) (by kernel_rfl) ?_
      refine Al_nil ?_
      exact ⟨i + 1, by omega, by omega, Le.ov ⟨Sub.num (by omega), Sub.str (by rw [S.flat_snoc _ hi, List.append_assoc]), trivial⟩ ⟨Sub.rfl, Sub.rfl, trivial⟩ trivial trivial⟩ -- loop 1 next.0
    · (try simp only [decide_eq_true_eq, decide_eq_false_iff_not, Bool.and_eq_true, Bool.or_eq_true, Bool.and_eq_false_iff, Bool.or_eq_false_iff, Bool.not_eq_true', Bool.not_eq_false', beq_iff_eq, Bool.not_eq_eq_eq_not, Bool.not_true, Bool.not_false, List.length_map, Bool.and_true, Bool.and_false, Bool.false_and, Bool.true_and, Bool.or_false, Bool.false_or] at h31)
      have hi : c.owners.take i = c.owners := List.take_of_length_le (by omega)
      rw [hi]
      obtain ⟨pB, hpB⟩ : ∃ pB, pB = pA ++ c.owners.flatMap fun x => V.num x.toNat := ⟨_, rfl⟩
      have hpBl : pB.length ≤ 11000 := by
        have := S.flat_le (fun x : Int => V.num x.toNat) 10 c.owners (fun x hxm => by
          have := hx x hxm
          exact V.num_len64 (by omega))
        rw [hpB, List.length_append]; omega
      rw [← hpB]
      refine Aw_exit ?_
      refine Aw_seq ?_
      refine Aw_region ?_
      refine Al_pu (Pu_move (.inl rfl) (by conv => lhs; whnf)) rfl rfl (by decide) (by kernel_rfl) ?_
      refine Al_pu (Pu_field 2 rfl Try.underlying28 rfl rfl Try.sizeOf26 rfl) rfl rfl (by decide) (by kernel_rfl) ?_
      refine Al_pu (Pu_load1 rfl Try.isAgg26 rfl rfl) rfl rfl (by decide) (by kernel_rfl) ?_
      refine Al_pu (Pu_len rfl Try.underlying26 rfl (by first | exact List.length_map .. | exact rfl)) rfl rfl (by decide) (by kernel_rfl) ?_
      refine Al_pu (Pu_conv rfl Try.underlying3 Try.underlying63 rfl (fun hv => u64_nat (by omega) (by simp only [vok, A.inI] at hv; omega))) rfl rfl (by decide) (by kernel_rfl) ?_
      refine Al_pu (Pu_call (rnumber_a c.parents.length (by omega)) rfl ⟨Sub.rfl, trivial⟩) rfl rfl (by decide) (by kernel_rfl) ?_
      refine Al_pu (Pu_catB rfl rfl rfl (by simp only [A.ba_sz, List.length_append, A.maxI]; omega)) rfl rfl (by decide) (by kernel_rfl) ?_
      refine Al_pu (Pu_move (.inr rfl) (by conv => lhs; whnf)) rfl rfl (by decide) (by kernel_rfl) ?_
      refine Al_nil ?_
      refine Aw_seq ?_
      refine Aw_seq ?_
      refine Aw_region ?_
      refine Al_pu (Pu_move (.inr rfl) (by conv => lhs; whnf)) rfl rfl (by decide) (by kernel_rfl) ?_
      refine Al_nil ?_
      refine Aw_block ?_
      refine Aw_loopk (ι := Nat) [1] [] (fun j => [(7, .d (iv j)), (4, .d (tv (V.ba (pB ++ V.num c.parents.length ++ (c.parents.take j).flatMap fun p => V.num (p + 1).toNat))))]) (fun j => []) (fun j => j ≤ c.parents.length) (fun j => c.parents.length - j) (0) (Nat.zero_le _) ⟨Sub.rfl, Sub.str (by simp), trivial⟩ trivial ?_
      rintro j hk2
      refine Aw_seq ?_
      refine Aw_seq ?_
      refine Aw_region ?_
      refine Al_pu (Pu_move (.inl rfl) (by conv => lhs; whnf)) rfl rfl (by decide) (by kernel_rfl) ?_
      refine Al_pu (Pu_field 2 rfl Try.underlying28 rfl rfl Try.sizeOf26 rfl) rfl rfl (by decide) (by kernel_rfl) ?_
      refine Al_pu (Pu_load1 rfl Try.isAgg26 rfl rfl) rfl rfl (by decide) (by kernel_rfl) ?_
      refine Al_pu (Pu_len rfl Try.underlying26 rfl (by first | exact List.length_map .. | exact rfl)) rfl rfl (by decide) (by kernel_rfl) ?_
      refine Al_pu (Pu_cmp rfl rfl rfl rfl) rfl rfl (by decide) (by kernel_rfl) ?_
      refine Al_nil ?_
      refine Aw_cond rfl (fun h54 => ?_) (fun h54 => ?_)
      · (try simp only [decide_eq_true_eq, decide_eq_false_iff_not, Bool.and_eq_true, Bool.or_eq_true, Bool.and_eq_false_iff, Bool.or_eq_false_iff, Bool.not_eq_true', Bool.not_eq_false', beq_iff_eq, Bool.not_eq_eq_eq_not, Bool.not_true, Bool.not_false, List.length_map, Bool.and_true, Bool.and_false, Bool.false_and, Bool.true_and, Bool.or_false, Bool.false_or] at h54)
        have hj : j < c.parents.length := by omega
        have o1 := hp _ (List.getElem_mem hj)
        have o2 := V.num_len64 (n := (c.parents[j] + 1).toNat) (by omega)
        have o3 := S.flat_le (fun p : Int => V.num (p + 1).toNat) 10 (c.parents.take j) (fun x hxm => by
          have := hp x (List.mem_of_mem_take hxm)
          exact V.num_len64 (by omega))
        rw [List.length_take] at o3
        refine Aw_skip ?_
        refine Aw_seq ?_
        refine Aw_block ?_
        refine Aw_region ?_
        refine Al_pu (Pu_move (.inl rfl) (by conv => lhs; whnf)) rfl rfl (by decide) (by kernel_rfl) ?_
        refine Al_pu (Pu_field 2 rfl Try.underlying28 rfl rfl Try.sizeOf26 rfl) rfl rfl (by decide) (by kernel_rfl) ?_
        refine Al_pu (Pu_load1 rfl Try.isAgg26 rfl rfl) rfl rfl (by decide) (by kernel_rfl) ?_
        refine Al_pu (Pu_move (.inl rfl) (by conv => lhs; whnf)) rfl rfl (by decide) (by kernel_rfl) ?_
        refine Al_pu (Pu_index rfl Try.underlying26 Try.sizeOf3 rfl rfl (rfl) (mapget hj)) rfl rfl (by decide) (by kernel_rfl) ?_
        refine Al_pu (Pu_load1 rfl Try.isAgg3 rfl rfl) rfl rfl (by decide) (by kernel_rfl) ?_
        refine Al_pu (Pu_add rfl rfl rfl (fun h1 h2 => by simp only [A.inI, A.maxI] at *; omega)) rfl rfl (by decide) (by kernel_rfl) ?_
        refine Al_pu (Pu_conv rfl Try.underlying3 Try.underlying63 rfl (fun hv => u64_nat (by omega) (by simp only [vok, A.inI] at hv; omega))) rfl rfl (by decide) (by kernel_rfl) ?_
        refine Al_pu (Pu_call (rnumber_az _ (by omega) (by omega)) rfl ⟨Sub.rfl, trivial⟩) rfl rfl (by decide) (by kernel_rfl) ?_
        refine Al_pu (Pu_catB rfl rfl rfl (by simp only [A.ba_sz, List.length_append, A.maxI]; omega)) rfl rfl (by decide) (by kernel_rfl) ?_
        refine Al_pu (Pu_move (.inr rfl) (by conv => lhs; whnf)) rfl rfl (by decide) (by kernel_rfl) ?_
        refine Al_nil ?_
        refine Aw_region ?_
        refine Al_pu (Pu_move (.inl rfl) (by conv => lhs; whnf)) rfl rfl (by decide) (by kernel_rfl) ?_
        refine Al_pu (Pu_add rfl rfl rfl (fun h1 h2 => by simp only [A.inI, A.maxI] at *; omega)) rfl rfl (by decide) (by kernel_rfl) ?_
        refine Al_pu (Pu_move (.inr rfl) (by conv => lhs; whnf)) rfl rfl (by decide) (by kernel_rfl) ?_
        refine Al_nil ?_
        exact ⟨j + 1, by omega, by omega, Le.ov ⟨Sub.num (by omega), Sub.str (by rw [S.flat_snoc _ hj, List.append_assoc]), trivial⟩ ⟨Sub.rfl, trivial⟩ trivial trivial⟩ -- loop 2 next.0
      · (try simp only [decide_eq_true_eq, decide_eq_false_iff_not, Bool.and_eq_true, Bool.or_eq_true, Bool.and_eq_false_iff, Bool.or_eq_false_iff, Bool.not_eq_true', Bool.not_eq_false', beq_iff_eq, Bool.not_eq_eq_eq_not, Bool.not_true, Bool.not_false, List.length_map, Bool.and_true, Bool.and_false, Bool.false_and, Bool.true_and, Bool.or_false, Bool.false_or] at h54)
        have hj : c.parents.take j = c.parents := List.take_of_length_le (by omega)
        refine Aw_exit ?_
        refine Aw_seq ?_
        refine Aw_region ?_
        refine Al_pu (Pu_move (.inl rfl) (by conv => lhs; whnf)) rfl rfl (by decide) (by kernel_rfl) ?_
        refine Al_pu (Pu_move (.inr rfl) (by conv => lhs; whnf)) rfl rfl (by decide) (by kernel_rfl) ?_
        refine Al_nil ?_
        refine Aw_ret ?_
        exact Sub.str (by rw [hj, hpB, hpA]; rfl) -- ret 0
end Go.Proofs.Ytocgnmklgklfnaa
