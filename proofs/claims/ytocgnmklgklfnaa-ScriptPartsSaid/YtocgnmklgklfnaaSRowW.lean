/- wire.RowBytes: the same bytes. -/
import Derived.Test.YtocgnmklgklfnaaSRowB
import Derived.Test.YtocgnmklgklfnaaAW
set_option linter.unusedSimpArgs false
set_option linter.unusedVariables false
namespace Go.Proofs.Ytocgnmklgklfnaa
open Go.RowKit A R
theorem join_a (ns : List Nat) (hl : ns.length ≤ 1000) : ACall Try.prog 40 [.sl 1 (ns.map fun (n : Nat) => [uv n])] (tv (V.ba (ns.flatMap V.num))) := ⟨fun _ _ => by kernel_rfl, fun M w vs hM ha => by
  obtain ⟨x, xs, rfl, h1, h2⟩ := allc ha
  obtain rfl := all0 h2
  obtain ⟨a, cap, rfl, hrow⟩ : ∃ a cap, x = .slice a ns.length cap ∧ NumRow ns a w := by
    generalize hr : (ns.map fun (n : Nat) => [uv n]) = rows at h1
    cases h1 with
    | nil n a c =>
      have : ns = [] := by simpa using hr
      subst this
      exact ⟨a, c, rfl, fun i n h => by simp at h⟩
    | sl n rows b o cap f hl hcap hn hc hrr =>
      subst hr
      refine ⟨some ⟨b, o, none⟩, cap, by simp, fun i n hi => ?_⟩
      have h0 : (ns.map fun (n : Nat) => [uv n])[i]? = some [uv n] := by rw [List.getElem?_map, hi]; rfl
      obtain ⟨_, hcell, _⟩ := hc i _ 0 (uv n) h0 rfl
      have hrep := hrr i _ 0 (uv n) h0 rfl
      obtain ⟨e1, e2⟩ := repv hrep
      refine ⟨?_, b, o, rfl, ?_⟩
      · have : (0 : Int) ≤ n ∧ (n : Int) ≤ 18446744073709551615 := e2
        omega
      · rw [e1] at hcell
        simpa using hcell
  have hall : ∀ n ∈ ns, n < 18446744073709551616 := fun n hn => by
    obtain ⟨i, hi, rfl⟩ := List.getElem_of_mem hn
    exact (hrow i _ (by simp [hi])).1
  refine (join_any a cap ns hl w hrow).mono ?_
  rintro e w' ⟨rfl, hx⟩
  refine ⟨_, rfl, hx, .v _ ?_⟩
  have := flat_len ns hall
  show (V.ba _).size ≤ maxI
  rw [A.ba_sz]
  simp only [maxI]; omega⟩
theorem S.getcut {c : SRow} {k : Nat} (hk : k < (S.cuts c).length) : (List.drop 0 (List.take (c.ranges.length - 1) (c.ranges.map Rng.row)))[k]? = some (S.cuts c)[k].row := by
  rw [List.drop_zero, ← List.map_take]
  exact mapget hk
def S.rest (c : SRow) : List Nat := c.owners.map Int.toNat ++ [c.parents.length] ++ c.parents.map fun p => (p + 1).toNat
theorem S.rest_rows {c : SRow} (hp : ∀ p ∈ c.parents, -1 ≤ p ∧ p ≤ 5) (hx : ∀ x ∈ c.owners, 1 ≤ x ∧ x ≤ 63) : (c.owners.map fun x => [uv x]) ++ [[uv c.parents.length]] ++ (c.parents.map fun p => [uv (p + 1)]) = (S.rest c).map fun (n : Nat) => [uv n] := by
  unfold S.rest
  rw [List.map_append, List.map_append, List.map_map, List.map_map]
  congr 1
  · congr 1
    exact List.map_congr_left fun x h => by
      have := hx x h
      show [uv x] = [uv (x.toNat : Int)]
      rw [Int.toNat_of_nonneg (by omega)]
  · exact List.map_congr_left fun x h => by
      have := hp x h
      show [uv (x + 1)] = [uv ((x + 1).toNat : Int)]
      rw [Int.toNat_of_nonneg (by omega)]
theorem S.rest_bytes (c : SRow) : V.num c.ranges.length ++ (S.cuts c).flatMap (fun r => V.text r.t) ++ (S.rest c).flatMap V.num = S.rowBytes c := by
  unfold S.rest S.rowBytes
  simp [List.flatMap_append, List.flatMap_map]
set_option maxRecDepth 100000 in
theorem rowbytes_a (c : SRow) (hf : S.fitRow c) : ACall Try.prog 24 [.row c.row] (tv (V.ba (if S.written c then S.rowBytes c else []))) := by
  refine ACall_enter (fun _ _ => by kernel_rfl) Try.func24 rfl Try.ntmps24 Try.results24 (Nat.le_of_ble_eq_true rfl) (fun hok M0 w0 => ?_)
  refine Aw_seq ?_
  refine Aw_region ?_
  refine Al_pu (Pu_boxN rfl rfl) rfl rfl (by decide) (by kernel_rfl) ?_
  refine Al_pu (Pu_move (.inr rfl) (by conv => lhs; whnf)) rfl rfl (by decide) (by kernel_rfl) ?_
  refine Al_nil ?_
  refine Aw_seq ?_
  refine Aw_seq ?_
  refine Aw_region ?_
  refine Al_pu (Pu_loadN rfl Try.isAgg28 Try.sizeOf28 rfl (Nat.le_of_ble_eq_true rfl)) rfl rfl (by decide) (by kernel_rfl) ?_
  refine Al_pu (Pu_call (swritten_a c) rfl ⟨Sub.rfl, trivial⟩) rfl rfl (by decide) (by kernel_rfl) ?_
  refine Al_pu (Pu_not rfl rfl) rfl rfl (by decide) (by kernel_rfl) ?_
  refine Al_nil ?_
  refine Aw_cond rfl (fun h14 => ?_) (fun h14 => ?_)
  · (try simp only [decide_eq_true_eq, decide_eq_false_iff_not, Bool.and_eq_true, Bool.or_eq_true, Bool.and_eq_false_iff, Bool.or_eq_false_iff, Bool.not_eq_true', Bool.not_eq_false', beq_iff_eq, Bool.not_eq_eq_eq_not, Bool.not_true, Bool.not_false, List.length_map, Bool.and_true, Bool.and_false, Bool.false_and, Bool.true_and, Bool.or_false, Bool.false_or] at h14)
    have hw : S.written c = false := by simpa using h14
    refine Aw_seq ?_
    refine Aw_region ?_
    refine Al_pu (Pu_move (.inr rfl) (by conv => lhs; whnf)) rfl rfl (by decide) (by kernel_rfl) ?_
    refine Al_nil ?_
    refine Aw_ret ?_
    exact Sub.str (by rw [hw]; rfl) -- ret 0
  · (try simp only [decide_eq_true_eq, decide_eq_false_iff_not, Bool.and_eq_true, Bool.or_eq_true, Bool.and_eq_false_iff, Bool.or_eq_false_iff, Bool.not_eq_true', Bool.not_eq_false', beq_iff_eq, Bool.not_eq_eq_eq_not, Bool.not_true, Bool.not_false, List.length_map, Bool.and_true, Bool.and_false, Bool.false_and, Bool.true_and, Bool.or_false, Bool.false_or] at h14)
    have hw : S.written c = true := by simpa using h14
    rw [hw]
    obtain ⟨hs, hp, hx⟩ := S.written_facts hw
    obtain ⟨n1, n2, n3, n4, n5⟩ := S.shape_facts hs
    have n6 : 1 ≤ c.ranges.length := by
      unfold whole at n5
      cases hc : c.ranges with
      | nil => rw [hc] at n5; cases n5
      | cons r l => simp
    have b1 := V.num_len64 (n := c.ranges.length) (by omega)
    refine Aw_skip ?_
    refine Aw_seq ?_
    refine Aw_region ?_
    refine Al_pu (Pu_field 0 rfl Try.underlying28 rfl rfl Try.sizeOf25 rfl) rfl rfl (by decide) (by kernel_rfl) ?_
    refine Al_pu (Pu_load1 rfl Try.isAgg25 rfl rfl) rfl rfl (by decide) (by kernel_rfl) ?_
    refine Al_pu (Pu_len rfl Try.underlying25 rfl (by first | exact List.length_map .. | exact rfl)) rfl rfl (by decide) (by kernel_rfl) ?_
    refine Al_pu (Pu_move (.inr rfl) (by conv => lhs; whnf)) rfl rfl (by decide) (by kernel_rfl) ?_
    refine Al_nil ?_
    refine Aw_seq ?_
    refine Aw_region ?_
    refine Al_alloc rfl rfl rfl (by decide) Try.zeroValue57 rfl (by kernel_rfl) (fun g4 => ?_)
    refine Al_nil ?_
    refine Aw_seq ?_
    refine Aw_ownc (k := 4) (k2 := 40) (e := 5) (n := 1) rfl rfl (fun g40 => ?_)
    refine Aw_region ?_
    refine Al_pu (Pu_move (.inl rfl) (by conv => lhs; whnf)) rfl rfl (by decide) (by kernel_rfl) ?_
    refine Al_pu (Pu_conv rfl Try.underlying3 Try.underlying63 rfl (fun hv => u64_nat (by omega) (by simp only [vok, A.inI] at hv; omega))) rfl rfl (by decide) (by kernel_rfl) ?_
    refine Al_pu (Pu_call (number_a c.ranges.length (by omega)) rfl ⟨Sub.rfl, trivial⟩) rfl rfl (by decide) (by kernel_rfl) ?_
    refine Al_bwrite (k := 4) (k2 := 40) (bs := []) rfl rfl rfl (by decide) (by kernel_rfl) rfl rfl (.inl rfl) rfl rfl rfl (by simp only [List.length_nil, A.ba_sz]; omega) (fun g21 => ?_)
    refine Al_nil ?_
    refine Aw_seq ?_
    refine Aw_seq ?_
    have hdl : (List.drop 0 (List.take (c.ranges.length - 1) (c.ranges.map Rng.row))).length = c.ranges.length - 1 := by simp
    have hcl : (S.cuts c).length = c.ranges.length - 1 := by unfold S.cuts; simp
    have hct : ∀ r ∈ S.cuts c, (V.text r.t).length ≤ 1010 := fun r hr => by
      have := (hf r (List.mem_of_mem_take hr)).2
      have := V.num_len64 (n := r.t.size) (by omega)
      simp [V.text]; omega
    refine Aw_region ?_
    refine Al_pu (Pu_field 0 rfl Try.underlying28 rfl rfl Try.sizeOf25 rfl) rfl rfl (by decide) (by kernel_rfl) ?_
    refine Al_pu (Pu_load1 rfl Try.isAgg25 rfl rfl) rfl rfl (by decide) (by kernel_rfl) ?_
    refine Al_pu (Pu_move (.inl rfl) (by conv => lhs; whnf)) rfl rfl (by decide) (by kernel_rfl) ?_
    refine Al_pu (Pu_sub rfl rfl rfl (fun h1 h2 => by simp only [A.inI, A.maxI] at *; omega)) rfl rfl (by decide) (by kernel_rfl) ?_
    refine Al_pu (Pu_subL (0) (c.ranges.length - 1) rfl Try.underlying25 Try.sizeOf46 rfl rfl ⟨_, rfl, by omega⟩ ⟨by first | omega | (simp; done) | (simp; omega), by first | omega | (simp; done) | (simp; omega)⟩) rfl rfl (by decide) (by kernel_rfl) ?_
    refine Al_pu (Pu_len rfl Try.underlying25 rfl hdl) rfl rfl (by decide) (by kernel_rfl) ?_
    refine Al_pu (Pu_move (.inl rfl) (by conv => lhs; whnf)) rfl rfl (by decide) (by kernel_rfl) ?_
    refine Al_nil ?_
    refine Aw_block ?_
    refine Aw_loopk (ι := Nat × Nat) [1, 4, 26, 27] [] (fun (k, g) => [(28, .d (iv k))]) (fun (k, g) => [(4, g4, .box 57 [.bx 4 g4 0, .ow 40 g]), (40, g, .arr 5 1 (byteA (V.num c.ranges.length ++ ((S.cuts c).take k).flatMap fun r => V.text r.t)))]) (fun (k, g) => k ≤ (c.ranges.length - 1)) (fun (k, g) => (c.ranges.length - 1) - k) ((0, g21)) (Nat.zero_le _) ⟨Sub.rfl, trivial⟩ ⟨rfl, obeq (by simp [V.ba]), trivial⟩ ?_
    rintro ⟨k, g⟩ hk0
    refine Aw_seq ?_
    refine Aw_region ?_
    refine Al_pu (Pu_cmp rfl rfl rfl rfl) rfl rfl (by decide) (by kernel_rfl) ?_
    refine Al_nil ?_
    refine Aw_seq ?_
    refine Aw_cond rfl (fun h29 => ?_) (fun h29 => ?_)
    · (try simp only [decide_eq_true_eq, decide_eq_false_iff_not, Bool.and_eq_true, Bool.or_eq_true, Bool.and_eq_false_iff, Bool.or_eq_false_iff, Bool.not_eq_true', Bool.not_eq_false', beq_iff_eq, Bool.not_eq_eq_eq_not, Bool.not_true, Bool.not_false, List.length_map, Bool.and_true, Bool.and_false, Bool.false_and, Bool.true_and, Bool.or_false, Bool.false_or] at h29)
      have hk : k < (S.cuts c).length := by omega
      have t0 := (hf _ (List.mem_of_mem_take (List.getElem_mem hk))).2
      have t1 := hct _ (List.getElem_mem hk)
      have t2 := S.flat_le (fun r : Rng => V.text r.t) 1010 ((S.cuts c).take k) (fun r hr => hct r (List.mem_of_mem_take hr))
      rw [List.length_take] at t2
      refine Aw_skip ?_
      refine Aw_seq ?_
      refine Aw_block ?_
      refine Aw_seq ?_
      refine Aw_region ?_
      refine Al_pu (Pu_index rfl Try.underlying25 Try.sizeOf46 rfl rfl (rfl) (S.getcut hk)) rfl rfl (by decide) (by kernel_rfl) ?_
      refine Al_pu (Pu_loadN rfl Try.isAgg46 Try.sizeOf46 rfl (Nat.le_of_ble_eq_true rfl)) rfl rfl (by decide) (by kernel_rfl) ?_
      refine Al_alloc rfl rfl rfl (by decide) Try.zeroValue46 rfl (by kernel_rfl) (fun g6 => ?_)
      refine Al_storeN rfl rfl rfl (by kernel_rfl) Try.isAgg46 Try.sizeOf46 rfl rfl rfl rfl (Nat.le_of_ble_eq_true rfl) ?_
      refine Al_nil ?_
      refine Aw_region ?_
      refine Al_pu (Pu_fieldb 1 rfl Try.underlying46 rfl rfl Try.sizeOf9 rfl) rfl rfl (by decide) (by kernel_rfl) ?_
      refine Al_pu (Pu_loadb rfl Try.isAgg9 rfl rfl rfl) rfl rfl (by decide) (by kernel_rfl) ?_
      refine Al_pu (Pu_call (text_a _ (by omega)) rfl ⟨Sub.rfl, trivial⟩) rfl rfl (by decide) (by kernel_rfl) ?_
      refine Al_bwrite (k := 4) (k2 := 40) (bs := V.num c.ranges.length ++ ((S.cuts c).take k).flatMap fun r => V.text r.t) rfl rfl rfl (by decide) (by kernel_rfl) rfl rfl (.inr rfl) rfl rfl rfl (by simp only [List.length_append, A.ba_sz]; omega) (fun g35 => ?_)
      refine Al_nil ?_
      refine Aw_region ?_
      refine Al_pu (Pu_add rfl rfl rfl (fun h1 h2 => by simp only [A.inI, A.maxI] at *; omega)) rfl rfl (by decide) (by kernel_rfl) ?_
      refine Al_pu (Pu_move (.inl rfl) (by conv => lhs; whnf)) rfl rfl (by decide) (by kernel_rfl) ?_
      refine Al_nil ?_
      exact ⟨(k + 1, g35), by omega, by simp only []; omega, Le.ov ⟨Sub.num (by omega), trivial⟩ ⟨Sub.rfl, Sub.rfl, Sub.rfl, Sub.rfl, trivial⟩ ⟨rfl, obeq (by rw [S.flat_snoc _ hk]; simp [V.ba]), trivial⟩ trivial⟩ -- loop 0 next.0
    · (try simp only [decide_eq_true_eq, decide_eq_false_iff_not, Bool.and_eq_true, Bool.or_eq_true, Bool.and_eq_false_iff, Bool.or_eq_false_iff, Bool.not_eq_true', Bool.not_eq_false', beq_iff_eq, Bool.not_eq_eq_eq_not, Bool.not_true, Bool.not_false, List.length_map, Bool.and_true, Bool.and_false, Bool.false_and, Bool.true_and, Bool.or_false, Bool.false_or] at h29)
      have hk : (S.cuts c).take k = S.cuts c := List.take_of_length_le (by omega)
      refine Aw_exit ?_
      refine Aw_seq ?_
      refine Aw_region ?_
      refine Al_pu (Pu_move (.inr rfl) (by conv => lhs; whnf)) rfl rfl (by decide) (by kernel_rfl) ?_
      refine Al_nil ?_
      refine Aw_seq ?_
      refine Aw_seq ?_
      refine Aw_region ?_
      refine Al_pu (Pu_field 1 rfl Try.underlying28 rfl rfl Try.sizeOf26 rfl) rfl rfl (by decide) (by kernel_rfl) ?_
      refine Al_pu (Pu_load1 rfl Try.isAgg26 rfl rfl) rfl rfl (by decide) (by kernel_rfl) ?_
      refine Al_pu (Pu_len rfl Try.underlying26 rfl (by first | exact List.length_map .. | exact rfl)) rfl rfl (by decide) (by kernel_rfl) ?_
      refine Al_pu (Pu_move (.inl rfl) (by conv => lhs; whnf)) rfl rfl (by decide) (by kernel_rfl) ?_
      refine Al_nil ?_
      refine Aw_block ?_
      refine Aw_own (j := 7) (k := 7) (T := 63) (n := 1) rfl (fun g7 => ?_)
      refine Aw_loopk (ι := Nat × Nat) [1, 4, 38, 39] [4, 40] (fun (i, h) => [(40, .d (iv i)), (7, .ow 7 h)]) (fun (i, h) => [(7, h, .arr 63 1 ((c.owners.take i).map fun x => [uv x]))]) (fun (i, h) => i ≤ c.owners.length) (fun (i, h) => c.owners.length - i) ((0, g7)) (Nat.zero_le _) ⟨Sub.rfl, Sub.rfl, trivial⟩ ⟨rfl, trivial⟩ ?_
      rintro ⟨i, h⟩ hk1
      refine Aw_seq ?_
      refine Aw_region ?_
      refine Al_pu (Pu_cmp rfl rfl rfl rfl) rfl rfl (by decide) (by kernel_rfl) ?_
      refine Al_nil ?_
      refine Aw_seq ?_
      refine Aw_cond rfl (fun h41 => ?_) (fun h41 => ?_)
      · (try simp only [decide_eq_true_eq, decide_eq_false_iff_not, Bool.and_eq_true, Bool.or_eq_true, Bool.and_eq_false_iff, Bool.or_eq_false_iff, Bool.not_eq_true', Bool.not_eq_false', beq_iff_eq, Bool.not_eq_eq_eq_not, Bool.not_true, Bool.not_false, List.length_map, Bool.and_true, Bool.and_false, Bool.false_and, Bool.true_and, Bool.or_false, Bool.false_or] at h41)
        have hi : i < c.owners.length := by omega
        have o1 := hx _ (List.getElem_mem hi)
        refine Aw_skip ?_
        refine Aw_seq ?_
        refine Aw_block ?_
        refine Aw_seq ?_
        refine Aw_region ?_
        refine Al_pu (Pu_index rfl Try.underlying26 Try.sizeOf3 rfl rfl (rfl) (mapget hi)) rfl rfl (by decide) (by kernel_rfl) ?_
        refine Al_pu (Pu_load1 rfl Try.isAgg3 rfl rfl) rfl rfl (by decide) (by kernel_rfl) ?_
        refine Al_pu (Pu_move (.inr rfl) (by conv => lhs; whnf)) rfl rfl (by decide) (by kernel_rfl) ?_
        refine Al_nil ?_
        refine Aw_region ?_
        refine Al_pu (Pu_move (.inl rfl) (by conv => lhs; whnf)) rfl rfl (by decide) (by kernel_rfl) ?_
        refine Al_pu (Pu_move (.inl rfl) (by conv => lhs; whnf)) rfl rfl (by decide) (by kernel_rfl) ?_
        refine Al_pu (Pu_conv rfl Try.underlying3 Try.underlying63 rfl (fun hv => u64_nat (by omega) (by simp only [vok, A.inI] at hv; omega))) rfl rfl (by decide) (by kernel_rfl) ?_
        refine Al_pu (Pu_slice1 rfl Try.underlying79 Try.sizeOf63 Try.zeroValue63 rfl (by decide) (by decide) (by kernel_rfl) rfl rfl rfl) rfl rfl (by decide) (by kernel_rfl) ?_
        refine Al_append rfl rfl rfl (by decide) (by kernel_rfl) elem79 (by decide) Try.sizeOf63 rfl rfl rfl (by simp; omega) (by decide) (fun g48 => ?_)
        refine Al_pu (Pu_move (.inr rfl) (by conv => lhs; whnf)) rfl rfl (by decide) (by kernel_rfl) ?_
        refine Al_nil ?_
        refine Aw_region ?_
        refine Al_pu (Pu_add rfl rfl rfl (fun h1 h2 => by simp only [A.inI, A.maxI] at *; omega)) rfl rfl (by decide) (by kernel_rfl) ?_
        refine Al_pu (Pu_move (.inl rfl) (by conv => lhs; whnf)) rfl rfl (by decide) (by kernel_rfl) ?_
        refine Al_nil ?_
        exact ⟨(i + 1, g48), by omega, by simp only []; omega, Le.ov ⟨Sub.num (by omega), Sub.rfl, trivial⟩ ⟨Sub.rfl, Sub.rfl, Sub.rfl, Sub.rfl, trivial⟩ ⟨obeq (by rw [List.take_succ_eq_append_getElem hi, List.map_append]; rfl), trivial⟩ ⟨rfl, rfl, trivial⟩⟩ -- loop 1 next.0
      · (try simp only [decide_eq_true_eq, decide_eq_false_iff_not, Bool.and_eq_true, Bool.or_eq_true, Bool.and_eq_false_iff, Bool.or_eq_false_iff, Bool.not_eq_true', Bool.not_eq_false', beq_iff_eq, Bool.not_eq_eq_eq_not, Bool.not_true, Bool.not_false, List.length_map, Bool.and_true, Bool.and_false, Bool.false_and, Bool.true_and, Bool.or_false, Bool.false_or] at h41)
        obtain rfl : i = c.owners.length := by omega
        refine Aw_exit ?_
        refine Aw_seq ?_
        refine Aw_region ?_
        refine Al_pu (Pu_move (.inl rfl) (by conv => lhs; whnf)) rfl rfl (by decide) (by kernel_rfl) ?_
        refine Al_pu (Pu_field 2 rfl Try.underlying28 rfl rfl Try.sizeOf26 rfl) rfl rfl (by decide) (by kernel_rfl) ?_
        refine Al_pu (Pu_load1 rfl Try.isAgg26 rfl rfl) rfl rfl (by decide) (by kernel_rfl) ?_
        refine Al_pu (Pu_len rfl Try.underlying26 rfl (by first | exact List.length_map .. | exact rfl)) rfl rfl (by decide) (by kernel_rfl) ?_
        refine Al_pu (Pu_conv rfl Try.underlying3 Try.underlying63 rfl (fun hv => u64_nat (by omega) (by simp only [vok, A.inI] at hv; omega))) rfl rfl (by decide) (by kernel_rfl) ?_
        refine Al_pu (Pu_slice1 rfl Try.underlying79 Try.sizeOf63 Try.zeroValue63 rfl (by decide) (by decide) (by kernel_rfl) rfl rfl rfl) rfl rfl (by decide) (by kernel_rfl) ?_
        refine Al_append rfl rfl rfl (by decide) (by kernel_rfl) elem79 (by decide) Try.sizeOf63 rfl rfl rfl (by simp; omega) (by decide) (fun g56 => ?_)
        refine Al_pu (Pu_move (.inr rfl) (by conv => lhs; whnf)) rfl rfl (by decide) (by kernel_rfl) ?_
        refine Al_nil ?_
        refine Aw_seq ?_
        refine Aw_seq ?_
        refine Aw_region ?_
        refine Al_pu (Pu_field 2 rfl Try.underlying28 rfl rfl Try.sizeOf26 rfl) rfl rfl (by decide) (by kernel_rfl) ?_
        refine Al_pu (Pu_load1 rfl Try.isAgg26 rfl rfl) rfl rfl (by decide) (by kernel_rfl) ?_
        refine Al_pu (Pu_len rfl Try.underlying26 rfl (by first | exact List.length_map .. | exact rfl)) rfl rfl (by decide) (by kernel_rfl) ?_
        refine Al_pu (Pu_move (.inl rfl) (by conv => lhs; whnf)) rfl rfl (by decide) (by kernel_rfl) ?_
        refine Al_nil ?_
        refine Aw_block ?_
        refine Aw_loopk (ι := Nat × Nat) [4, 58, 59] [4, 40] (fun (j, h) => [(60, .d (iv j)), (7, .ow 7 h)]) (fun (j, h) => [(7, h, .arr 63 1 ((c.owners.map fun x => [uv x]) ++ [[uv c.parents.length]] ++ ((c.parents.take j).map fun p => [uv (p + 1)])))]) (fun (j, h) => j ≤ c.parents.length) (fun (j, h) => c.parents.length - j) ((0, g56)) (Nat.zero_le _) ⟨Sub.rfl, Sub.rfl, trivial⟩ ⟨obeq (by rw [List.take_length]; simp [A.cellsA]), trivial⟩ ?_
        rintro ⟨j, h⟩ hk2
        refine Aw_seq ?_
        refine Aw_region ?_
        refine Al_pu (Pu_cmp rfl rfl rfl rfl) rfl rfl (by decide) (by kernel_rfl) ?_
        refine Al_nil ?_
        refine Aw_seq ?_
        refine Aw_cond rfl (fun h61 => ?_) (fun h61 => ?_)
        · (try simp only [decide_eq_true_eq, decide_eq_false_iff_not, Bool.and_eq_true, Bool.or_eq_true, Bool.and_eq_false_iff, Bool.or_eq_false_iff, Bool.not_eq_true', Bool.not_eq_false', beq_iff_eq, Bool.not_eq_eq_eq_not, Bool.not_true, Bool.not_false, List.length_map, Bool.and_true, Bool.and_false, Bool.false_and, Bool.true_and, Bool.or_false, Bool.false_or] at h61)
          have hj : j < c.parents.length := by omega
          have o1 := hp _ (List.getElem_mem hj)
          refine Aw_skip ?_
          refine Aw_seq ?_
          refine Aw_block ?_
          refine Aw_seq ?_
          refine Aw_region ?_
          refine Al_pu (Pu_index rfl Try.underlying26 Try.sizeOf3 rfl rfl (rfl) (mapget hj)) rfl rfl (by decide) (by kernel_rfl) ?_
          refine Al_pu (Pu_load1 rfl Try.isAgg3 rfl rfl) rfl rfl (by decide) (by kernel_rfl) ?_
          refine Al_pu (Pu_move (.inr rfl) (by conv => lhs; whnf)) rfl rfl (by decide) (by kernel_rfl) ?_
          refine Al_nil ?_
          refine Aw_region ?_
          refine Al_pu (Pu_move (.inl rfl) (by conv => lhs; whnf)) rfl rfl (by decide) (by kernel_rfl) ?_
          refine Al_pu (Pu_move (.inl rfl) (by conv => lhs; whnf)) rfl rfl (by decide) (by kernel_rfl) ?_
          refine Al_pu (Pu_add rfl rfl rfl (fun h1 h2 => by simp only [A.inI, A.maxI] at *; omega)) rfl rfl (by decide) (by kernel_rfl) ?_
          refine Al_pu (Pu_conv rfl Try.underlying3 Try.underlying63 rfl (fun hv => u64_nat (by omega) (by simp only [vok, A.inI] at hv; omega))) rfl rfl (by decide) (by kernel_rfl) ?_
          refine Al_pu (Pu_slice1 rfl Try.underlying79 Try.sizeOf63 Try.zeroValue63 rfl (by decide) (by decide) (by kernel_rfl) rfl rfl rfl) rfl rfl (by decide) (by kernel_rfl) ?_
          refine Al_append rfl rfl rfl (by decide) (by kernel_rfl) elem79 (by decide) Try.sizeOf63 rfl rfl rfl (by simp; omega) (by decide) (fun g69 => ?_)
          refine Al_pu (Pu_move (.inr rfl) (by conv => lhs; whnf)) rfl rfl (by decide) (by kernel_rfl) ?_
          refine Al_nil ?_
          refine Aw_region ?_
          refine Al_pu (Pu_add rfl rfl rfl (fun h1 h2 => by simp only [A.inI, A.maxI] at *; omega)) rfl rfl (by decide) (by kernel_rfl) ?_
          refine Al_pu (Pu_move (.inl rfl) (by conv => lhs; whnf)) rfl rfl (by decide) (by kernel_rfl) ?_
          refine Al_nil ?_
          exact ⟨(j + 1, g69), by omega, by simp only []; omega, Le.ov ⟨Sub.num (by omega), Sub.rfl, trivial⟩ ⟨Sub.rfl, Sub.rfl, Sub.rfl, trivial⟩ ⟨obeq (by rw [List.take_succ_eq_append_getElem hj, List.map_append]; simp [A.cellsA]), trivial⟩ ⟨rfl, rfl, trivial⟩⟩ -- loop 2 next.0
        · (try simp only [decide_eq_true_eq, decide_eq_false_iff_not, Bool.and_eq_true, Bool.or_eq_true, Bool.and_eq_false_iff, Bool.or_eq_false_iff, Bool.not_eq_true', Bool.not_eq_false', beq_iff_eq, Bool.not_eq_eq_eq_not, Bool.not_true, Bool.not_false, List.length_map, Bool.and_true, Bool.and_false, Bool.false_and, Bool.true_and, Bool.or_false, Bool.false_or] at h61)
          have hj : c.parents.take j = c.parents := List.take_of_length_le (by omega)
          have hrr := S.rest_rows hp hx
          have hrl : (S.rest c).length ≤ 20 := by unfold S.rest; simp; omega
          have q1 := S.flat_le (fun r : Rng => V.text r.t) 1010 ((S.cuts c).take k) (fun r hr => hct r (List.mem_of_mem_take hr))
          rw [hk] at q1
          have q2 := S.flat_le V.num 10 (S.rest c) (fun n hn => V.num_len64 (by
            unfold S.rest at hn
            rcases List.mem_append.1 hn with hn | hn
            · rcases List.mem_append.1 hn with hn | hn
              · obtain ⟨x, hx1, rfl⟩ := List.mem_map.1 hn
                have := hx x hx1
                omega
              · simp at hn; omega
            · obtain ⟨x, hx1, rfl⟩ := List.mem_map.1 hn
              have := hp x hx1
              omega))
          have q3 : (List.flatMap (fun r : Rng => V.text r.t) ((S.cuts c).take k)).length = (List.flatMap (fun r : Rng => V.text r.t) (S.cuts c)).length := by rw [hk]
          refine Aw_exit ?_
          refine Aw_seq ?_
          refine Aw_frz (k := 7) [7] rfl ⟨rfl, trivial⟩ ?_
          refine Aw_region ?_
          refine Al_bstring (k := 4) (k2 := 40) (bs := V.num c.ranges.length ++ ((S.cuts c).take k).flatMap fun r => V.text r.t) rfl rfl rfl (by decide) (by kernel_rfl) rfl rfl (.inr rfl) rfl rfl (by have := V.num_pos c.ranges.length; intro h; rw [← List.length_eq_zero_iff, List.length_append] at h; omega) ?_
          refine Al_pu (Pu_move (.inl rfl) (by conv => lhs; whnf)) rfl rfl (by decide) (by kernel_rfl) ?_
          refine Al_pu (Pu_call (join_a (S.rest c) (by omega)) rfl ⟨Sub.d (by rw [← hrr, hj]), trivial⟩) rfl rfl (by decide) (by kernel_rfl) ?_
          refine Al_pu (Pu_catB rfl rfl rfl (by simp only [List.length_append, A.maxI]; omega)) rfl rfl (by decide) (by kernel_rfl) ?_
          refine Al_pu (Pu_move (.inr rfl) (by conv => lhs; whnf)) rfl rfl (by decide) (by kernel_rfl) ?_
          refine Al_nil ?_
          refine Aw_ret ?_
          exact Sub.str (by rw [if_pos rfl, hk, S.rest_bytes]) -- ret 1
end Go.Proofs.Ytocgnmklgklfnaa
