/- Law 13: ShardOrder. -/
import Derived.Test.YtkmjiaegbooplaaJLb
set_option linter.unusedSimpArgs false
set_option linter.unusedVariables false
namespace Go.Proofs.Ytkmjiaegbooplaa
open Go.RowKit A R
open A.RowT
namespace J
theorem byte_ok : ∀ z : Nat, z < 8 → K.checkB (byte1 (97 + 3 * (z : Int))) = true := by decide +kernel
theorem word_ok (n : Int) : K.checkB (word n) = true := by
  have h7 : 0 ≤ andI n 7 ∧ andI n 7 ≤ 7 := andI_le n 7 (by decide)
  have := byte_ok (andI n 7).toNat (by omega)
  rw [show (((andI n 7).toNat : Nat) : Int) = andI n 7 from by omega] at this
  exact this
theorem less_asymm {a b c d : Int} (h : D.lessB a b c d = true) : D.lessB c d a b = false := by
  unfold D.lessB at h ⊢
  split at h <;> split <;> simp_all <;> omega
theorem less_ne {a b c d : Int} (h : D.lessB a b c d = true) : ((c == a) && (d == b)) = false := by
  unfold D.lessB at h
  split at h
  · rename_i e
    simp at h
    rw [Bool.and_eq_false_iff]
    right
    simp; omega
  · rename_i e
    rw [Bool.and_eq_false_iff]
    left
    simp; omega
/-- A shard that has just some versions, in their order. -/
structure Cont (cs : SC) (L : List Ver) : Prop where
  rise : RiseC cs
  at' : ∀ c, look cs c = if L.filter (fun v => decide (v.key = c)) = [] then none else some (L.filter fun v => decide (v.key = c))
theorem cont_nil : Cont [] [] := ⟨rise_nil, fun c => rfl⟩
theorem Cont.get {cs : SC} {L : List Ver} (h : Cont cs L) (c : ByteArray) : getC cs c = L.filter fun v => decide (v.key = c) := by
  unfold getC
  rw [h.at' c]
  split
  · rename_i e; rw [e]; rfl
  · rfl
theorem cont_of {cs : SC} {L L' : List Ver} {v : Ver} {M' : List Ver} (h : Cont cs L) (hp : put (getC cs v.key) v = some M') (hM : L'.filter (fun x => decide (x.key = v.key)) = M') (ho : ∀ c, c ≠ v.key → L'.filter (fun x => decide (x.key = c)) = L.filter (fun x => decide (x.key = c))) : (sput (ranges 0) cs v).2 = true ∧ Cont (sput (ranges 0) cs v).1 L' := by
  have e : sput (ranges 0) cs v = (setC cs v.key M', true) := by
    unfold sput
    rw [if_neg (findR_all _), hp]
  rw [e]
  refine ⟨rfl, rise_set _ _ _ h.rise, fun c => ?_⟩
  rw [look_set _ _ _ _ h.rise]
  by_cases hc : c = v.key
  · rw [if_pos hc, hc, hM, if_neg]
    intro e2
    have := put_len hp
    rw [e2] at this
    simp at this
  · rw [if_neg hc, ho c hc]
    exact h.at' c
theorem cont_append {cs : SC} {L : List Ver} {v : Ver} (h : Cont cs L) (hv : checkB v = true) (hl : ∀ x ∈ L, D.lessB x.n x.s v.n v.s = true) : (sput (ranges 0) cs v).2 = true ∧ Cont (sput (ranges 0) cs v).1 (L ++ [v]) := by
  have hM := h.get v.key
  have hin : ∀ x ∈ getC cs v.key, x ∈ L ∧ x.key = v.key := fun x hx => by
    rw [hM] at hx
    obtain ⟨h1, h2⟩ := List.mem_filter.1 hx
    exact ⟨h1, by simpa using h2⟩
  have hf : frm (getC cs v.key) v.n v.s = (getC cs v.key).length := by
    unfold frm
    rw [List.findIdx_eq_length]
    intro x hx
    unfold notB
    rw [hl x (hin x hx).1]; rfl
  refine cont_of h (M' := getC cs v.key ++ [v]) ?_ ?_ fun c hc => ?_
  · unfold put
    rw [if_pos, hf, List.take_length, List.drop_length]
    refine ⟨hv, fun x hx => ?_, fun x hx => ?_⟩
    · rw [(hin x (List.mem_of_getElem? hx)).2]
    · rw [hf, List.getElem?_eq_none (Nat.le_refl _)] at hx; cases hx
  · rw [List.filter_append, hM]; simp
  · rw [List.filter_append]
    simp [Ne.symm hc]
theorem cont_cons {cs : SC} {L : List Ver} {v : Ver} (h : Cont cs L) (hv : checkB v = true) (hl : ∀ x ∈ L, D.lessB v.n v.s x.n x.s = true) : (sput (ranges 0) cs v).2 = true ∧ Cont (sput (ranges 0) cs v).1 (v :: L) := by
  have hM := h.get v.key
  have hin : ∀ x ∈ getC cs v.key, x ∈ L ∧ x.key = v.key := fun x hx => by
    rw [hM] at hx
    obtain ⟨h1, h2⟩ := List.mem_filter.1 hx
    exact ⟨h1, by simpa using h2⟩
  have hf : frm (getC cs v.key) v.n v.s = 0 := by
    unfold frm
    cases hg : getC cs v.key with
    | nil => rfl
    | cons x r =>
      have := hl x (hin x (by rw [hg]; exact List.mem_cons_self ..)).1
      rw [List.findIdx_cons]
      unfold notB
      rw [less_asymm this]; rfl
  refine cont_of h (M' := v :: getC cs v.key) ?_ ?_ fun c hc => ?_
  · unfold put
    rw [if_pos, hf]
    · rfl
    refine ⟨hv, fun x hx => ?_, fun x hx => ?_⟩
    · rw [(hin x (List.mem_of_getElem? hx)).2]
    · rw [hf] at hx
      have := hl x (hin x (List.mem_of_getElem? hx)).1
      exact less_ne this
  · rw [List.filter_cons, hM]; simp
  · rw [List.filter_cons]
    simp [Ne.symm hc]
theorem rise_uniq : ∀ (l m : List ByteArray), Rise l → Rise m → (∀ x, x ∈ l ↔ x ∈ m) → l = m
  | [], [], _, _, _ => rfl
  | [], y :: m, _, _, h => by have := (h y).2 (List.mem_cons_self ..); cases this
  | x :: l, [], _, _, h => by have := (h x).1 (List.mem_cons_self ..); cases this
  | x :: l, y :: m, hl, hm, h => by
    have cl := List.pairwise_cons.1 hl
    have cm := List.pairwise_cons.1 hm
    have e : x = y := by
      rcases List.mem_cons.1 ((h x).1 (List.mem_cons_self ..)) with e | hx
      · exact e
      · rcases List.mem_cons.1 ((h y).2 (List.mem_cons_self ..)) with e | hy
        · exact e.symm
        · have h1 := cm.1 x hx
          have h2 := cl.1 y hy
          have := K.bl_trans _ _ _ h1 h2
          rw [K.bl_irrefl] at this; cases this
    subst e
    have hx : x ∉ l := fun hx => by have := cl.1 x hx; rw [K.bl_irrefl] at this; cases this
    have hy : x ∉ m := fun hx => by have := cm.1 x hx; rw [K.bl_irrefl] at this; cases this
    congr 1
    refine rise_uniq l m cl.2 cm.2 fun z => ?_
    constructor
    · intro hz
      rcases List.mem_cons.1 ((h z).1 (List.mem_cons_of_mem _ hz)) with rfl | h2
      · exact (hx hz).elim
      · exact h2
    · intro hz
      rcases List.mem_cons.1 ((h z).2 (List.mem_cons_of_mem _ hz)) with rfl | h2
      · exact (hy hz).elim
      · exact h2
theorem cs_of (cs : SC) (h : RiseC cs) : cs = (cs.map (·.1)).map fun k => (k, getC cs k) := by
  rw [List.map_map]
  conv => lhs; rw [← List.map_id cs]
  refine List.map_congr_left fun p hp => ?_
  show p = (p.1, getC cs p.1)
  unfold getC
  rw [look_mem h hp]; rfl
theorem look_ext {cs ds : SC} (h : RiseC cs) (h2 : RiseC ds) (he : ∀ c, look cs c = look ds c) : cs = ds := by
  have hk : cs.map (·.1) = ds.map (·.1) := rise_uniq _ _ h h2 fun x => by rw [← look_keys h, ← look_keys h2, he x]
  rw [cs_of cs h, cs_of ds h2, hk]
  refine List.map_congr_left fun k _ => ?_
  unfold getC; rw [he k]
theorem cont_ext {cs ds : SC} {L : List Ver} (h : Cont cs L) (h2 : Cont ds L) : cs = ds := look_ext h.rise h2.rise fun c => by rw [h.at' c, h2.at' c]
/-- The version of a number. -/
def vO (l : List Int) (i : Nat) : Ver := ⟨word (l.getD i 0), ⟨#[]⟩, false, 1 + (i : Int), 0, []⟩
theorem vO_ok (l : List Int) {i : Nat} (h : i < 1000) : checkB (vO l i) = true := by
  unfold checkB vO
  have h1 : V.stampB (1 + (i : Int)) 0 = true := by rw [V.stampB_iff]; omega
  simp only [word_ok, h1, Bool.true_and]
  rfl
theorem vO_less (l : List Int) {i j : Nat} (h : i < j) : D.lessB (vO l i).n (vO l i).s (vO l j).n (vO l j).s = true := by
  unfold vO D.lessB
  simp only
  rw [if_neg (by omega)]
  simp; omega
def ordA (l : List Int) (k : Nat) : SC := runV ((List.range k).map (vO l))
def ordB (l : List Int) (n k : Nat) : SC := runV ((List.range k).map fun i => vO l (n - 1 - i))
theorem ordA_succ (l : List Int) (k : Nat) : ordA l (k + 1) = (sput (ranges 0) (ordA l k) (vO l k)).1 := by
  unfold ordA
  rw [List.range_succ, List.map_append]
  exact runV_snoc _ _
theorem ordB_succ (l : List Int) (n k : Nat) : ordB l n (k + 1) = (sput (ranges 0) (ordB l n k) (vO l (n - 1 - k))).1 := by
  unfold ordB
  rw [List.range_succ, List.map_append]
  exact runV_snoc _ _
theorem ordA_ok (l : List Int) : ∀ k, k ≤ 20 → Cont (ordA l k) ((List.range k).map (vO l)) ∧ (k < 20 → (sput (ranges 0) (ordA l k) (vO l k)).2 = true)
  | 0, _ => ⟨cont_nil, fun _ => (cont_append cont_nil (vO_ok l (by omega)) (fun x hx => by cases hx)).1⟩
  | k + 1, hk => by
    have ih := ordA_ok l k (by omega)
    have hstep : ∀ j, j ≤ 20 → Cont (ordA l j) ((List.range j).map (vO l)) → (sput (ranges 0) (ordA l j) (vO l j)).2 = true ∧ Cont (sput (ranges 0) (ordA l j) (vO l j)).1 ((List.range j).map (vO l) ++ [vO l j]) := fun j hj hc => cont_append hc (vO_ok l (by omega)) fun x hx => by
      obtain ⟨i, hi, rfl⟩ := List.mem_map.1 hx
      exact vO_less l (List.mem_range.1 hi)
    have h1 : Cont (ordA l (k + 1)) ((List.range (k + 1)).map (vO l)) := by
      rw [ordA_succ, List.range_succ, List.map_append]
      exact (hstep k (by omega) ih.1).2
    exact ⟨h1, fun _ => (hstep (k + 1) hk h1).1⟩
theorem ordB_ok (l : List Int) (n : Nat) (hn : n ≤ 20) : ∀ k, k ≤ n → Cont (ordB l n k) ((List.range' (n - k) k).map (vO l)) ∧ (k < n → (sput (ranges 0) (ordB l n k) (vO l (n - 1 - k))).2 = true)
  | 0, _ => ⟨cont_nil, fun _ => (cont_append cont_nil (vO_ok l (by omega)) (fun x hx => by cases hx)).1⟩
  | k + 1, hk => by
    have ih := ordB_ok l n hn k (by omega)
    have hstep : ∀ j, j < n → Cont (ordB l n j) ((List.range' (n - j) j).map (vO l)) → (sput (ranges 0) (ordB l n j) (vO l (n - 1 - j))).2 = true ∧ Cont (sput (ranges 0) (ordB l n j) (vO l (n - 1 - j))).1 (vO l (n - 1 - j) :: (List.range' (n - j) j).map (vO l)) := fun j hj hc => cont_cons hc (vO_ok l (by omega)) fun x hx => by
      obtain ⟨i, hi, rfl⟩ := List.mem_map.1 hx
      have := List.mem_range'_1.1 hi
      exact vO_less l (by omega)
    have h1 : Cont (ordB l n (k + 1)) ((List.range' (n - (k + 1)) (k + 1)).map (vO l)) := by
      rw [ordB_succ, List.range'_succ, List.map_cons, show n - (k + 1) + 1 = n - k from by omega, show n - (k + 1) = n - 1 - k from by omega]
      exact (hstep k (by omega) ih.1).2
    exact ⟨h1, fun h => (hstep (k + 1) h h1).1⟩
theorem ord_same (l : List Int) (n : Nat) (hn : n ≤ 20) : ordB l n n = ordA l n := by
  have h1 := (ordB_ok l n hn n (Nat.le_refl _)).1
  rw [Nat.sub_self, ← List.range_eq_range'] at h1
  exact cont_ext h1 (ordA_ok l n hn).1
theorem ordA_sm (l : List Int) (k : Nat) : RiseC (ordA l k) ∧ Sm k (ordA l k) := by
  have := runV_ok ((List.range k).map (vO l))
  rw [List.length_map, List.length_range] at this
  exact this
theorem ordB_sm (l : List Int) (n k : Nat) : RiseC (ordB l n k) ∧ Sm k (ordB l n k) := by
  have := runV_ok ((List.range k).map fun i => vO l (n - 1 - i))
  rw [List.length_map, List.length_range] at this
  exact this
end J
set_option maxRecDepth 100000 in
set_option maxHeartbeats 2000000 in
theorem shardorder_law (l : List Int) : ACall Try.prog 5 [.sl 1 (l.map fun x => [iv x])] (bv true) := by
  refine ACall_enter (fun _ _ => by kernel_rfl) Try.func5 rfl Try.ntmps5 Try.results5 (Nat.le_of_ble_eq_true rfl) (fun hok M0 w0 hnl => ?_)
  have hlen := (hok _ (List.mem_cons_self ..)).len
  rw [List.length_map] at hlen
  have hr0 : (J.ranges 0).length ≤ 1000000 := Nat.le_trans (J.ranges_len 0) (by decide)
  obtain ⟨n, hn⟩ : ∃ n, n = min l.length 20 := ⟨_, rfl⟩
  have hn20 : n ≤ 20 := by omega
  refine Aw_seq ?_
  refine Aw_region ?_
  refine Al_pu (Pu_move (.inr rfl) (by conv => lhs; whnf)) rfl rfl (by decide) (by kernel_rfl) ?_
  refine Al_nil ?_
  refine Aw_seq ?_
  refine Aw_region ?_
  refine Al_pu (Pu_call (hawake_a) rfl trivial) rfl rfl (by decide) (by kernel_rfl) ?_
  refine Al_pu (Pu_move (.inr rfl) (by conv => lhs; whnf)) rfl rfl (by decide) (by kernel_rfl) ?_
  refine Al_nil ?_
  refine Aw_seq ?_
  refine Aw_region ?_
  refine Al_pu (Pu_call (hranges_a 0) rfl ⟨Sub.rfl, trivial⟩) rfl rfl (by decide) (by kernel_rfl) ?_
  refine Al_gcallE [] [(1001, 13), (1002, 130)] (snew_g (J.ranges 0) hr0) rfl rfl rfl (by decide) (by kernel_rfl) trivial (fun _ => rfl) rfl rfl ⟨Sub.rfl, trivial⟩ ?_
  rintro b g13
  refine Al_pu (Pu_move (.inr rfl) (by conv => lhs; whnf)) rfl rfl (by decide) (by kernel_rfl) ?_
  refine Al_nil ?_
  refine Aw_seq ?_
  refine Aw_region ?_
  refine Al_pu (Pu_call (hranges_a 0) rfl ⟨Sub.rfl, trivial⟩) rfl rfl (by decide) (by kernel_rfl) ?_
  refine Al_gcallE [] [(1001, 15), (1002, 150)] (snew_g (J.ranges 0) hr0) rfl rfl rfl (by decide) (by kernel_rfl) trivial (fun _ => rfl) rfl rfl ⟨Sub.rfl, trivial⟩ ?_
  rintro b' g15
  refine Al_pu (Pu_move (.inr rfl) (by conv => lhs; whnf)) rfl rfl (by decide) (by kernel_rfl) ?_
  refine Al_nil ?_
  refine Aw_seq ?_
  refine Aw_seq ?_
  refine Aw_region ?_
  refine Al_pu (Pu_move (.inl rfl) (by conv => lhs; whnf)) rfl rfl (by decide) (by kernel_rfl) ?_
  refine Al_pu (Pu_eqnilb Try.underlying25 rfl rfl) rfl rfl (by decide) (by kernel_rfl) ?_
  refine Al_pu (Pu_move (.inl rfl) (by conv => lhs; whnf)) rfl rfl (by decide) (by kernel_rfl) ?_
  refine Al_st (St_gd [] rfl rfl rfl rfl trivial (fun hg19 => by exact Pu_move (.inl rfl) (by conv => lhs; whnf))) rfl (by decide) (by kernel_rfl) (by intro j b oj dj h1 h2 h3; cases h1; cases h2; cases h3; decide) ?_
  refine Al_st (St_gd [19] rfl rfl rfl rfl ⟨⟨_, rfl⟩, trivial⟩ (fun hg20 => Pu_eqnilb Try.underlying25 rfl rfl)) rfl (by decide) (by kernel_rfl) (by intro j b oj dj h1 h2 h3; cases h1; cases h2; cases h3; decide) ?_
  refine Al_pu (Pu_or rfl rfl rfl rfl) rfl rfl (by decide) (by kernel_rfl) ?_
  refine Al_nil ?_
  refine Aw_condF rfl (rfl) ?_
  refine Aw_skip ?_
  refine Aw_seq ?_
  refine Aw_region ?_
  refine Al_pu (Pu_move (.inl rfl) (by conv => lhs; whnf)) rfl rfl (by decide) (by kernel_rfl) ?_
  refine Al_pu (Pu_len rfl Try.underlying51 rfl (by first | exact List.length_map .. | exact rfl)) rfl rfl (by decide) (by kernel_rfl) ?_
  refine Al_pu (Pu_move (.inr rfl) (by conv => lhs; whnf)) rfl rfl (by decide) (by kernel_rfl) ?_
  refine Al_nil ?_
  refine Aw_join (ι := Unit) [0, 3, 4, 5] [13, 130, 15, 150] (fun _ => [(6, .d (iv (n : Nat)))]) (fun _ => []) (fun _ => True) ?_ ?_ -- join 0
  · refine Aw_seq ?_
    refine Aw_region ?_
    refine Al_pu (Pu_move (.inl rfl) (by conv => lhs; whnf)) rfl rfl (by decide) (by kernel_rfl) ?_
    refine Al_pu (Pu_cmp rfl rfl rfl rfl) rfl rfl (by decide) (by kernel_rfl) ?_
    refine Al_nil ?_
    refine Aw_cond rfl (fun h25 => ?_) (fun h25 => ?_)
    · (try simp only [decide_eq_true_eq, decide_eq_false_iff_not, Bool.and_eq_true, Bool.or_eq_true, Bool.and_eq_false_iff, Bool.or_eq_false_iff, Bool.not_eq_true', Bool.not_eq_false', beq_iff_eq, Bool.not_eq_eq_eq_not, Bool.not_true, Bool.not_false, List.length_map, Bool.and_true, Bool.and_false, Bool.false_and, Bool.true_and, Bool.or_false, Bool.false_or] at h25)
      refine Aw_region ?_
      refine Al_pu (Pu_move (.inr rfl) (by conv => lhs; whnf)) rfl rfl (by decide) (by kernel_rfl) ?_
      refine Al_nil ?_
      exact ⟨(), trivial, Le.ov ⟨Sub.num (by omega), trivial⟩ ⟨Sub.rfl, Sub.rfl, Sub.rfl, Sub.rfl, trivial⟩ trivial ⟨rfl, rfl, rfl, rfl, trivial⟩⟩ -- join 0 next.0
    · (try simp only [decide_eq_true_eq, decide_eq_false_iff_not, Bool.and_eq_true, Bool.or_eq_true, Bool.and_eq_false_iff, Bool.or_eq_false_iff, Bool.not_eq_true', Bool.not_eq_false', beq_iff_eq, Bool.not_eq_eq_eq_not, Bool.not_true, Bool.not_false, List.length_map, Bool.and_true, Bool.and_false, Bool.false_and, Bool.true_and, Bool.or_false, Bool.false_or] at h25)
      refine Aw_skip ?_
      exact ⟨(), trivial, Le.ov ⟨Sub.num (by omega), trivial⟩ ⟨Sub.rfl, Sub.rfl, Sub.rfl, Sub.rfl, trivial⟩ trivial ⟨rfl, rfl, rfl, rfl, trivial⟩⟩ -- join 0 next.1
  · rintro _ hj0
    refine Aw_seq ?_
    refine Aw_seq ?_
    refine Aw_region ?_
    refine Al_pu (Pu_move (.inr rfl) (by conv => lhs; whnf)) rfl rfl (by decide) (by kernel_rfl) ?_
    refine Al_nil ?_
    refine Aw_block ?_
    refine Aw_loopk (ι := Nat) [0, 3, 4, 5, 6] [13, 15] (fun k => [(7, .d (iv k))]) (fun k => [(130, g13, mapV b (J.ordA l k)), (150, g15, mapV b' (J.ordB l n k))]) (fun k => k ≤ n) (fun k => n - k) (0) (Nat.zero_le _) ⟨Sub.rfl, trivial⟩ ⟨rfl, rfl, trivial⟩ ?_
    rintro k hk0
    refine Aw_seq ?_
    refine Aw_seq ?_
    refine Aw_region ?_
    refine Al_pu (Pu_move (.inl rfl) (by conv => lhs; whnf)) rfl rfl (by decide) (by kernel_rfl) ?_
    refine Al_pu (Pu_move (.inl rfl) (by conv => lhs; whnf)) rfl rfl (by decide) (by kernel_rfl) ?_
    refine Al_pu (Pu_cmp rfl rfl rfl rfl) rfl rfl (by decide) (by kernel_rfl) ?_
    refine Al_nil ?_
    refine Aw_cond rfl (fun h28 => ?_) (fun h28 => ?_)
    · (try simp only [decide_eq_true_eq, decide_eq_false_iff_not, Bool.and_eq_true, Bool.or_eq_true, Bool.and_eq_false_iff, Bool.or_eq_false_iff, Bool.not_eq_true', Bool.not_eq_false', beq_iff_eq, Bool.not_eq_eq_eq_not, Bool.not_true, Bool.not_false, List.length_map, Bool.and_true, Bool.and_false, Bool.false_and, Bool.true_and, Bool.or_false, Bool.false_or] at h28)
      have hk : k < n := by omega
      obtain ⟨hra, hsa⟩ := J.ordA_sm l k
      obtain ⟨hrb, hsb⟩ := J.ordB_sm l n k
      have hpa := (J.ordA_ok l k (by omega)).2 (by omega)
      have hpb := (J.ordB_ok l n hn20 k (by omega)).2 hk
      refine Aw_skip ?_
      refine Aw_seq ?_
      refine Aw_block ?_
      refine Aw_seq ?_
      refine Aw_region ?_
      refine Al_pu (Pu_move (.inl rfl) (by conv => lhs; whnf)) rfl rfl (by decide) (by kernel_rfl) ?_
      refine Al_pu (Pu_move (.inl rfl) (by conv => lhs; whnf)) rfl rfl (by decide) (by kernel_rfl) ?_
      refine Al_pu (Pu_move (.inl rfl) (by conv => lhs; whnf)) rfl rfl (by decide) (by kernel_rfl) ?_
      refine Al_pu (Pu_index rfl Try.underlying51 Try.sizeOf3 rfl rfl (rfl) (mapgetD (d := 0) (show k < l.length by omega))) rfl rfl (by decide) (by kernel_rfl) ?_
      refine Al_pu (Pu_load1 rfl Try.isAgg3 rfl rfl) rfl rfl (by decide) (by kernel_rfl) ?_
      refine Al_pu (Pu_call (hword_a _) rfl ⟨Sub.rfl, trivial⟩) rfl rfl (by decide) (by kernel_rfl) ?_
      refine Al_pu (Pu_move (.inl rfl) (by conv => lhs; whnf)) rfl rfl (by decide) (by kernel_rfl) ?_
      refine Al_pu (Pu_add rfl rfl rfl (fun h1 h2 => by simp only [A.inI, A.maxI] at *; omega)) rfl rfl (by decide) (by kernel_rfl) ?_
      refine Al_pu (Pu_call (hver_a _ _ _) rfl ⟨Sub.rfl, Sub.rfl, Sub.rfl, trivial⟩) rfl rfl (by decide) (by kernel_rfl) ?_
      refine Al_gcall [(1001, 13, g13), (1002, 130, g13)] [] (sput_g (J.ranges 0) (J.ordA l k) b (J.vO l k) hr0 hra (hsa.mono (by omega))) rfl rfl rfl (by decide) (by kernel_rfl) ⟨rfl, rfl, trivial⟩ rfl ⟨Sub.rfl, Sub.rfl, trivial⟩ (fun g40 => ?_)
      refine Al_pu (Pu_not rfl rfl) rfl rfl (by decide) (by kernel_rfl) ?_
      refine Al_pu (Pu_move (.inl rfl) (by conv => lhs; whnf)) rfl rfl (by decide) (by kernel_rfl) ?_
      refine Al_gdT rfl rfl rfl rfl (by rw [hpa]; rfl) (by decide) ?_
      refine Al_pu (Pu_move (.inl rfl) (by conv => lhs; whnf)) rfl rfl (by decide) (by kernel_rfl) ?_
      refine Al_gdT rfl rfl rfl rfl (by rw [hpa]; rfl) (by decide) ?_
      refine Al_pu (Pu_move (.inl rfl) (by conv => lhs; whnf)) rfl rfl (by decide) (by kernel_rfl) ?_
      refine Al_gdT rfl rfl rfl rfl (by rw [hpa]; rfl) (by decide) ?_
      refine Al_pu (Pu_move (.inl rfl) (by conv => lhs; whnf)) rfl rfl (by decide) (by kernel_rfl) ?_
      refine Al_gdT rfl rfl rfl rfl (by rw [hpa]; rfl) (by decide) ?_
      refine Al_pu (Pu_sub rfl rfl rfl (fun h1 h2 => by simp only [A.inI, A.maxI] at *; omega)) rfl rfl (by decide) (by kernel_rfl) ?_
      refine Al_gdT rfl rfl rfl rfl (by rw [hpa]; rfl) (by decide) ?_
      refine Al_pu (Pu_move (.inl rfl) (by conv => lhs; whnf)) rfl rfl (by decide) (by kernel_rfl) ?_
      refine Al_gdT rfl rfl rfl rfl (by rw [hpa]; rfl) (by decide) ?_
      refine Al_pu (Pu_sub rfl rfl rfl (fun h1 h2 => by simp only [A.inI, A.maxI] at *; omega)) rfl rfl (by decide) (by kernel_rfl) ?_
      refine Al_gdT rfl rfl rfl rfl (by rw [hpa]; rfl) (by decide) ?_
      refine Al_pu (Pu_index rfl Try.underlying51 Try.sizeOf3 rfl rfl ((show ((n : Int) - 1 - (k : Int)) = ((n - 1 - k : Nat) : Int) by omega)) (mapgetD (d := 0) (show n - 1 - k < l.length by omega))) rfl rfl (by decide) (by kernel_rfl) ?_
      refine Al_gdT rfl rfl rfl rfl (by rw [hpa]; rfl) (by decide) ?_
      refine Al_pu (Pu_load1 rfl Try.isAgg3 rfl rfl) rfl rfl (by decide) (by kernel_rfl) ?_
      refine Al_gdT rfl rfl rfl rfl (by rw [hpa]; rfl) (by decide) ?_
      refine Al_pu (Pu_call (hword_a _) rfl ⟨Sub.rfl, trivial⟩) rfl rfl (by decide) (by kernel_rfl) ?_
      refine Al_gdT rfl rfl rfl rfl (by rw [hpa]; rfl) (by decide) ?_
      refine Al_pu (Pu_move (.inl rfl) (by conv => lhs; whnf)) rfl rfl (by decide) (by kernel_rfl) ?_
      refine Al_gdT rfl rfl rfl rfl (by rw [hpa]; rfl) (by decide) ?_
      refine Al_pu (Pu_move (.inl rfl) (by conv => lhs; whnf)) rfl rfl (by decide) (by kernel_rfl) ?_
      refine Al_gdT rfl rfl rfl rfl (by rw [hpa]; rfl) (by decide) ?_
      refine Al_pu (Pu_sub rfl rfl rfl (fun h1 h2 => by simp only [A.inI, A.maxI] at *; omega)) rfl rfl (by decide) (by kernel_rfl) ?_
      refine Al_gdT rfl rfl rfl rfl (by rw [hpa]; rfl) (by decide) ?_
      refine Al_pu (Pu_call (hver_a _ _ _) rfl ⟨Sub.rfl, Sub.rfl, Sub.rfl, trivial⟩) rfl rfl (by decide) (by kernel_rfl) ?_
      refine Al_gdT rfl rfl rfl rfl (by rw [hpa]; rfl) (by decide) ?_
      refine Al_gcall [(1001, 15, g15), (1002, 150, g15)] [] (sput_g (J.ranges 0) (J.ordB l n k) b' (J.vO l (n - 1 - k)) hr0 hrb (hsb.mono (by omega))) rfl rfl rfl (by decide) (by kernel_rfl) ⟨rfl, rfl, trivial⟩ rfl ⟨Sub.rfl, Sub.d (by unfold J.vO; rw [show ((n : Int) - (k : Int)) = 1 + ((n - 1 - k : Nat) : Int) from by omega]), trivial⟩ (fun g56 => ?_)
      refine Al_gdT rfl rfl rfl rfl (by rw [hpa]; rfl) (by decide) ?_
      refine Al_pu (Pu_not rfl rfl) rfl rfl (by decide) (by kernel_rfl) ?_
      refine Al_pu (Pu_or2 rfl rfl rfl rfl) rfl rfl (by decide) (by kernel_rfl) ?_
      refine Al_nil ?_
      refine Aw_cond rfl (fun h58 => ?_) (fun h58 => ?_)
      · (try simp only [decide_eq_true_eq, decide_eq_false_iff_not, Bool.and_eq_true, Bool.or_eq_true, Bool.and_eq_false_iff, Bool.or_eq_false_iff, Bool.not_eq_true', Bool.not_eq_false', beq_iff_eq, Bool.not_eq_eq_eq_not, Bool.not_true, Bool.not_false, List.length_map, Bool.and_true, Bool.and_false, Bool.false_and, Bool.true_and, Bool.or_false, Bool.false_or] at h58)
        exfalso
        rw [hpa, hpb] at h58
        simp at h58
      · (try simp only [decide_eq_true_eq, decide_eq_false_iff_not, Bool.and_eq_true, Bool.or_eq_true, Bool.and_eq_false_iff, Bool.or_eq_false_iff, Bool.not_eq_true', Bool.not_eq_false', beq_iff_eq, Bool.not_eq_eq_eq_not, Bool.not_true, Bool.not_false, List.length_map, Bool.and_true, Bool.and_false, Bool.false_and, Bool.true_and, Bool.or_false, Bool.false_or] at h58)
        refine Aw_skip ?_
        refine Aw_region ?_
        refine Al_pu (Pu_move (.inl rfl) (by conv => lhs; whnf)) rfl rfl (by decide) (by kernel_rfl) ?_
        refine Al_pu (Pu_add rfl rfl rfl (fun h1 h2 => by simp only [A.inI, A.maxI] at *; omega)) rfl rfl (by decide) (by kernel_rfl) ?_
        refine Al_pu (Pu_move (.inr rfl) (by conv => lhs; whnf)) rfl rfl (by decide) (by kernel_rfl) ?_
        refine Al_nil ?_
        exact ⟨k + 1, by omega, by omega, Le.ov ⟨Sub.num (by omega), trivial⟩ ⟨Sub.rfl, Sub.rfl, Sub.rfl, Sub.rfl, Sub.rfl, trivial⟩ ⟨obeq2 (J.ordA_succ l k).symm, obeq2 (J.ordB_succ l n k).symm, trivial⟩ ⟨rfl, rfl, trivial⟩⟩ -- loop 0 next.0
    · (try simp only [decide_eq_true_eq, decide_eq_false_iff_not, Bool.and_eq_true, Bool.or_eq_true, Bool.and_eq_false_iff, Bool.or_eq_false_iff, Bool.not_eq_true', Bool.not_eq_false', beq_iff_eq, Bool.not_eq_eq_eq_not, Bool.not_true, Bool.not_false, List.length_map, Bool.and_true, Bool.and_false, Bool.false_and, Bool.true_and, Bool.or_false, Bool.false_or] at h28)
      obtain rfl : k = n := by omega
      have hsame := J.ord_same l k hn20
      obtain ⟨hra, hsa⟩ := J.ordA_sm l k
      obtain ⟨hrb, hsb⟩ := J.ordB_sm l k k
      refine Aw_exit ?_
      refine Aw_seq ?_
      refine Aw_seq ?_
      refine Aw_region ?_
      refine Al_pu (Pu_move (.inr rfl) (by conv => lhs; whnf)) rfl rfl (by decide) (by kernel_rfl) ?_
      refine Al_nil ?_
      refine Aw_block ?_
      refine Aw_loopk (ι := Nat) [3, 4, 5] [13, 130, 15, 150] (fun j => [(8, .d (iv j))]) (fun j => []) (fun j => j ≤ 8) (fun j => 8 - j) (0) (Nat.zero_le _) ⟨Sub.rfl, trivial⟩ trivial ?_
      rintro j hk1
      refine Aw_seq ?_
      refine Aw_seq ?_
      refine Aw_region ?_
      refine Al_pu (Pu_move (.inl rfl) (by conv => lhs; whnf)) rfl rfl (by decide) (by kernel_rfl) ?_
      refine Al_pu (Pu_cmp rfl rfl rfl rfl) rfl rfl (by decide) (by kernel_rfl) ?_
      refine Al_nil ?_
      refine Aw_cond rfl (fun h60 => ?_) (fun h60 => ?_)
      · (try simp only [decide_eq_true_eq, decide_eq_false_iff_not, Bool.and_eq_true, Bool.or_eq_true, Bool.and_eq_false_iff, Bool.or_eq_false_iff, Bool.not_eq_true', Bool.not_eq_false', beq_iff_eq, Bool.not_eq_eq_eq_not, Bool.not_true, Bool.not_false, List.length_map, Bool.and_true, Bool.and_false, Bool.false_and, Bool.true_and, Bool.or_false, Bool.false_or] at h60)
        refine Aw_skip ?_
        refine Aw_seq ?_
        refine Aw_block ?_
        refine Aw_seq ?_
        refine Aw_region ?_
        refine Al_pu (Pu_move (.inl rfl) (by conv => lhs; whnf)) rfl rfl (by decide) (by kernel_rfl) ?_
        refine Al_pu (Pu_move (.inl rfl) (by conv => lhs; whnf)) rfl rfl (by decide) (by kernel_rfl) ?_
        refine Al_pu (Pu_call (hword_a _) rfl ⟨Sub.rfl, trivial⟩) rfl rfl (by decide) (by kernel_rfl) ?_
        refine Al_gcall [(1001, 13, g13), (1002, 130, g13)] [] (schain_g (J.ranges 0) (J.ordA l k) b (J.word j) (hsa.mono (by omega))) rfl rfl rfl (by decide) (by kernel_rfl) ⟨rfl, rfl, trivial⟩ rfl ⟨Sub.rfl, Sub.rfl, trivial⟩ (fun g66 => ?_)
        refine Al_pu (Pu_move (.inl rfl) (by conv => lhs; whnf)) rfl rfl (by decide) (by kernel_rfl) ?_
        refine Al_pu (Pu_move (.inl rfl) (by conv => lhs; whnf)) rfl rfl (by decide) (by kernel_rfl) ?_
        refine Al_pu (Pu_call (hword_a _) rfl ⟨Sub.rfl, trivial⟩) rfl rfl (by decide) (by kernel_rfl) ?_
        refine Al_gcall [(1001, 15, g15), (1002, 150, g15)] [] (schain_g (J.ranges 0) (J.ordB l k k) b' (J.word j) (hsb.mono (by omega))) rfl rfl rfl (by decide) (by kernel_rfl) ⟨rfl, rfl, trivial⟩ rfl ⟨Sub.rfl, Sub.rfl, trivial⟩ (fun g70 => ?_)
        refine Al_pu (Pu_call (rsame12_a (J.getC (J.ordA l k) (J.word j)) (J.getC (J.ordB l k k) (J.word j))) rfl ⟨Sub.rfl, Sub.rfl, trivial⟩) rfl rfl (by decide) (by kernel_rfl) ?_
        refine Al_pu (Pu_move (.inr rfl) (by conv => lhs; whnf)) rfl rfl (by decide) (by kernel_rfl) ?_
        refine Al_nil ?_
        refine Aw_seq ?_
        refine Aw_region ?_
        refine Al_pu (Pu_move (.inl rfl) (by conv => lhs; whnf)) rfl rfl (by decide) (by kernel_rfl) ?_
        refine Al_pu (Pu_not rfl rfl) rfl rfl (by decide) (by kernel_rfl) ?_
        refine Al_nil ?_
        refine Aw_cond rfl (fun h73 => ?_) (fun h73 => ?_)
        · (try simp only [decide_eq_true_eq, decide_eq_false_iff_not, Bool.and_eq_true, Bool.or_eq_true, Bool.and_eq_false_iff, Bool.or_eq_false_iff, Bool.not_eq_true', Bool.not_eq_false', beq_iff_eq, Bool.not_eq_eq_eq_not, Bool.not_true, Bool.not_false, List.length_map, Bool.and_true, Bool.and_false, Bool.false_and, Bool.true_and, Bool.or_false, Bool.false_or] at h73)
          exfalso
          rw [hsame] at h73
          simp at h73
        · (try simp only [decide_eq_true_eq, decide_eq_false_iff_not, Bool.and_eq_true, Bool.or_eq_true, Bool.and_eq_false_iff, Bool.or_eq_false_iff, Bool.not_eq_true', Bool.not_eq_false', beq_iff_eq, Bool.not_eq_eq_eq_not, Bool.not_true, Bool.not_false, List.length_map, Bool.and_true, Bool.and_false, Bool.false_and, Bool.true_and, Bool.or_false, Bool.false_or] at h73)
          refine Aw_skip ?_
          refine Aw_region ?_
          refine Al_pu (Pu_move (.inl rfl) (by conv => lhs; whnf)) rfl rfl (by decide) (by kernel_rfl) ?_
          refine Al_pu (Pu_add rfl rfl rfl (fun h1 h2 => by simp only [A.inI, A.maxI] at *; omega)) rfl rfl (by decide) (by kernel_rfl) ?_
          refine Al_pu (Pu_move (.inr rfl) (by conv => lhs; whnf)) rfl rfl (by decide) (by kernel_rfl) ?_
          refine Al_nil ?_
          exact ⟨j + 1, by omega, by omega, Le.ov ⟨Sub.num (by omega), trivial⟩ ⟨Sub.rfl, Sub.rfl, Sub.rfl, trivial⟩ trivial ⟨rfl, rfl, rfl, rfl, trivial⟩⟩ -- loop 1 next.0
      · (try simp only [decide_eq_true_eq, decide_eq_false_iff_not, Bool.and_eq_true, Bool.or_eq_true, Bool.and_eq_false_iff, Bool.or_eq_false_iff, Bool.not_eq_true', Bool.not_eq_false', beq_iff_eq, Bool.not_eq_eq_eq_not, Bool.not_true, Bool.not_false, List.length_map, Bool.and_true, Bool.and_false, Bool.false_and, Bool.true_and, Bool.or_false, Bool.false_or] at h60)
        refine Aw_exit ?_
        refine Aw_seq ?_
        refine Aw_region ?_
        refine Al_pu (Pu_move (.inl rfl) (by conv => lhs; whnf)) rfl rfl (by decide) (by kernel_rfl) ?_
        refine Al_gcall [(1001, 13, g13), (1002, 130, g13)] [] (shave_g (J.ranges 0) (J.ordA l k) b hra (hsa.mono (by omega))) rfl rfl rfl (by decide) (by kernel_rfl) ⟨rfl, rfl, trivial⟩ rfl ⟨Sub.rfl, trivial⟩ (fun g75 => ?_)
        refine Al_pu (Pu_move (.inl rfl) (by conv => lhs; whnf)) rfl rfl (by decide) (by kernel_rfl) ?_
        refine Al_gcall [(1001, 15, g15), (1002, 150, g15)] [] (shave_g (J.ranges 0) (J.ordB l k k) b' hrb (hsb.mono (by omega))) rfl rfl rfl (by decide) (by kernel_rfl) ⟨rfl, rfl, trivial⟩ rfl ⟨Sub.rfl, trivial⟩ (fun g77 => ?_)
        refine Al_pu (Pu_call (dsame_a (J.have' (J.ordA l k)) (J.have' (J.ordB l k k))) rfl ⟨Sub.rfl, Sub.rfl, trivial⟩) rfl rfl (by decide) (by kernel_rfl) ?_
        refine Al_pu (Pu_move (.inr rfl) (by conv => lhs; whnf)) rfl rfl (by decide) (by kernel_rfl) ?_
        refine Al_nil ?_
        refine Aw_seq ?_
        refine Aw_region ?_
        refine Al_pu (Pu_move (.inl rfl) (by conv => lhs; whnf)) rfl rfl (by decide) (by kernel_rfl) ?_
        refine Al_pu (Pu_move (.inl rfl) (by conv => lhs; whnf)) rfl rfl (by decide) (by kernel_rfl) ?_
        refine Al_st (St_gd [] rfl rfl rfl rfl trivial (fun hg81 => by exact Pu_move (.inl rfl) (by conv => lhs; whnf))) rfl (by decide) (by kernel_rfl) (by intro j b oj dj h1 h2 h3; cases h1; cases h2; cases h3; decide) ?_
        refine Al_pu (Pu_and rfl rfl rfl rfl) rfl rfl (by decide) (by kernel_rfl) ?_
        refine Al_pu (Pu_move (.inr rfl) (by conv => lhs; whnf)) rfl rfl (by decide) (by kernel_rfl) ?_
        refine Al_nil ?_
        refine Aw_ret ?_
        exact Sub.bool (by rw [hsame]; simp) -- ret 0
end Go.Proofs.Ytkmjiaegbooplaa
