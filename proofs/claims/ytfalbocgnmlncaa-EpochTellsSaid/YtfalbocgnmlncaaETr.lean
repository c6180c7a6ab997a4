/- tree.Check, archipelagoref08.Check at parents that stand ahead of their sites: the walks. -/
import Derived.Test.YtfalbocgnmlncaaETc
import Derived.Test.YtfalbocgnmlncaaAMk
set_option linter.unusedSimpArgs false
set_option linter.unusedVariables false
namespace Go.Proofs.Ytfalbocgnmlncaa
open Go.RowKit A R
namespace T
/-- Parents, each ahead of its site. -/
structure Ahead (p : List Int) : Prop where
  pos : 1 ≤ p.length
  le : p.length ≤ 6
  root : p.getD 0 0 = -1
  up : ∀ i, 1 ≤ i → i < p.length → 0 ≤ p.getD i 0 ∧ p.getD i 0 < (i : Int)
abbrev DS := List Bool × List Nat
def dstep (p : List Int) (a : Nat) (go : Nat → DS → DS) (so : DS) (i : Nat) : DS := if p.getD i 0 = (a : Int) ∧ so.1.getD i true = false then go i so else so
/-- The walk downwards. -/
def dfs (p : List Int) : Nat → Nat → DS → DS
  | 0, _, so => so
  | f + 1, a, so => (List.range p.length).foldl (dstep p a (dfs p f)) (so.1.set a true, so.2 ++ [a])
/-- .. behind k places of the row. -/
def dfsAt (p : List Int) (f a : Nat) (so : DS) (k : Nat) : DS := (List.range k).foldl (dstep p a (dfs p f)) (so.1.set a true, so.2 ++ [a])
theorem dfsAt_zero (p : List Int) (f a : Nat) (so : DS) : dfsAt p f a so 0 = (so.1.set a true, so.2 ++ [a]) := rfl
theorem dfsAt_succ (p : List Int) (f a : Nat) (so : DS) (k : Nat) : dfsAt p f a so (k + 1) = dstep p a (dfs p f) (dfsAt p f a so k) k := by
  unfold dfsAt
  rw [List.range_succ, List.foldl_append]; rfl
theorem dfsAt_all (p : List Int) (f a : Nat) (so : DS) : dfsAt p f a so p.length = dfs p (f + 1) a so := rfl
theorem dfs_len (p : List Int) (hp : p.length ≤ 6) : ∀ (f a : Nat) (so : DS), (dfs p f a so).1.length = so.1.length ∧ (dfs p f a so).2.length ≤ so.2.length + 7 ^ f
  | 0, a, so => ⟨rfl, by simp [dfs]⟩
  | f + 1, a, so => by
    have key : ∀ k, (dfsAt p f a so k).1.length = so.1.length ∧ (dfsAt p f a so k).2.length ≤ so.2.length + 1 + k * 7 ^ f := by
      intro k
      induction k with
      | zero => rw [dfsAt_zero]; simp
      | succ k ih =>
        rw [dfsAt_succ]
        unfold dstep
        have e : (k + 1) * 7 ^ f = k * 7 ^ f + 7 ^ f := by rw [Nat.add_mul, Nat.one_mul]
        rw [e]
        split
        · obtain ⟨h1, h2⟩ := dfs_len p hp f k (dfsAt p f a so k)
          generalize 7 ^ f = q at *
          generalize k * q = r at *
          exact ⟨by omega, by omega⟩
        · generalize 7 ^ f = q at *
          generalize k * q = r at *
          exact ⟨ih.1, by omega⟩
    have h := key p.length
    rw [dfsAt_all] at h
    refine ⟨h.1, ?_⟩
    have h7 : 0 < 7 ^ f := Nat.pow_pos (by omega)
    have h8 : p.length * 7 ^ f ≤ 6 * 7 ^ f := Nat.mul_le_mul_right _ hp
    have h9 : 7 ^ (f + 1) = 7 * 7 ^ f := by rw [Nat.pow_succ, Nat.mul_comm]
    omega
theorem dfsAt_len (p : List Int) (hp : p.length ≤ 6) (f a : Nat) (so : DS) : ∀ k, (dfsAt p f a so k).1.length = so.1.length ∧ (dfsAt p f a so k).2.length ≤ so.2.length + 1 + k * 7 ^ f := by
  intro k
  induction k with
  | zero => rw [dfsAt_zero]; simp
  | succ k ih =>
    rw [dfsAt_succ]
    unfold dstep
    have e : (k + 1) * 7 ^ f = k * 7 ^ f + 7 ^ f := by rw [Nat.add_mul, Nat.one_mul]
    rw [e]
    split
    · obtain ⟨h1, h2⟩ := dfs_len p hp f k (dfsAt p f a so k)
      generalize 7 ^ f = q at *
      generalize k * q = r at *
      exact ⟨by omega, by omega⟩
    · generalize 7 ^ f = q at *
      generalize k * q = r at *
      exact ⟨ih.1, by omega⟩
def seenR (s : List Bool) : List (List AV) := s.map fun b => [bv b]
def outR (l : List Nat) : List (List AV) := l.map fun x => [iv (x : Nat)]
def inF (p : List Int) : SV := .fnb 65 [] [.bx 1005 0 0, .bx 1006 0 0, .d (.fp [.sl 1 (p.map fun x => [iv x])]), .bx 1007 0 0]
def inObs2 (p : List Int) (so : DS) : Obs := [(1005, .box 80 [.ow 1015 0]), (1015, .arr 4 1 (seenR so.1)), (1006, .box 22 [.ow 1026 0]), (1026, .arr 3 1 (outR so.2)), (1007, .box 81 [inF p])]
def inObs (p : List Int) (so : DS) : Obs := [(1005, .box 80 [.ow 1015 0]), (1015, .arr 4 1 (seenR so.1)), (1006, .box 22 [.ow 1016 0]), (1016, .arr 3 1 (outR so.2)), (1007, .box 81 [inF p])]
theorem seenR_un (s : List Bool) : ∀ q ∈ seenR s, q.length = 1 := fun q hq => by
  obtain ⟨b, _, rfl⟩ := List.mem_map.1 hq; rfl
theorem seenR_fl (s : List Bool) : (seenR s).flatten = s.map bv := by
  unfold seenR
  induction s with
  | nil => rfl
  | cons b r ih => simp [ih]
theorem seenR_set {s : List Bool} {a : Nat} (h : a < s.length) : (seenR (s.set a true)).flatten = (seenR s).flatten.take (a * 1) ++ cellsA (bv true) ++ (seenR s).flatten.drop (a * 1 + 1) := by
  rw [seenR_fl, seenR_fl, List.map_set, Nat.mul_one, List.set_eq_take_append_cons_drop, if_pos (by simpa using h)]
  simp [cellsA]
end T
set_option maxRecDepth 100000 in
set_option maxHeartbeats 2000000 in
theorem in_step (p : List Int) (hp : T.Ahead p) (f a : Nat) (so : T.DS) (hgo : ∀ (a' : Nat) (so' : T.DS), a < a' → a' < p.length → so'.1.length = p.length → so'.2.length + 7 ^ f ≤ 1000000 → GCall Try.prog 65 [.d (iv a'), .bx 1005 0 0, .bx 1006 0 0, .d (.fp [.sl 1 (p.map fun x => [iv x])]), .bx 1007 0 0] (T.inObs p so') (some (T.inObs2 p (T.dfs p f a' so'), .d (.tup []))))
    (ha : a < p.length) (hs : so.1.length = p.length) (ho : so.2.length + 7 ^ (f + 1) ≤ 1000000) : GCall Try.prog 65 [.d (iv a), .bx 1005 0 0, .bx 1006 0 0, .d (.fp [.sl 1 (p.map fun x => [iv x])]), .bx 1007 0 0] (T.inObs p so) (some (T.inObs2 p (T.dfs p (f + 1) a so), .d (.tup []))) := by
  refine GCall_enter (fun _ _ => by kernel_rfl) Try.func65 rfl Try.ntmps65 (ReadsS.r0 Try.results65) (Nat.le_of_ble_eq_true rfl) (fun hok hokB M0 w0 => ?_)
  have hp6 := hp.le
  have h70 : 0 < 7 ^ f := Nat.pow_pos (by omega)
  have h71 : 7 ^ (f + 1) = 7 * 7 ^ f := by rw [Nat.pow_succ, Nat.mul_comm]
  refine Aw_seq ?_
  refine Aw_region ?_
  refine Al_pu (Pu_loadb rfl Try.isAgg80 rfl rfl rfl) rfl rfl (by decide) (by kernel_rfl) ?_
  refine Al_pu (Pu_move (.inl rfl) (by conv => lhs; whnf)) rfl rfl (by decide) (by kernel_rfl) ?_
  refine Al_pu (Pu_indexOw (j := a) rfl Try.underlying80 Try.sizeOf4 rfl rfl rfl rfl (by unfold T.seenR; rw [List.length_map]; omega)) rfl rfl (by decide) (by kernel_rfl) ?_
  refine Al_storeArr (T.seenR (so.1.set a true)) rfl rfl rfl (by kernel_rfl) Try.sizeOf4 rfl rfl rfl rfl rfl (by unfold T.seenR; rw [List.length_map]; omega) (by simp [T.seenR]) (T.seenR_un _) (T.seenR_set (by omega)) ?_
  refine Al_nil ?_
  refine Aw_seq ?_
  refine Aw_region ?_
  refine Al_pu (Pu_loadb rfl Try.isAgg22 rfl rfl rfl) rfl rfl (by decide) (by kernel_rfl) ?_
  refine Al_pu (Pu_move (.inl rfl) (by conv => lhs; whnf)) rfl rfl (by decide) (by kernel_rfl) ?_
  refine Al_pu (Pu_slice1 rfl Try.underlying22 Try.sizeOf3 Try.zeroValue3 rfl (by decide) (by decide) (by kernel_rfl) rfl rfl rfl) rfl rfl (by decide) (by kernel_rfl) ?_
  refine Al_append rfl rfl rfl (by decide) (by kernel_rfl) elem22 (by decide) Try.sizeOf3 rfl rfl rfl ((by simp [T.outR]; omega)) (by decide) (fun g14 => ?_)
  refine Al_store1 rfl rfl rfl (by kernel_rfl) Try.isAgg22 Try.sizeOf22 rfl rfl (Nat.le_of_ble_eq_true rfl) (by conv => lhs; whnf) rfl ?_
  refine Al_nil ?_
  refine Aw_seq ?_
  refine Aw_region ?_
  refine Al_pu (Pu_load1 rfl Try.isAgg22 rfl rfl) rfl rfl (by decide) (by kernel_rfl) ?_
  refine Al_pu (Pu_len rfl Try.underlying22 rfl (by first | exact List.length_map .. | exact rfl)) rfl rfl (by decide) (by kernel_rfl) ?_
  refine Al_pu (Pu_move (.inl rfl) (by conv => lhs; whnf)) rfl rfl (by decide) (by kernel_rfl) ?_
  refine Al_nil ?_
  refine Aw_block ?_
  refine Aw_loopk (ι := Nat × Nat) [0, 1, 4, 15, 16] [1007] (fun (k, g) => [(17, .d (iv k))]) (fun (k, g) => [(1005, 0, .box 80 [.ow 1015 0]), (1015, 0, .arr 4 1 (T.seenR (T.dfsAt p f a so k).1)), (1006, 0, .box 22 [.ow 1016 g]), (1016, g, .arr 3 1 (T.outR (T.dfsAt p f a so k).2))]) (fun (k, g) => k ≤ p.length) (fun (k, g) => p.length - k) ((0, g14)) (Nat.zero_le _) ⟨Sub.rfl, trivial⟩ ⟨rfl, rfl, rfl, obeq (by simp [T.outR, T.dfsAt_zero, A.cellsA]), trivial⟩ ?_
  rintro ⟨k, g⟩ hk0
  refine Aw_seq ?_
  refine Aw_region ?_
  refine Al_pu (Pu_cmp rfl rfl rfl rfl) rfl rfl (by decide) (by kernel_rfl) ?_
  refine Al_nil ?_
  refine Aw_seq ?_
  refine Aw_cond rfl (fun h18 => ?_) (fun h18 => ?_)
  · (try simp only [decide_eq_true_eq, decide_eq_false_iff_not, Bool.and_eq_true, Bool.or_eq_true, Bool.and_eq_false_iff, Bool.or_eq_false_iff, Bool.not_eq_true', Bool.not_eq_false', beq_iff_eq, Bool.not_eq_eq_eq_not, Bool.not_true, Bool.not_false, List.length_map, Bool.and_true, Bool.and_false, Bool.false_and, Bool.true_and, Bool.or_false, Bool.false_or] at h18)
    have hk : k < p.length := by omega
    obtain ⟨d1, d2⟩ := T.dfsAt_len p hp6 f a so k
    have d3 : k * 7 ^ f ≤ 5 * 7 ^ f := Nat.mul_le_mul_right _ (by omega)
    have hks : k < (T.dfsAt p f a so k).1.length := by omega
    have hkb : p.getD k 0 = p[k] := by simp [List.getD_eq_getElem?_getD, hk]
    have hkd : (T.dfsAt p f a so k).1.getD k true = (T.dfsAt p f a so k).1[k] := by simp [List.getD_eq_getElem?_getD, hks]
    have hat : (T.seenR (T.dfsAt p f a so k).1).flatten[k * 1]? = some (bv (T.dfsAt p f a so k).1[k]) := by rw [T.seenR_fl, Nat.mul_one]; simp [hks]
    have hkl : k < (T.seenR (T.dfsAt p f a so k).1).length := by unfold T.seenR; rw [List.length_map]; omega
    refine Aw_skip ?_
    -- join 0: live [0, 1, 4, 15, 16, 17], turned []
    refine Aw_seq ?_
    refine Aw_block ?_
    refine Aw_seq ?_
    refine Aw_region ?_
    refine Al_pu (Pu_move (.inl rfl) (by conv => lhs; whnf)) rfl rfl (by decide) (by kernel_rfl) ?_
    refine Al_pu (Pu_index rfl Try.underlying22 Try.sizeOf3 rfl rfl (rfl) (mapget hk)) rfl rfl (by decide) (by kernel_rfl) ?_
    refine Al_pu (Pu_load1 rfl Try.isAgg3 rfl rfl) rfl rfl (by decide) (by kernel_rfl) ?_
    refine Al_pu (Pu_move (.inr rfl) (by conv => lhs; whnf)) rfl rfl (by decide) (by kernel_rfl) ?_
    refine Al_pu (Pu_move (.inr rfl) (by conv => lhs; whnf)) rfl rfl (by decide) (by kernel_rfl) ?_
    refine Al_nil ?_
    refine Aw_seq ?_
    refine Aw_region ?_
    refine Al_pu (Pu_move (.inl rfl) (by conv => lhs; whnf)) rfl rfl (by decide) (by kernel_rfl) ?_
    refine Al_pu (Pu_move (.inl rfl) (by conv => lhs; whnf)) rfl rfl (by decide) (by kernel_rfl) ?_
    refine Al_pu (Pu_cmp rfl rfl rfl rfl) rfl rfl (by decide) (by kernel_rfl) ?_
    refine Al_pu (Pu_move (.inl rfl) (by conv => lhs; whnf)) rfl rfl (by decide) (by kernel_rfl) ?_
    refine Al_st (St_gd [] rfl rfl rfl rfl trivial (fun hg26 => Pu_loadb rfl Try.isAgg80 rfl rfl rfl)) rfl (by decide) (by kernel_rfl) (by intro j b oj dj h1 h2 h3; cases h1; cases h2; cases h3; decide) ?_
    refine Al_st (St_gd [] rfl rfl rfl rfl trivial (fun hg27 => by exact Pu_move (.inl rfl) (by conv => lhs; whnf))) rfl (by decide) (by kernel_rfl) (by intro j b oj dj h1 h2 h3; cases h1; cases h2; cases h3; decide) ?_
    refine Al_st (St_gd [26, 27] rfl rfl rfl rfl ⟨⟨_, rfl⟩, ⟨_, rfl⟩, trivial⟩ (fun hg28 => Pu_indexOw (j := k) rfl Try.underlying80 Try.sizeOf4 rfl rfl rfl rfl hkl)) rfl (by decide) (by kernel_rfl) (by intro j b oj dj h1 h2 h3; cases h1; cases h2; cases h3; decide) ?_
    refine Al_st (St_gd [28] rfl rfl rfl rfl ⟨⟨_, rfl⟩, trivial⟩ (fun hg29 => Pu_loadArr rfl Try.isAgg4 rfl rfl hat)) rfl (by decide) (by kernel_rfl) (by intro j b oj dj h1 h2 h3; cases h1; cases h2; cases h3; decide) ?_
    refine Al_st (St_gd [29] rfl rfl rfl rfl ⟨⟨_, rfl⟩, trivial⟩ (fun hg30 => Pu_not rfl rfl)) rfl (by decide) (by kernel_rfl) (by intro j b oj dj h1 h2 h3; cases h1; cases h2; cases h3; decide) ?_
    refine Al_pu (Pu_and rfl rfl rfl rfl) rfl rfl (by decide) (by kernel_rfl) ?_
    refine Al_nil ?_
    refine Aw_cond rfl (fun h31 => ?_) (fun h31 => ?_)
    · skip
      have h31' : p.getD k 0 = (a : Int) ∧ (T.dfsAt p f a so k).1.getD k true = false := by
        rw [hkb, hkd]; simpa using h31
      have hak : a < k := by
        rcases Nat.eq_zero_or_pos k with h0 | h0
        · have := hp.root; rw [← h0, h31'.1] at this; omega
        · have := (hp.up k h0 hk).2; rw [h31'.1] at this; omega
      have hnx : T.dfsAt p f a so (k + 1) = T.dfs p f k (T.dfsAt p f a so k) := by rw [T.dfsAt_succ, T.dstep, if_pos h31']
      have hcall := hgo k (T.dfsAt p f a so k) hak hk (by omega) (by omega)
      refine Aw_region ?_
      refine Al_pu (Pu_loadb rfl Try.isAgg81 rfl rfl rfl) rfl rfl (by decide) (by kernel_rfl) ?_
      refine Al_pu (Pu_move (.inl rfl) (by conv => lhs; whnf)) rfl rfl (by decide) (by kernel_rfl) ?_
      refine Al_gcallv [(1005, 1005, 0), (1015, 1015, 0), (1006, 1006, 0), (1016, 1016, g), (1007, 1007, 0)] [(1026, 1016)] hcall rfl rfl rfl (by decide) (by kernel_rfl) rfl ⟨rfl, rfl, rfl, rfl, rfl, trivial⟩ rfl [.d (iv k)] rfl ⟨Sub.rfl, trivial⟩ (fun g34 => ?_)
      refine Al_nil ?_
      refine Aw_region ?_
      refine Al_pu (Pu_add rfl rfl rfl (fun h1 h2 => by simp only [A.inI, A.maxI] at *; omega)) rfl rfl (by decide) (by kernel_rfl) ?_
      refine Al_pu (Pu_move (.inl rfl) (by conv => lhs; whnf)) rfl rfl (by decide) (by kernel_rfl) ?_
      refine Al_nil ?_
      exact ⟨(k + 1, g34), by omega, by simp only []; omega, Le.ov ⟨Sub.num (by omega), trivial⟩ ⟨Sub.rfl, Sub.rfl, Sub.rfl, Sub.rfl, Sub.rfl, trivial⟩ ⟨rfl, obeq (by rw [hnx]), rfl, obeq (by rw [hnx]), trivial⟩ ⟨rfl, trivial⟩⟩ -- loop 0 next.0
    · skip
      have hnx : T.dfsAt p f a so (k + 1) = T.dfsAt p f a so k := by
        rw [T.dfsAt_succ, T.dstep, if_neg]
        rw [hkb, hkd]; rintro ⟨h1, h2⟩; rw [h2] at h31; simp [h1] at h31
      refine Aw_skip ?_
      refine Aw_region ?_
      refine Al_pu (Pu_add rfl rfl rfl (fun h1 h2 => by simp only [A.inI, A.maxI] at *; omega)) rfl rfl (by decide) (by kernel_rfl) ?_
      refine Al_pu (Pu_move (.inl rfl) (by conv => lhs; whnf)) rfl rfl (by decide) (by kernel_rfl) ?_
      refine Al_nil ?_
      exact ⟨(k + 1, g), by omega, by simp only []; omega, Le.ov ⟨Sub.num (by omega), trivial⟩ ⟨Sub.rfl, Sub.rfl, Sub.rfl, Sub.rfl, Sub.rfl, trivial⟩ ⟨rfl, obeq (by rw [hnx]), rfl, obeq (by rw [hnx]), trivial⟩ ⟨rfl, trivial⟩⟩ -- loop 0 next.1
  · (try simp only [decide_eq_true_eq, decide_eq_false_iff_not, Bool.and_eq_true, Bool.or_eq_true, Bool.and_eq_false_iff, Bool.or_eq_false_iff, Bool.not_eq_true', Bool.not_eq_false', beq_iff_eq, Bool.not_eq_eq_eq_not, Bool.not_true, Bool.not_false, List.length_map, Bool.and_true, Bool.and_false, Bool.false_and, Bool.true_and, Bool.or_false, Bool.false_or] at h18)
    have hkk : k = p.length := by omega
    refine Aw_exit ?_
    exact ⟨_, _, [(1026, 1016, g)], rfl, rfl, ⟨rfl, obeq (by rw [hkk, T.dfsAt_all]), rfl, obeq (by rw [hkk, T.dfsAt_all]), rfl, trivial⟩, rfl⟩ -- ret 0
theorem in_g (p : List Int) (hp : T.Ahead p) : ∀ (f a : Nat) (so : T.DS), a < p.length → p.length ≤ a + f → so.1.length = p.length → so.2.length + 7 ^ f ≤ 1000000 → GCall Try.prog 65 [.d (iv a), .bx 1005 0 0, .bx 1006 0 0, .d (.fp [.sl 1 (p.map fun x => [iv x])]), .bx 1007 0 0] (T.inObs p so) (some (T.inObs2 p (T.dfs p f a so), .d (.tup [])))
  | 0, a, so, ha, hf, _, _ => by omega
  | f + 1, a, so, ha, hf, hs, ho => in_step p hp f a so (fun a' so' h1 h2 h3 h4 => in_g p hp f a' so' h2 (by omega) h3 h4) ha hs ho
set_option maxRecDepth 100000 in
set_option maxHeartbeats 2000000 in
theorem below_a (p : List Int) (hp : T.Ahead p) : ACall Try.prog 55 [.sl 1 (p.map fun x => [iv x]), iv (0 : Nat)] (.sl 1 (T.outR (T.dfs p p.length 0 (List.replicate p.length false, [])).2)) := by
  refine ACall_enter (fun _ _ => by kernel_rfl) Try.func55 rfl Try.ntmps55 Try.results55 (Nat.le_of_ble_eq_true rfl) (fun hok M0 w0 hnl => ?_)
  have hp6 := hp.le
  have hin := in_g p hp p.length 0 (List.replicate p.length false, []) hp.pos (by omega) (by simp) (by
    have : (7 : Nat) ^ p.length ≤ 7 ^ 6 := Nat.pow_le_pow_right (by omega) hp6
    simp only [List.length_nil]; omega)
  have hrep : (List.replicate p.length [AV.v (.bool false)]) = T.seenR (List.replicate p.length false) := by simp [T.seenR]
  refine Aw_seq ?_
  refine Aw_region ?_
  refine Al_pu (Pu_box1 rfl rfl (by nofun) (by nofun)) rfl rfl (by decide) (by kernel_rfl) ?_
  refine Al_pu (Pu_move (.inr rfl) (by conv => lhs; whnf)) rfl rfl (by decide) (by kernel_rfl) ?_
  refine Al_nil ?_
  refine Aw_seq ?_
  refine Aw_region ?_
  refine Al_pu (Pu_load1 rfl Try.isAgg22 rfl rfl) rfl rfl (by decide) (by kernel_rfl) ?_
  refine Al_pu (Pu_len rfl Try.underlying22 rfl (by first | exact List.length_map .. | exact rfl)) rfl rfl (by decide) (by kernel_rfl) ?_
  refine Al_make1 (n := p.length) (bytes := 1) (z := .bool false) rfl rfl rfl (by decide) (by kernel_rfl) Try.underlying80 (by kernel_rfl) rfl trivial rfl rfl (by omega) (by decide) (fun g10 => ?_)
  refine Al_alloc rfl rfl rfl (by decide) Try.zeroValue80 rfl (by kernel_rfl) (fun g5 => ?_)
  refine Al_store1 rfl rfl rfl (by kernel_rfl) Try.isAgg80 Try.sizeOf80 rfl rfl (Nat.le_of_ble_eq_true rfl) (by conv => lhs; whnf) rfl ?_
  refine Al_nil ?_
  refine Aw_seq ?_
  refine Aw_region ?_
  refine Al_alloc rfl rfl rfl (by decide) Try.zeroValue22 rfl (by kernel_rfl) (fun g6 => ?_)
  refine Al_nil ?_
  refine Aw_seq ?_
  refine Aw_region ?_
  refine Al_alloc rfl rfl rfl (by decide) Try.zeroValue81 rfl (by kernel_rfl) (fun g7 => ?_)
  refine Al_nil ?_
  refine Aw_seq ?_
  refine Aw_region ?_
  refine Al_pu (Pu_makeFuncS (ys := []) (xs := [_, _, _, _]) [] [.bx 5 g5 0, .bx 6 g6 0, .d (.fp [.sl 1 (p.map fun x => [iv x])]), .bx 7 g7 0] rfl trivial ⟨Sub.rfl, Sub.rfl, Sub.rfl, Sub.rfl, trivial⟩) rfl rfl (by decide) (by kernel_rfl) ?_
  refine Al_store1 rfl rfl rfl (by kernel_rfl) Try.isAgg81 Try.sizeOf81 rfl rfl (Nat.le_of_ble_eq_true rfl) (by conv => lhs; whnf) rfl ?_
  refine Al_nil ?_
  refine Aw_seq ?_
  refine Aw_owncell 0 (k := 6) (k2 := 16) (e := 3) (n := 1) rfl rfl rfl (fun g16 => ?_)
  refine Aw_region ?_
  refine Al_pu (Pu_loadb rfl Try.isAgg81 rfl rfl rfl) rfl rfl (by decide) (by kernel_rfl) ?_
  refine Al_pu (Pu_move (.inl rfl) (by conv => lhs; whnf)) rfl rfl (by decide) (by kernel_rfl) ?_
  refine Al_gcallv [(1005, 5, g5), (1015, 10, g10), (1006, 6, g6), (1016, 16, g16), (1007, 7, g7)] [(1026, 16)] hin rfl rfl rfl (by decide) (by kernel_rfl) rfl ⟨rfl, obeq hrep, rfl, rfl, rfl, trivial⟩ rfl [.d (iv (0 : Nat))] rfl ⟨Sub.rfl, trivial⟩ (fun g14 => ?_)
  refine Al_nil ?_
  refine Aw_seq ?_
  refine Aw_region ?_
  refine Al_pu (Pu_loadb rfl Try.isAgg22 rfl rfl rfl) rfl rfl (by decide) (by kernel_rfl) ?_
  refine Al_pu (Pu_move (.inr rfl) (by conv => lhs; whnf)) rfl rfl (by decide) (by kernel_rfl) ?_
  refine Al_nil ?_
  refine Aw_frz hnl (k := 16) [4] rfl ⟨rfl, trivial⟩ ?_
  refine Aw_ret ?_
  exact Sub.rfl -- ret 0
namespace T
def allA : Nat → List (List Int)
  | 0 => [[]]
  | 1 => [[-1]]
  | n + 2 => (allA (n + 1)).flatMap fun p => (List.range (n + 1)).map fun (k : Nat) => p ++ [(k : Int)]
theorem getD_app {p : List Int} {x : Int} {i : Nat} (h : i < p.length) : (p ++ [x]).getD i 0 = p.getD i 0 := by
  rw [List.getD_eq_getElem?_getD, List.getD_eq_getElem?_getD, List.getElem?_append_left h]
theorem ahead_mem : ∀ (n : Nat) (p : List Int), p.length = n → Ahead p → p ∈ allA n
  | 0, p, hn, h => by have := h.pos; omega
  | 1, p, hn, h => by
    match p, hn with
    | [x], _ =>
      have := h.root
      simp at this
      simp [allA, this]
  | n + 2, p, hn, h => by
    have hne : p ≠ [] := fun e => by rw [e] at hn; simp at hn
    obtain ⟨q, x, rfl⟩ : ∃ q x, p = q ++ [x] := ⟨p.dropLast, p.getLast hne, (List.dropLast_concat_getLast hne).symm⟩
    have hql : q.length = n + 1 := by simp at hn; omega
    have hl := h.le
    rw [List.length_append, List.length_singleton] at hl
    have hq : Ahead q := ⟨by omega, by omega, by rw [← getD_app (x := x) (by omega)]; exact h.root, fun i h1 h2 => by
      have := h.up i h1 (by rw [List.length_append, List.length_singleton]; omega)
      rwa [getD_app h2] at this⟩
    have hx := h.up (n + 1) (by omega) (by rw [List.length_append, List.length_singleton]; omega)
    have hxe : (q ++ [x]).getD (n + 1) 0 = x := by
      rw [List.getD_eq_getElem?_getD, List.getElem?_append_right (by omega)]
      simp [hql]
    rw [hxe] at hx
    rw [allA, List.mem_flatMap]
    refine ⟨q, ahead_mem (n + 1) q hql hq, List.mem_map.2 ⟨x.toNat, List.mem_range.2 (by omega), ?_⟩⟩
    rw [show ((x.toNat : Nat) : Int) = x from by omega]
theorem all_dfs : ∀ n ∈ List.range 7, ∀ p ∈ allA n, (dfs p n 0 (List.replicate n false, [])).2.length = n := by decide +kernel
theorem dfs_all {p : List Int} (h : Ahead p) : (dfs p p.length 0 (List.replicate p.length false, [])).2.length = p.length :=
  all_dfs p.length (List.mem_range.2 (by have := h.le; omega)) p (ahead_mem _ p rfl h)
theorem ahead_at {p : List Int} (h : Ahead p) {k : Nat} (hk : k < p.length) : (p[k] = -1 ∧ k = 0) ∨ (0 ≤ p[k] ∧ p[k] < k ∧ 1 ≤ k) := by
  have e : p.getD k 0 = p[k] := by simp [List.getD_eq_getElem?_getD, hk]
  rcases Nat.eq_zero_or_pos k with h0 | h0
  · left
    have := h.root
    subst h0
    rw [e] at this
    exact ⟨this, rfl⟩
  · right
    have := h.up k h0 hk
    rw [e] at this
    exact ⟨this.1, this.2, h0⟩
end T
set_option maxRecDepth 100000 in
theorem index0_a (p : List Int) (hp : T.Ahead p) : ACall Try.prog 56 [.sl 1 (p.map fun x => [iv x]), iv (-1)] (iv (0 : Nat)) := by
  refine ACall_enter (fun _ _ => by kernel_rfl) Try.func56 rfl Try.ntmps56 Try.results56 (Nat.le_of_ble_eq_true rfl) (fun hok M0 w0 hnl => ?_)
  have hp1 := hp.pos
  have hp6 := hp.le
  refine Aw_seq ?_
  refine Aw_region ?_
  refine Al_pu (Pu_move (.inr rfl) (by conv => lhs; whnf)) rfl rfl (by decide) (by kernel_rfl) ?_
  refine Al_nil ?_
  refine Aw_seq ?_
  refine Aw_seq ?_
  refine Aw_region ?_
  refine Al_pu (Pu_move (.inl rfl) (by conv => lhs; whnf)) rfl rfl (by decide) (by kernel_rfl) ?_
  refine Al_pu (Pu_len rfl Try.underlying22 rfl (by first | exact List.length_map .. | exact rfl)) rfl rfl (by decide) (by kernel_rfl) ?_
  refine Al_pu (Pu_move (.inl rfl) (by conv => lhs; whnf)) rfl rfl (by decide) (by kernel_rfl) ?_
  refine Al_nil ?_
  refine Aw_block ?_
  refine Aw_loopk (ι := Nat) [0, 1, 7] [] (fun k => [(8, .d (iv k))]) (fun k => []) (fun k => k ≤ p.length ∧ k = 0) (fun k => p.length - k) (0) (⟨Nat.zero_le _, rfl⟩) ⟨Sub.rfl, trivial⟩ trivial ?_
  rintro k ⟨hk0, hz⟩
  refine Aw_seq ?_
  refine Aw_region ?_
  refine Al_pu (Pu_cmp rfl rfl rfl rfl) rfl rfl (by decide) (by kernel_rfl) ?_
  refine Al_nil ?_
  refine Aw_seq ?_
  refine Aw_cond rfl (fun h9 => ?_) (fun h9 => ?_)
  · (try simp only [decide_eq_true_eq, decide_eq_false_iff_not, Bool.and_eq_true, Bool.or_eq_true, Bool.and_eq_false_iff, Bool.or_eq_false_iff, Bool.not_eq_true', Bool.not_eq_false', beq_iff_eq, Bool.not_eq_eq_eq_not, Bool.not_true, Bool.not_false, List.length_map, Bool.and_true, Bool.and_false, Bool.false_and, Bool.true_and, Bool.or_false, Bool.false_or] at h9)
    subst hz
    have hk : 0 < p.length := by omega
    have hat := T.ahead_at hp hk
    refine Aw_skip ?_
    refine Aw_seq ?_
    refine Aw_block ?_
    refine Aw_seq ?_
    refine Aw_region ?_
    refine Al_pu (Pu_move (.inl rfl) (by conv => lhs; whnf)) rfl rfl (by decide) (by kernel_rfl) ?_
    refine Al_pu (Pu_move (.inr rfl) (by conv => lhs; whnf)) rfl rfl (by decide) (by kernel_rfl) ?_
    refine Al_nil ?_
    refine Aw_seq ?_
    refine Aw_region ?_
    refine Al_pu (Pu_move (.inl rfl) (by conv => lhs; whnf)) rfl rfl (by decide) (by kernel_rfl) ?_
    refine Al_pu (Pu_move (.inl rfl) (by conv => lhs; whnf)) rfl rfl (by decide) (by kernel_rfl) ?_
    refine Al_pu (Pu_move (.inl rfl) (by conv => lhs; whnf)) rfl rfl (by decide) (by kernel_rfl) ?_
    refine Al_pu (Pu_index rfl Try.underlying22 Try.sizeOf3 rfl rfl (rfl) (mapget hk)) rfl rfl (by decide) (by kernel_rfl) ?_
    refine Al_pu (Pu_load1 rfl Try.isAgg3 rfl rfl) rfl rfl (by decide) (by kernel_rfl) ?_
    refine Al_pu (Pu_cmp rfl rfl rfl rfl) rfl rfl (by decide) (by kernel_rfl) ?_
    refine Al_nil ?_
    refine Aw_cond rfl (fun h16 => ?_) (fun h16 => ?_)
    · (try simp only [decide_eq_true_eq, decide_eq_false_iff_not, Bool.and_eq_true, Bool.or_eq_true, Bool.and_eq_false_iff, Bool.or_eq_false_iff, Bool.not_eq_true', Bool.not_eq_false', beq_iff_eq, Bool.not_eq_eq_eq_not, Bool.not_true, Bool.not_false, List.length_map, Bool.and_true, Bool.and_false, Bool.false_and, Bool.true_and, Bool.or_false, Bool.false_or] at h16)
      refine Aw_seq ?_
      refine Aw_region ?_
      refine Al_pu (Pu_move (.inl rfl) (by conv => lhs; whnf)) rfl rfl (by decide) (by kernel_rfl) ?_
      refine Al_pu (Pu_move (.inr rfl) (by conv => lhs; whnf)) rfl rfl (by decide) (by kernel_rfl) ?_
      refine Al_nil ?_
      refine Aw_ret ?_
      exact Sub.rfl -- ret 0
    · (try simp only [decide_eq_true_eq, decide_eq_false_iff_not, Bool.and_eq_true, Bool.or_eq_true, Bool.and_eq_false_iff, Bool.or_eq_false_iff, Bool.not_eq_true', Bool.not_eq_false', beq_iff_eq, Bool.not_eq_eq_eq_not, Bool.not_true, Bool.not_false, List.length_map, Bool.and_true, Bool.and_false, Bool.false_and, Bool.true_and, Bool.or_false, Bool.false_or] at h16)
      exfalso; omega
  · (try simp only [decide_eq_true_eq, decide_eq_false_iff_not, Bool.and_eq_true, Bool.or_eq_true, Bool.and_eq_false_iff, Bool.or_eq_false_iff, Bool.not_eq_true', Bool.not_eq_false', beq_iff_eq, Bool.not_eq_eq_eq_not, Bool.not_true, Bool.not_false, List.length_map, Bool.and_true, Bool.and_false, Bool.false_and, Bool.true_and, Bool.or_false, Bool.false_or] at h9)
    exfalso; omega
set_option maxRecDepth 100000 in
theorem trcheck_a (p : List Int) (hp : T.Ahead p) : ACall Try.prog 43 [.sl 1 (p.map fun x => [iv x])] (bv true) := by
  refine ACall_enter (fun _ _ => by kernel_rfl) Try.func43 rfl Try.ntmps43 Try.results43 (Nat.le_of_ble_eq_true rfl) (fun hok M0 w0 hnl => ?_)
  have hp1 := hp.pos
  have hp6 := hp.le
  refine Aw_seq ?_
  refine Aw_region ?_
  refine Al_pu (Pu_move (.inr rfl) (by conv => lhs; whnf)) rfl rfl (by decide) (by kernel_rfl) ?_
  refine Al_nil ?_
  refine Aw_seq ?_
  refine Aw_seq ?_
  refine Aw_region ?_
  refine Al_pu (Pu_move (.inl rfl) (by conv => lhs; whnf)) rfl rfl (by decide) (by kernel_rfl) ?_
  refine Al_pu (Pu_len rfl Try.underlying22 rfl (by first | exact List.length_map .. | exact rfl)) rfl rfl (by decide) (by kernel_rfl) ?_
  refine Al_pu (Pu_cmp rfl rfl rfl rfl) rfl rfl (by decide) (by kernel_rfl) ?_
  refine Al_pu (Pu_move (.inl rfl) (by conv => lhs; whnf)) rfl rfl (by decide) (by kernel_rfl) ?_
  refine Al_st (St_gd [] rfl rfl rfl rfl trivial (fun hg10 => by exact Pu_move (.inl rfl) (by conv => lhs; whnf))) rfl (by decide) (by kernel_rfl) (by intro j b oj dj h1 h2 h3; cases h1; cases h2; cases h3; decide) ?_
  refine Al_st (St_gd [10] rfl rfl rfl rfl ⟨⟨_, rfl⟩, trivial⟩ (fun hg11 => by exact Pu_len rfl Try.underlying22 rfl (by first | exact List.length_map .. | exact rfl))) rfl (by decide) (by kernel_rfl) (by intro j b oj dj h1 h2 h3; cases h1; cases h2; cases h3; decide) ?_
  refine Al_st (St_gd [11] rfl rfl rfl rfl ⟨⟨_, rfl⟩, trivial⟩ (fun hg12 => Pu_cmp rfl rfl rfl rfl)) rfl (by decide) (by kernel_rfl) (by intro j b oj dj h1 h2 h3; cases h1; cases h2; cases h3; decide) ?_
  refine Al_pu (Pu_or rfl rfl rfl rfl) rfl rfl (by decide) (by kernel_rfl) ?_
  refine Al_nil ?_
  refine Aw_cond rfl (fun h13 => ?_) (fun h13 => ?_)
  · skip
    exfalso
    simp only [Bool.or_eq_true, decide_eq_true_eq] at h13
    omega
  · skip
    refine Aw_skip ?_
    refine Aw_seq ?_
    refine Aw_region ?_
    refine Al_pu (Pu_move (.inr rfl) (by conv => lhs; whnf)) rfl rfl (by decide) (by kernel_rfl) ?_
    refine Al_nil ?_
    refine Aw_seq ?_
    refine Aw_seq ?_
    refine Aw_region ?_
    refine Al_pu (Pu_move (.inl rfl) (by conv => lhs; whnf)) rfl rfl (by decide) (by kernel_rfl) ?_
    refine Al_pu (Pu_len rfl Try.underlying22 rfl (by first | exact List.length_map .. | exact rfl)) rfl rfl (by decide) (by kernel_rfl) ?_
    refine Al_pu (Pu_move (.inl rfl) (by conv => lhs; whnf)) rfl rfl (by decide) (by kernel_rfl) ?_
    refine Al_nil ?_
    refine Aw_block ?_
    refine Aw_loopk (ι := Nat) [0, 14, 15] [] (fun k => [(16, .d (iv k)), (3, .d (iv (if k = 0 then 0 else 1)))]) (fun k => []) (fun k => k ≤ p.length) (fun k => p.length - k) (0) (Nat.zero_le _) ⟨Sub.rfl, Sub.rfl, trivial⟩ trivial ?_
    rintro k hk0
    refine Aw_seq ?_
    refine Aw_region ?_
    refine Al_pu (Pu_cmp rfl rfl rfl rfl) rfl rfl (by decide) (by kernel_rfl) ?_
    refine Al_nil ?_
    refine Aw_seq ?_
    refine Aw_cond rfl (fun h17 => ?_) (fun h17 => ?_)
    · (try simp only [decide_eq_true_eq, decide_eq_false_iff_not, Bool.and_eq_true, Bool.or_eq_true, Bool.and_eq_false_iff, Bool.or_eq_false_iff, Bool.not_eq_true', Bool.not_eq_false', beq_iff_eq, Bool.not_eq_eq_eq_not, Bool.not_true, Bool.not_false, List.length_map, Bool.and_true, Bool.and_false, Bool.false_and, Bool.true_and, Bool.or_false, Bool.false_or] at h17)
      have hk : k < p.length := by omega
      have hat := T.ahead_at hp hk
      refine Aw_skip ?_
      -- join 0: live [0, 3, 14, 15, 16], turned [3]
      refine Aw_seq ?_
      refine Aw_block ?_
      refine Aw_seq ?_
      refine Aw_region ?_
      refine Al_pu (Pu_index rfl Try.underlying22 Try.sizeOf3 rfl rfl (rfl) (mapget hk)) rfl rfl (by decide) (by kernel_rfl) ?_
      refine Al_pu (Pu_load1 rfl Try.isAgg3 rfl rfl) rfl rfl (by decide) (by kernel_rfl) ?_
      refine Al_pu (Pu_move (.inr rfl) (by conv => lhs; whnf)) rfl rfl (by decide) (by kernel_rfl) ?_
      refine Al_nil ?_
      refine Aw_seq ?_
      refine Aw_seq ?_
      refine Aw_region ?_
      refine Al_pu (Pu_move (.inl rfl) (by conv => lhs; whnf)) rfl rfl (by decide) (by kernel_rfl) ?_
      refine Al_pu (Pu_cmp rfl rfl rfl rfl) rfl rfl (by decide) (by kernel_rfl) ?_
      refine Al_pu (Pu_move (.inl rfl) (by conv => lhs; whnf)) rfl rfl (by decide) (by kernel_rfl) ?_
      refine Al_st (St_gd [] rfl rfl rfl rfl trivial (fun hg23 => by exact Pu_move (.inl rfl) (by conv => lhs; whnf))) rfl (by decide) (by kernel_rfl) (by intro j b oj dj h1 h2 h3; cases h1; cases h2; cases h3; decide) ?_
      refine Al_st (St_gd [] rfl rfl rfl rfl trivial (fun hg24 => by exact Pu_move (.inl rfl) (by conv => lhs; whnf))) rfl (by decide) (by kernel_rfl) (by intro j b oj dj h1 h2 h3; cases h1; cases h2; cases h3; decide) ?_
      refine Al_st (St_gd [24] rfl rfl rfl rfl ⟨⟨_, rfl⟩, trivial⟩ (fun hg25 => by exact Pu_len rfl Try.underlying22 rfl (by first | exact List.length_map .. | exact rfl))) rfl (by decide) (by kernel_rfl) (by intro j b oj dj h1 h2 h3; cases h1; cases h2; cases h3; decide) ?_
      refine Al_st (St_gd [23, 25] rfl rfl rfl rfl ⟨⟨_, rfl⟩, ⟨_, rfl⟩, trivial⟩ (fun hg26 => Pu_cmp rfl rfl rfl rfl)) rfl (by decide) (by kernel_rfl) (by intro j b oj dj h1 h2 h3; cases h1; cases h2; cases h3; decide) ?_
      refine Al_pu (Pu_or rfl rfl rfl rfl) rfl rfl (by decide) (by kernel_rfl) ?_
      refine Al_nil ?_
      refine Aw_cond rfl (fun h27 => ?_) (fun h27 => ?_)
      · skip
        exfalso
        simp only [Bool.or_eq_true, decide_eq_true_eq] at h27
        omega
      · skip
        refine Aw_skip ?_
        refine Aw_seq ?_
        refine Aw_region ?_
        refine Al_pu (Pu_move (.inl rfl) (by conv => lhs; whnf)) rfl rfl (by decide) (by kernel_rfl) ?_
        refine Al_pu (Pu_cmp rfl rfl rfl rfl) rfl rfl (by decide) (by kernel_rfl) ?_
        refine Al_nil ?_
        refine Aw_cond rfl (fun h29 => ?_) (fun h29 => ?_)
        · (try simp only [decide_eq_true_eq, decide_eq_false_iff_not, Bool.and_eq_true, Bool.or_eq_true, Bool.and_eq_false_iff, Bool.or_eq_false_iff, Bool.not_eq_true', Bool.not_eq_false', beq_iff_eq, Bool.not_eq_eq_eq_not, Bool.not_true, Bool.not_false, List.length_map, Bool.and_true, Bool.and_false, Bool.false_and, Bool.true_and, Bool.or_false, Bool.false_or] at h29)
          refine Aw_region ?_
          refine Al_pu (Pu_move (.inl rfl) (by conv => lhs; whnf)) rfl rfl (by decide) (by kernel_rfl) ?_
          refine Al_pu (Pu_add rfl rfl rfl (fun h1 h2 => by simp only [A.inI, A.maxI] at *; omega)) rfl rfl (by decide) (by kernel_rfl) ?_
          refine Al_pu (Pu_move (.inr rfl) (by conv => lhs; whnf)) rfl rfl (by decide) (by kernel_rfl) ?_
          refine Al_nil ?_
          refine Aw_region ?_
          refine Al_pu (Pu_add rfl rfl rfl (fun h1 h2 => by simp only [A.inI, A.maxI] at *; omega)) rfl rfl (by decide) (by kernel_rfl) ?_
          refine Al_pu (Pu_move (.inl rfl) (by conv => lhs; whnf)) rfl rfl (by decide) (by kernel_rfl) ?_
          refine Al_nil ?_
          exact ⟨k + 1, by omega, by omega, Le.ov ⟨Sub.num (by omega), Sub.num (by rw [if_pos (by omega : k = 0), if_neg (by omega)]; rfl), trivial⟩ ⟨Sub.rfl, Sub.rfl, Sub.rfl, trivial⟩ trivial trivial⟩ -- loop 0 next.0
        · (try simp only [decide_eq_true_eq, decide_eq_false_iff_not, Bool.and_eq_true, Bool.or_eq_true, Bool.and_eq_false_iff, Bool.or_eq_false_iff, Bool.not_eq_true', Bool.not_eq_false', beq_iff_eq, Bool.not_eq_eq_eq_not, Bool.not_true, Bool.not_false, List.length_map, Bool.and_true, Bool.and_false, Bool.false_and, Bool.true_and, Bool.or_false, Bool.false_or] at h29)
          refine Aw_skip ?_
          refine Aw_region ?_
          refine Al_pu (Pu_add rfl rfl rfl (fun h1 h2 => by simp only [A.inI, A.maxI] at *; omega)) rfl rfl (by decide) (by kernel_rfl) ?_
          refine Al_pu (Pu_move (.inl rfl) (by conv => lhs; whnf)) rfl rfl (by decide) (by kernel_rfl) ?_
          refine Al_nil ?_
          exact ⟨k + 1, by omega, by omega, Le.ov ⟨Sub.num (by omega), Sub.num (by rw [if_neg (by omega : ¬ k = 0), if_neg (by omega)]), trivial⟩ ⟨Sub.rfl, Sub.rfl, Sub.rfl, trivial⟩ trivial trivial⟩ -- loop 0 next.1
    · (try simp only [decide_eq_true_eq, decide_eq_false_iff_not, Bool.and_eq_true, Bool.or_eq_true, Bool.and_eq_false_iff, Bool.or_eq_false_iff, Bool.not_eq_true', Bool.not_eq_false', beq_iff_eq, Bool.not_eq_eq_eq_not, Bool.not_true, Bool.not_false, List.length_map, Bool.and_true, Bool.and_false, Bool.false_and, Bool.true_and, Bool.or_false, Bool.false_or] at h17)
      have hkk : ¬ k = 0 := by omega
      rw [if_neg hkk]
      refine Aw_exit ?_
      refine Aw_seq ?_
      refine Aw_region ?_
      refine Al_pu (Pu_move (.inl rfl) (by conv => lhs; whnf)) rfl rfl (by decide) (by kernel_rfl) ?_
      refine Al_pu (Pu_cmp rfl rfl rfl rfl) rfl rfl (by decide) (by kernel_rfl) ?_
      refine Al_pu (Pu_move (.inl rfl) (by conv => lhs; whnf)) rfl rfl (by decide) (by kernel_rfl) ?_
      refine Al_st (St_gd [] rfl rfl rfl rfl trivial (fun hg36 => by exact Pu_move (.inl rfl) (by conv => lhs; whnf))) rfl (by decide) (by kernel_rfl) (by intro j b oj dj h1 h2 h3; cases h1; cases h2; cases h3; decide) ?_
      refine Al_st (St_gd [] rfl rfl rfl rfl trivial (fun hg37 => by exact Pu_move (.inl rfl) (by conv => lhs; whnf))) rfl (by decide) (by kernel_rfl) (by intro j b oj dj h1 h2 h3; cases h1; cases h2; cases h3; decide) ?_
      refine Al_st (St_gd [37] rfl rfl rfl rfl ⟨⟨_, rfl⟩, trivial⟩ (fun hg38 => Pu_call (index0_a p hp) rfl ⟨Sub.rfl, Sub.rfl, trivial⟩)) rfl (by decide) (by kernel_rfl) (by intro j b oj dj h1 h2 h3; cases h1; cases h2; cases h3; decide) ?_
      refine Al_st (St_gd [36, 38] rfl rfl rfl rfl ⟨⟨_, rfl⟩, ⟨_, rfl⟩, trivial⟩ (fun hg39 => Pu_call (below_a p hp) rfl ⟨Sub.rfl, Sub.rfl, trivial⟩)) rfl (by decide) (by kernel_rfl) (by intro j b oj dj h1 h2 h3; cases h1; cases h2; cases h3; decide) ?_
      refine Al_st (St_gd [39] rfl rfl rfl rfl ⟨⟨_, rfl⟩, trivial⟩ (fun hg40 => by exact Pu_len rfl Try.underlying22 rfl (by unfold T.outR; exact List.length_map ..))) rfl (by decide) (by kernel_rfl) (by intro j b oj dj h1 h2 h3; cases h1; cases h2; cases h3; decide) ?_
      refine Al_st (St_gd [] rfl rfl rfl rfl trivial (fun hg41 => by exact Pu_move (.inl rfl) (by conv => lhs; whnf))) rfl (by decide) (by kernel_rfl) (by intro j b oj dj h1 h2 h3; cases h1; cases h2; cases h3; decide) ?_
      refine Al_st (St_gd [41] rfl rfl rfl rfl ⟨⟨_, rfl⟩, trivial⟩ (fun hg42 => by exact Pu_len rfl Try.underlying22 rfl (by first | exact List.length_map .. | exact rfl))) rfl (by decide) (by kernel_rfl) (by intro j b oj dj h1 h2 h3; cases h1; cases h2; cases h3; decide) ?_
      refine Al_st (St_gd [40, 42] rfl rfl rfl rfl ⟨⟨_, rfl⟩, ⟨_, rfl⟩, trivial⟩ (fun hg43 => Pu_cmp rfl rfl rfl rfl)) rfl (by decide) (by kernel_rfl) (by intro j b oj dj h1 h2 h3; cases h1; cases h2; cases h3; decide) ?_
      refine Al_pu (Pu_and rfl rfl rfl rfl) rfl rfl (by decide) (by kernel_rfl) ?_
      refine Al_pu (Pu_move (.inr rfl) (by conv => lhs; whnf)) rfl rfl (by decide) (by kernel_rfl) ?_
      refine Al_nil ?_
      refine Aw_ret ?_
      exact Sub.bool (by rw [T.dfs_all hp]; simp) -- ret 0
set_option maxRecDepth 100000 in
theorem rtrcheck_a (p : List Int) (hp : T.Ahead p) : ACall Try.prog 52 [.sl 1 (p.map fun x => [iv x])] (bv true) := by
  refine ACall_enter (fun _ _ => by kernel_rfl) Try.func52 rfl Try.ntmps52 Try.results52 (Nat.le_of_ble_eq_true rfl) (fun hok M0 w0 hnl => ?_)
  have hp1 := hp.pos
  have hp6 := hp.le
  refine Aw_seq ?_
  refine Aw_region ?_
  refine Al_pu (Pu_move (.inr rfl) (by conv => lhs; whnf)) rfl rfl (by decide) (by kernel_rfl) ?_
  refine Al_nil ?_
  refine Aw_seq ?_
  refine Aw_seq ?_
  refine Aw_region ?_
  refine Al_pu (Pu_move (.inl rfl) (by conv => lhs; whnf)) rfl rfl (by decide) (by kernel_rfl) ?_
  refine Al_pu (Pu_len rfl Try.underlying22 rfl (by first | exact List.length_map .. | exact rfl)) rfl rfl (by decide) (by kernel_rfl) ?_
  refine Al_pu (Pu_cmp rfl rfl rfl rfl) rfl rfl (by decide) (by kernel_rfl) ?_
  refine Al_pu (Pu_move (.inl rfl) (by conv => lhs; whnf)) rfl rfl (by decide) (by kernel_rfl) ?_
  refine Al_st (St_gd [] rfl rfl rfl rfl trivial (fun hg11 => by exact Pu_move (.inl rfl) (by conv => lhs; whnf))) rfl (by decide) (by kernel_rfl) (by intro j b oj dj h1 h2 h3; cases h1; cases h2; cases h3; decide) ?_
  refine Al_st (St_gd [11] rfl rfl rfl rfl ⟨⟨_, rfl⟩, trivial⟩ (fun hg12 => by exact Pu_len rfl Try.underlying22 rfl (by first | exact List.length_map .. | exact rfl))) rfl (by decide) (by kernel_rfl) (by intro j b oj dj h1 h2 h3; cases h1; cases h2; cases h3; decide) ?_
  refine Al_st (St_gd [12] rfl rfl rfl rfl ⟨⟨_, rfl⟩, trivial⟩ (fun hg13 => Pu_cmp rfl rfl rfl rfl)) rfl (by decide) (by kernel_rfl) (by intro j b oj dj h1 h2 h3; cases h1; cases h2; cases h3; decide) ?_
  refine Al_pu (Pu_or rfl rfl rfl rfl) rfl rfl (by decide) (by kernel_rfl) ?_
  refine Al_nil ?_
  refine Aw_cond rfl (fun h14 => ?_) (fun h14 => ?_)
  · skip
    exfalso
    simp only [Bool.or_eq_true, decide_eq_true_eq] at h14
    omega
  · skip
    refine Aw_skip ?_
    refine Aw_seq ?_
    refine Aw_region ?_
    refine Al_pu (Pu_move (.inr rfl) (by conv => lhs; whnf)) rfl rfl (by decide) (by kernel_rfl) ?_
    refine Al_nil ?_
    refine Aw_seq ?_
    refine Aw_seq ?_
    refine Aw_region ?_
    refine Al_pu (Pu_move (.inr rfl) (by conv => lhs; whnf)) rfl rfl (by decide) (by kernel_rfl) ?_
    refine Al_nil ?_
    refine Aw_block ?_
    refine Aw_loopk (ι := Nat) [0] [] (fun k => [(4, .d (iv k)), (3, .d (iv (if k = 0 then 0 else 1)))]) (fun k => []) (fun k => k ≤ p.length) (fun k => p.length - k) (0) (Nat.zero_le _) ⟨Sub.rfl, Sub.rfl, trivial⟩ trivial ?_
    rintro k hk0
    refine Aw_seq ?_
    refine Aw_seq ?_
    refine Aw_region ?_
    refine Al_pu (Pu_move (.inl rfl) (by conv => lhs; whnf)) rfl rfl (by decide) (by kernel_rfl) ?_
    refine Al_pu (Pu_move (.inl rfl) (by conv => lhs; whnf)) rfl rfl (by decide) (by kernel_rfl) ?_
    refine Al_pu (Pu_len rfl Try.underlying22 rfl (by first | exact List.length_map .. | exact rfl)) rfl rfl (by decide) (by kernel_rfl) ?_
    refine Al_pu (Pu_cmp rfl rfl rfl rfl) rfl rfl (by decide) (by kernel_rfl) ?_
    refine Al_nil ?_
    refine Aw_cond rfl (fun h18 => ?_) (fun h18 => ?_)
    · (try simp only [decide_eq_true_eq, decide_eq_false_iff_not, Bool.and_eq_true, Bool.or_eq_true, Bool.and_eq_false_iff, Bool.or_eq_false_iff, Bool.not_eq_true', Bool.not_eq_false', beq_iff_eq, Bool.not_eq_eq_eq_not, Bool.not_true, Bool.not_false, List.length_map, Bool.and_true, Bool.and_false, Bool.false_and, Bool.true_and, Bool.or_false, Bool.false_or] at h18)
      have hk : k < p.length := by omega
      have hat := T.ahead_at hp hk
      refine Aw_skip ?_
      refine Aw_join (ι := Unit) [0, 4] [] (fun _ => [(3, .d (iv 1))]) (fun _ => []) (fun _ => True) ?_ ?_ -- join 0
      · refine Aw_block ?_
        refine Aw_seq ?_
        refine Aw_seq ?_
        refine Aw_region ?_
        refine Al_pu (Pu_move (.inl rfl) (by conv => lhs; whnf)) rfl rfl (by decide) (by kernel_rfl) ?_
        refine Al_pu (Pu_move (.inl rfl) (by conv => lhs; whnf)) rfl rfl (by decide) (by kernel_rfl) ?_
        refine Al_pu (Pu_index rfl Try.underlying22 Try.sizeOf3 rfl rfl (rfl) (mapget hk)) rfl rfl (by decide) (by kernel_rfl) ?_
        refine Al_pu (Pu_load1 rfl Try.isAgg3 rfl rfl) rfl rfl (by decide) (by kernel_rfl) ?_
        refine Al_pu (Pu_cmp rfl rfl rfl rfl) rfl rfl (by decide) (by kernel_rfl) ?_
        refine Al_pu (Pu_move (.inl rfl) (by conv => lhs; whnf)) rfl rfl (by decide) (by kernel_rfl) ?_
        refine Al_st (St_gd [] rfl rfl rfl rfl trivial (fun hg27 => by exact Pu_move (.inl rfl) (by conv => lhs; whnf))) rfl (by decide) (by kernel_rfl) (by intro j b oj dj h1 h2 h3; cases h1; cases h2; cases h3; decide) ?_
        refine Al_st (St_gd [] rfl rfl rfl rfl trivial (fun hg28 => by exact Pu_move (.inl rfl) (by conv => lhs; whnf))) rfl (by decide) (by kernel_rfl) (by intro j b oj dj h1 h2 h3; cases h1; cases h2; cases h3; decide) ?_
        refine Al_st (St_gd [27, 28] rfl rfl rfl rfl ⟨⟨_, rfl⟩, ⟨_, rfl⟩, trivial⟩ (fun hg29 => Pu_index rfl Try.underlying22 Try.sizeOf3 rfl rfl (rfl) (mapget hk))) rfl (by decide) (by kernel_rfl) (by intro j b oj dj h1 h2 h3; cases h1; cases h2; cases h3; decide) ?_
        refine Al_st (St_gd [29] rfl rfl rfl rfl ⟨⟨_, rfl⟩, trivial⟩ (fun hg30 => Pu_load1 rfl Try.isAgg3 rfl rfl)) rfl (by decide) (by kernel_rfl) (by intro j b oj dj h1 h2 h3; cases h1; cases h2; cases h3; decide) ?_
        refine Al_st (St_gd [] rfl rfl rfl rfl trivial (fun hg31 => by exact Pu_move (.inl rfl) (by conv => lhs; whnf))) rfl (by decide) (by kernel_rfl) (by intro j b oj dj h1 h2 h3; cases h1; cases h2; cases h3; decide) ?_
        refine Al_st (St_gd [31] rfl rfl rfl rfl ⟨⟨_, rfl⟩, trivial⟩ (fun hg32 => by exact Pu_len rfl Try.underlying22 rfl (by first | exact List.length_map .. | exact rfl))) rfl (by decide) (by kernel_rfl) (by intro j b oj dj h1 h2 h3; cases h1; cases h2; cases h3; decide) ?_
        refine Al_st (St_gd [30, 32] rfl rfl rfl rfl ⟨⟨_, rfl⟩, ⟨_, rfl⟩, trivial⟩ (fun hg33 => Pu_cmp rfl rfl rfl rfl)) rfl (by decide) (by kernel_rfl) (by intro j b oj dj h1 h2 h3; cases h1; cases h2; cases h3; decide) ?_
        refine Al_pu (Pu_or rfl rfl rfl rfl) rfl rfl (by decide) (by kernel_rfl) ?_
        refine Al_nil ?_
        refine Aw_cond rfl (fun h34 => ?_) (fun h34 => ?_)
        · skip
          exfalso
          simp only [Bool.or_eq_true, decide_eq_true_eq] at h34
          omega
        · skip
          refine Aw_skip ?_
          -- join 1: live [0, 3, 4], turned [3]
          refine Aw_seq ?_
          refine Aw_seq ?_
          refine Aw_region ?_
          refine Al_pu (Pu_move (.inl rfl) (by conv => lhs; whnf)) rfl rfl (by decide) (by kernel_rfl) ?_
          refine Al_pu (Pu_move (.inl rfl) (by conv => lhs; whnf)) rfl rfl (by decide) (by kernel_rfl) ?_
          refine Al_pu (Pu_index rfl Try.underlying22 Try.sizeOf3 rfl rfl (rfl) (mapget hk)) rfl rfl (by decide) (by kernel_rfl) ?_
          refine Al_pu (Pu_load1 rfl Try.isAgg3 rfl rfl) rfl rfl (by decide) (by kernel_rfl) ?_
          refine Al_pu (Pu_cmp rfl rfl rfl rfl) rfl rfl (by decide) (by kernel_rfl) ?_
          refine Al_nil ?_
          refine Aw_cond rfl (fun h39 => ?_) (fun h39 => ?_)
          · (try simp only [decide_eq_true_eq, decide_eq_false_iff_not, Bool.and_eq_true, Bool.or_eq_true, Bool.and_eq_false_iff, Bool.or_eq_false_iff, Bool.not_eq_true', Bool.not_eq_false', beq_iff_eq, Bool.not_eq_eq_eq_not, Bool.not_true, Bool.not_false, List.length_map, Bool.and_true, Bool.and_false, Bool.false_and, Bool.true_and, Bool.or_false, Bool.false_or] at h39)
            refine Aw_region ?_
            refine Al_pu (Pu_move (.inl rfl) (by conv => lhs; whnf)) rfl rfl (by decide) (by kernel_rfl) ?_
            refine Al_pu (Pu_add rfl rfl rfl (fun h1 h2 => by simp only [A.inI, A.maxI] at *; omega)) rfl rfl (by decide) (by kernel_rfl) ?_
            refine Al_pu (Pu_move (.inr rfl) (by conv => lhs; whnf)) rfl rfl (by decide) (by kernel_rfl) ?_
            refine Al_nil ?_
            refine Aw_seq ?_
            refine Aw_region ?_
            refine Al_pu (Pu_move (.inl rfl) (by conv => lhs; whnf)) rfl rfl (by decide) (by kernel_rfl) ?_
            refine Al_pu (Pu_move (.inr rfl) (by conv => lhs; whnf)) rfl rfl (by decide) (by kernel_rfl) ?_
            refine Al_nil ?_
            refine Aw_seq ?_
            refine Aw_seq ?_
            refine Aw_region ?_
            refine Al_pu (Pu_move (.inr rfl) (by conv => lhs; whnf)) rfl rfl (by decide) (by kernel_rfl) ?_
            refine Al_nil ?_
            refine Aw_block ?_
            refine Aw_loopk (ι := Nat × Int) [0, 3, 4] [] (fun (j, z) => [(6, .d (iv j)), (5, .d (iv z))]) (fun (j, z) => []) (fun (j, z) => j ≤ 7 ∧ (z = -1 ∨ (0 ≤ z ∧ z + j ≤ k))) (fun (j, z) => 7 - j) ((0, (k : Int))) (⟨Nat.zero_le _, .inr ⟨by omega, by simp⟩⟩) ⟨Sub.rfl, Sub.rfl, trivial⟩ trivial ?_
            rintro ⟨j, z⟩ ⟨hk1, hz⟩
            refine Aw_seq ?_
            refine Aw_seq ?_
            refine Aw_region ?_
            refine Al_pu (Pu_move (.inl rfl) (by conv => lhs; whnf)) rfl rfl (by decide) (by kernel_rfl) ?_
            refine Al_pu (Pu_cmp rfl rfl rfl rfl) rfl rfl (by decide) (by kernel_rfl) ?_
            refine Al_pu (Pu_move (.inl rfl) (by conv => lhs; whnf)) rfl rfl (by decide) (by kernel_rfl) ?_
            refine Al_st (St_gd [] rfl rfl rfl rfl trivial (fun hg46 => by exact Pu_move (.inl rfl) (by conv => lhs; whnf))) rfl (by decide) (by kernel_rfl) (by intro j b oj dj h1 h2 h3; cases h1; cases h2; cases h3; decide) ?_
            refine Al_st (St_gd [46] rfl rfl rfl rfl ⟨⟨_, rfl⟩, trivial⟩ (fun hg47 => Pu_cmp rfl rfl rfl rfl)) rfl (by decide) (by kernel_rfl) (by intro j b oj dj h1 h2 h3; cases h1; cases h2; cases h3; decide) ?_
            refine Al_pu (Pu_and rfl rfl rfl rfl) rfl rfl (by decide) (by kernel_rfl) ?_
            refine Al_nil ?_
            refine Aw_cond rfl (fun h48 => ?_) (fun h48 => ?_)
            · (try simp only [decide_eq_true_eq, decide_eq_false_iff_not, Bool.and_eq_true, Bool.or_eq_true, Bool.and_eq_false_iff, Bool.or_eq_false_iff, Bool.not_eq_true', Bool.not_eq_false', beq_iff_eq, Bool.not_eq_eq_eq_not, Bool.not_true, Bool.not_false, List.length_map, Bool.and_true, Bool.and_false, Bool.false_and, Bool.true_and, Bool.or_false, Bool.false_or] at h48)
              obtain ⟨h481, h482⟩ := h48
              obtain ⟨y, rfl⟩ : ∃ y : Nat, z = (y : Int) := ⟨z.toNat, by omega⟩
              have hy : y < p.length := by omega
              have hay := T.ahead_at hp hy
              refine Aw_skip ?_
              refine Aw_seq ?_
              refine Aw_block ?_
              refine Aw_seq ?_
              refine Aw_region ?_
              refine Al_pu (Pu_move (.inl rfl) (by conv => lhs; whnf)) rfl rfl (by decide) (by kernel_rfl) ?_
              refine Al_pu (Pu_move (.inl rfl) (by conv => lhs; whnf)) rfl rfl (by decide) (by kernel_rfl) ?_
              refine Al_pu (Pu_index rfl Try.underlying22 Try.sizeOf3 rfl rfl (rfl) (mapget hy)) rfl rfl (by decide) (by kernel_rfl) ?_
              refine Al_pu (Pu_load1 rfl Try.isAgg3 rfl rfl) rfl rfl (by decide) (by kernel_rfl) ?_
              refine Al_pu (Pu_move (.inr rfl) (by conv => lhs; whnf)) rfl rfl (by decide) (by kernel_rfl) ?_
              refine Al_nil ?_
              refine Aw_seq ?_
              refine Aw_region ?_
              refine Al_pu (Pu_move (.inl rfl) (by conv => lhs; whnf)) rfl rfl (by decide) (by kernel_rfl) ?_
              refine Al_pu (Pu_cmp rfl rfl rfl rfl) rfl rfl (by decide) (by kernel_rfl) ?_
              refine Al_pu (Pu_move (.inl rfl) (by conv => lhs; whnf)) rfl rfl (by decide) (by kernel_rfl) ?_
              refine Al_st (St_gd [] rfl rfl rfl rfl trivial (fun hg58 => by exact Pu_move (.inl rfl) (by conv => lhs; whnf))) rfl (by decide) (by kernel_rfl) (by intro j b oj dj h1 h2 h3; cases h1; cases h2; cases h3; decide) ?_
              refine Al_st (St_gd [] rfl rfl rfl rfl trivial (fun hg59 => by exact Pu_move (.inl rfl) (by conv => lhs; whnf))) rfl (by decide) (by kernel_rfl) (by intro j b oj dj h1 h2 h3; cases h1; cases h2; cases h3; decide) ?_
              refine Al_st (St_gd [59] rfl rfl rfl rfl ⟨⟨_, rfl⟩, trivial⟩ (fun hg60 => by exact Pu_len rfl Try.underlying22 rfl (by first | exact List.length_map .. | exact rfl))) rfl (by decide) (by kernel_rfl) (by intro j b oj dj h1 h2 h3; cases h1; cases h2; cases h3; decide) ?_
              refine Al_st (St_gd [58, 60] rfl rfl rfl rfl ⟨⟨_, rfl⟩, ⟨_, rfl⟩, trivial⟩ (fun hg61 => Pu_cmp rfl rfl rfl rfl)) rfl (by decide) (by kernel_rfl) (by intro j b oj dj h1 h2 h3; cases h1; cases h2; cases h3; decide) ?_
              refine Al_pu (Pu_or rfl rfl rfl rfl) rfl rfl (by decide) (by kernel_rfl) ?_
              refine Al_nil ?_
              refine Aw_cond rfl (fun h62 => ?_) (fun h62 => ?_)
              · skip
                exfalso
                simp only [Bool.or_eq_true, decide_eq_true_eq] at h62
                omega
              · skip
                refine Aw_skip ?_
                refine Aw_region ?_
                refine Al_pu (Pu_move (.inl rfl) (by conv => lhs; whnf)) rfl rfl (by decide) (by kernel_rfl) ?_
                refine Al_pu (Pu_add rfl rfl rfl (fun h1 h2 => by simp only [A.inI, A.maxI] at *; omega)) rfl rfl (by decide) (by kernel_rfl) ?_
                refine Al_pu (Pu_move (.inr rfl) (by conv => lhs; whnf)) rfl rfl (by decide) (by kernel_rfl) ?_
                refine Al_nil ?_
                exact ⟨(j + 1, p[y]), ⟨by omega, by omega⟩, by simp only []; omega, Le.ov ⟨Sub.num (by omega), Sub.rfl, trivial⟩ ⟨Sub.rfl, Sub.rfl, Sub.rfl, trivial⟩ trivial trivial⟩ -- loop 1 next.0
            · (try simp only [decide_eq_true_eq, decide_eq_false_iff_not, Bool.and_eq_true, Bool.or_eq_true, Bool.and_eq_false_iff, Bool.or_eq_false_iff, Bool.not_eq_true', Bool.not_eq_false', beq_iff_eq, Bool.not_eq_eq_eq_not, Bool.not_true, Bool.not_false, List.length_map, Bool.and_true, Bool.and_false, Bool.false_and, Bool.true_and, Bool.or_false, Bool.false_or] at h48)
              have hz1 : z = -1 := by omega
              refine Aw_exit ?_
              refine Aw_seq ?_
              refine Aw_region ?_
              refine Al_pu (Pu_move (.inl rfl) (by conv => lhs; whnf)) rfl rfl (by decide) (by kernel_rfl) ?_
              refine Al_pu (Pu_cmp rfl rfl rfl rfl) rfl rfl (by decide) (by kernel_rfl) ?_
              refine Al_nil ?_
              refine Aw_cond rfl (fun h64 => ?_) (fun h64 => ?_)
              · (try simp only [decide_eq_true_eq, decide_eq_false_iff_not, Bool.and_eq_true, Bool.or_eq_true, Bool.and_eq_false_iff, Bool.or_eq_false_iff, Bool.not_eq_true', Bool.not_eq_false', beq_iff_eq, Bool.not_eq_eq_eq_not, Bool.not_true, Bool.not_false, List.length_map, Bool.and_true, Bool.and_false, Bool.false_and, Bool.true_and, Bool.or_false, Bool.false_or] at h64)
                exfalso; simp [hz1] at h64
              · (try simp only [decide_eq_true_eq, decide_eq_false_iff_not, Bool.and_eq_true, Bool.or_eq_true, Bool.and_eq_false_iff, Bool.or_eq_false_iff, Bool.not_eq_true', Bool.not_eq_false', beq_iff_eq, Bool.not_eq_eq_eq_not, Bool.not_true, Bool.not_false, List.length_map, Bool.and_true, Bool.and_false, Bool.false_and, Bool.true_and, Bool.or_false, Bool.false_or] at h64)
                refine Aw_skip ?_
                exact ⟨(), trivial, Le.ov ⟨Sub.num (by rw [if_pos (by omega : k = 0)]; rfl), trivial⟩ ⟨Sub.rfl, Sub.rfl, trivial⟩ trivial trivial⟩ -- join 0 next.0
          · (try simp only [decide_eq_true_eq, decide_eq_false_iff_not, Bool.and_eq_true, Bool.or_eq_true, Bool.and_eq_false_iff, Bool.or_eq_false_iff, Bool.not_eq_true', Bool.not_eq_false', beq_iff_eq, Bool.not_eq_eq_eq_not, Bool.not_true, Bool.not_false, List.length_map, Bool.and_true, Bool.and_false, Bool.false_and, Bool.true_and, Bool.or_false, Bool.false_or] at h39)
            refine Aw_skip ?_
            refine Aw_seq ?_
            refine Aw_region ?_
            refine Al_pu (Pu_move (.inl rfl) (by conv => lhs; whnf)) rfl rfl (by decide) (by kernel_rfl) ?_
            refine Al_pu (Pu_move (.inr rfl) (by conv => lhs; whnf)) rfl rfl (by decide) (by kernel_rfl) ?_
            refine Al_nil ?_
            refine Aw_seq ?_
            refine Aw_seq ?_
            refine Aw_region ?_
            refine Al_pu (Pu_move (.inr rfl) (by conv => lhs; whnf)) rfl rfl (by decide) (by kernel_rfl) ?_
            refine Al_nil ?_
            refine Aw_block ?_
            refine Aw_loopk (ι := Nat × Int) [0, 3, 4] [] (fun (j, z) => [(6, .d (iv j)), (5, .d (iv z))]) (fun (j, z) => []) (fun (j, z) => j ≤ 7 ∧ (z = -1 ∨ (0 ≤ z ∧ z + j ≤ k))) (fun (j, z) => 7 - j) ((0, (k : Int))) (⟨Nat.zero_le _, .inr ⟨by omega, by simp⟩⟩) ⟨Sub.rfl, Sub.rfl, trivial⟩ trivial ?_
            rintro ⟨j, z⟩ ⟨hk1, hz⟩
            refine Aw_seq ?_
            refine Aw_seq ?_
            refine Aw_region ?_
            refine Al_pu (Pu_move (.inl rfl) (by conv => lhs; whnf)) rfl rfl (by decide) (by kernel_rfl) ?_
            refine Al_pu (Pu_cmp rfl rfl rfl rfl) rfl rfl (by decide) (by kernel_rfl) ?_
            refine Al_pu (Pu_move (.inl rfl) (by conv => lhs; whnf)) rfl rfl (by decide) (by kernel_rfl) ?_
            refine Al_st (St_gd [] rfl rfl rfl rfl trivial (fun hg46 => by exact Pu_move (.inl rfl) (by conv => lhs; whnf))) rfl (by decide) (by kernel_rfl) (by intro j b oj dj h1 h2 h3; cases h1; cases h2; cases h3; decide) ?_
            refine Al_st (St_gd [46] rfl rfl rfl rfl ⟨⟨_, rfl⟩, trivial⟩ (fun hg47 => Pu_cmp rfl rfl rfl rfl)) rfl (by decide) (by kernel_rfl) (by intro j b oj dj h1 h2 h3; cases h1; cases h2; cases h3; decide) ?_
            refine Al_pu (Pu_and rfl rfl rfl rfl) rfl rfl (by decide) (by kernel_rfl) ?_
            refine Al_nil ?_
            refine Aw_cond rfl (fun h48 => ?_) (fun h48 => ?_)
            · (try simp only [decide_eq_true_eq, decide_eq_false_iff_not, Bool.and_eq_true, Bool.or_eq_true, Bool.and_eq_false_iff, Bool.or_eq_false_iff, Bool.not_eq_true', Bool.not_eq_false', beq_iff_eq, Bool.not_eq_eq_eq_not, Bool.not_true, Bool.not_false, List.length_map, Bool.and_true, Bool.and_false, Bool.false_and, Bool.true_and, Bool.or_false, Bool.false_or] at h48)
              obtain ⟨h481, h482⟩ := h48
              obtain ⟨y, rfl⟩ : ∃ y : Nat, z = (y : Int) := ⟨z.toNat, by omega⟩
              have hy : y < p.length := by omega
              have hay := T.ahead_at hp hy
              refine Aw_skip ?_
              refine Aw_seq ?_
              refine Aw_block ?_
              refine Aw_seq ?_
              refine Aw_region ?_
              refine Al_pu (Pu_move (.inl rfl) (by conv => lhs; whnf)) rfl rfl (by decide) (by kernel_rfl) ?_
              refine Al_pu (Pu_move (.inl rfl) (by conv => lhs; whnf)) rfl rfl (by decide) (by kernel_rfl) ?_
              refine Al_pu (Pu_index rfl Try.underlying22 Try.sizeOf3 rfl rfl (rfl) (mapget hy)) rfl rfl (by decide) (by kernel_rfl) ?_
              refine Al_pu (Pu_load1 rfl Try.isAgg3 rfl rfl) rfl rfl (by decide) (by kernel_rfl) ?_
              refine Al_pu (Pu_move (.inr rfl) (by conv => lhs; whnf)) rfl rfl (by decide) (by kernel_rfl) ?_
              refine Al_nil ?_
              refine Aw_seq ?_
              refine Aw_region ?_
              refine Al_pu (Pu_move (.inl rfl) (by conv => lhs; whnf)) rfl rfl (by decide) (by kernel_rfl) ?_
              refine Al_pu (Pu_cmp rfl rfl rfl rfl) rfl rfl (by decide) (by kernel_rfl) ?_
              refine Al_pu (Pu_move (.inl rfl) (by conv => lhs; whnf)) rfl rfl (by decide) (by kernel_rfl) ?_
              refine Al_st (St_gd [] rfl rfl rfl rfl trivial (fun hg58 => by exact Pu_move (.inl rfl) (by conv => lhs; whnf))) rfl (by decide) (by kernel_rfl) (by intro j b oj dj h1 h2 h3; cases h1; cases h2; cases h3; decide) ?_
              refine Al_st (St_gd [] rfl rfl rfl rfl trivial (fun hg59 => by exact Pu_move (.inl rfl) (by conv => lhs; whnf))) rfl (by decide) (by kernel_rfl) (by intro j b oj dj h1 h2 h3; cases h1; cases h2; cases h3; decide) ?_
              refine Al_st (St_gd [59] rfl rfl rfl rfl ⟨⟨_, rfl⟩, trivial⟩ (fun hg60 => by exact Pu_len rfl Try.underlying22 rfl (by first | exact List.length_map .. | exact rfl))) rfl (by decide) (by kernel_rfl) (by intro j b oj dj h1 h2 h3; cases h1; cases h2; cases h3; decide) ?_
              refine Al_st (St_gd [58, 60] rfl rfl rfl rfl ⟨⟨_, rfl⟩, ⟨_, rfl⟩, trivial⟩ (fun hg61 => Pu_cmp rfl rfl rfl rfl)) rfl (by decide) (by kernel_rfl) (by intro j b oj dj h1 h2 h3; cases h1; cases h2; cases h3; decide) ?_
              refine Al_pu (Pu_or rfl rfl rfl rfl) rfl rfl (by decide) (by kernel_rfl) ?_
              refine Al_nil ?_
              refine Aw_cond rfl (fun h62 => ?_) (fun h62 => ?_)
              · skip
                exfalso
                simp only [Bool.or_eq_true, decide_eq_true_eq] at h62
                omega
              · skip
                refine Aw_skip ?_
                refine Aw_region ?_
                refine Al_pu (Pu_move (.inl rfl) (by conv => lhs; whnf)) rfl rfl (by decide) (by kernel_rfl) ?_
                refine Al_pu (Pu_add rfl rfl rfl (fun h1 h2 => by simp only [A.inI, A.maxI] at *; omega)) rfl rfl (by decide) (by kernel_rfl) ?_
                refine Al_pu (Pu_move (.inr rfl) (by conv => lhs; whnf)) rfl rfl (by decide) (by kernel_rfl) ?_
                refine Al_nil ?_
                exact ⟨(j + 1, p[y]), ⟨by omega, by omega⟩, by simp only []; omega, Le.ov ⟨Sub.num (by omega), Sub.rfl, trivial⟩ ⟨Sub.rfl, Sub.rfl, Sub.rfl, trivial⟩ trivial trivial⟩ -- loop 1 next.0
            · (try simp only [decide_eq_true_eq, decide_eq_false_iff_not, Bool.and_eq_true, Bool.or_eq_true, Bool.and_eq_false_iff, Bool.or_eq_false_iff, Bool.not_eq_true', Bool.not_eq_false', beq_iff_eq, Bool.not_eq_eq_eq_not, Bool.not_true, Bool.not_false, List.length_map, Bool.and_true, Bool.and_false, Bool.false_and, Bool.true_and, Bool.or_false, Bool.false_or] at h48)
              have hz1 : z = -1 := by omega
              refine Aw_exit ?_
              refine Aw_seq ?_
              refine Aw_region ?_
              refine Al_pu (Pu_move (.inl rfl) (by conv => lhs; whnf)) rfl rfl (by decide) (by kernel_rfl) ?_
              refine Al_pu (Pu_cmp rfl rfl rfl rfl) rfl rfl (by decide) (by kernel_rfl) ?_
              refine Al_nil ?_
              refine Aw_cond rfl (fun h64 => ?_) (fun h64 => ?_)
              · (try simp only [decide_eq_true_eq, decide_eq_false_iff_not, Bool.and_eq_true, Bool.or_eq_true, Bool.and_eq_false_iff, Bool.or_eq_false_iff, Bool.not_eq_true', Bool.not_eq_false', beq_iff_eq, Bool.not_eq_eq_eq_not, Bool.not_true, Bool.not_false, List.length_map, Bool.and_true, Bool.and_false, Bool.false_and, Bool.true_and, Bool.or_false, Bool.false_or] at h64)
                exfalso; simp [hz1] at h64
              · (try simp only [decide_eq_true_eq, decide_eq_false_iff_not, Bool.and_eq_true, Bool.or_eq_true, Bool.and_eq_false_iff, Bool.or_eq_false_iff, Bool.not_eq_true', Bool.not_eq_false', beq_iff_eq, Bool.not_eq_eq_eq_not, Bool.not_true, Bool.not_false, List.length_map, Bool.and_true, Bool.and_false, Bool.false_and, Bool.true_and, Bool.or_false, Bool.false_or] at h64)
                refine Aw_skip ?_
                exact ⟨(), trivial, Le.ov ⟨Sub.num (by rw [if_neg (by omega : ¬ k = 0)]), trivial⟩ ⟨Sub.rfl, Sub.rfl, trivial⟩ trivial trivial⟩ -- join 0 next.1
      · rintro _ hj0
        refine Aw_region ?_
        refine Al_pu (Pu_move (.inl rfl) (by conv => lhs; whnf)) rfl rfl (by decide) (by kernel_rfl) ?_
        refine Al_pu (Pu_add rfl rfl rfl (fun h1 h2 => by simp only [A.inI, A.maxI] at *; omega)) rfl rfl (by decide) (by kernel_rfl) ?_
        refine Al_pu (Pu_move (.inr rfl) (by conv => lhs; whnf)) rfl rfl (by decide) (by kernel_rfl) ?_
        refine Al_nil ?_
        exact ⟨k + 1, by omega, by omega, Le.ov ⟨Sub.num (by omega), Sub.num (by rw [if_neg (by omega)]), trivial⟩ ⟨Sub.rfl, trivial⟩ trivial trivial⟩ -- loop 0 next.0
    · (try simp only [decide_eq_true_eq, decide_eq_false_iff_not, Bool.and_eq_true, Bool.or_eq_true, Bool.and_eq_false_iff, Bool.or_eq_false_iff, Bool.not_eq_true', Bool.not_eq_false', beq_iff_eq, Bool.not_eq_eq_eq_not, Bool.not_true, Bool.not_false, List.length_map, Bool.and_true, Bool.and_false, Bool.false_and, Bool.true_and, Bool.or_false, Bool.false_or] at h18)
      have hkk : ¬ k = 0 := by omega
      rw [if_neg hkk]
      refine Aw_exit ?_
      refine Aw_seq ?_
      refine Aw_region ?_
      refine Al_pu (Pu_move (.inl rfl) (by conv => lhs; whnf)) rfl rfl (by decide) (by kernel_rfl) ?_
      refine Al_pu (Pu_cmp rfl rfl rfl rfl) rfl rfl (by decide) (by kernel_rfl) ?_
      refine Al_pu (Pu_move (.inr rfl) (by conv => lhs; whnf)) rfl rfl (by decide) (by kernel_rfl) ?_
      refine Al_nil ?_
      refine Aw_ret ?_
      exact Sub.bool (by simp) -- ret 0
end Go.Proofs.Ytfalbocgnmlncaa
