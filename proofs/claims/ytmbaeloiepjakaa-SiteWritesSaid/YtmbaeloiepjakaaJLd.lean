
/- Law 13: ShardOrder. -/
import Derived.Test.YtmbaeloiepjakaaJLb
set_option linter.unusedSimpArgs false
set_option linter.unusedVariables false
namespace Go.Proofs.Ytmbaeloiepjakaa
open Go.RowKit A R
open A.RowT
namespace J
theorem byte_ok : ∀ z : Nat, z < 8 → K.checkB (byte1 (97 + 3 * (z : Int))) = true := by decide +kernel
theorem word_ok (n : Int) : K.checkB (word n) = true := by
  have h7 : 0 ≤ andI n 7 ∧ andI n 7 ≤ 7 := andI_le n 7 (by decide)
  have := byte_ok (andI n 7).toNat (by omega)
  rw [show (((andI n 7).toNat : Nat) : Int) = andI n 7 from by omega] at this
  exact this
theorem less_asymm {a b c d : Int} (h : D.lessB a b c d = true) : D.lessB c d a b = false := by
  unfold D.lessB at h ⊢
  split at h <;> split <;> simp_all <;> omega
theorem less_ne {a b c d : Int} (h : D.lessB a b c d = true) : ((c == a) && (d == b)) = false := by
  unfold D.lessB at h
  split at h
  · rename_i e
    simp at h
    rw [Bool.and_eq_false_iff]
    right
    simp; omega
  · rename_i e
    rw [Bool.and_eq_false_iff]
    left
    simp; omega
/-- A shard that has just some versions, in their order. -/
structure Cont (cs : SC) (L : List Ver) : Prop where
  rise : RiseC cs
  at' : ∀ c, look cs c = if L.filter (fun v => decide (v.key = c)) = [] then none else some (L.filter fun v => decide (v.key = c))
theorem cont_nil : Cont [] [] := ⟨rise_nil, fun c => rfl⟩
theorem Cont.get {cs : SC} {L : List Ver} (h : Cont cs L) (c : ByteArray) : getC cs c = L.filter fun v => decide (v.key = c) := by
  unfold getC
  rw [h.at' c]
  split
  · rename_i e; rw [e]; rfl
  · rfl
theorem cont_of {cs : SC} {L L' : List Ver} {v : Ver} {M' : List Ver} (h : Cont cs L) (hp : put (getC cs v.key) v = some M') (hM : L'.filter (fun x => decide (x.key = v.key)) = M') (ho : ∀ c, c ≠ v.key → L'.filter (fun x => decide (x.key = c)) = L.filter (fun x => decide (x.key = c))) : (sput (ranges 0) cs v).2 = true ∧ Cont (sput (ranges 0) cs v).1 L' := by
  have e : sput (ranges 0) cs v = (setC cs v.key M', true) := by
    unfold sput
    rw [if_neg (findR_all _), hp]
  rw [e]
  refine ⟨rfl, rise_set _ _ _ h.rise, fun c => ?_⟩
  rw [look_set _ _ _ _ h.rise]
  by_cases hc : c = v.key
  · rw [if_pos hc, hc, hM, if_neg]
    intro e2
    have := put_len hp
    rw [e2] at this
    simp at this
  · rw [if_neg hc, ho c hc]
    exact h.at' c
theorem cont_append {cs : SC} {L : List Ver} {v : Ver} (h : Cont cs L) (hv : checkB v = true) (hl : ∀ x ∈ L, D.lessB x.n x.s v.n v.s = true) : (sput (ranges 0) cs v).2 = true ∧ Cont (sput (ranges 0) cs v).1 (L ++ [v]) := by
  have hM := h.get v.key
  have hin : ∀ x ∈ getC cs v.key, x ∈ L ∧ x.key = v.key := fun x hx => by
    rw [hM] at hx
    obtain ⟨h1, h2⟩ := List.mem_filter.1 hx
    exact ⟨h1, by simpa using h2⟩
  have hf : frm (getC cs v.key) v.n v.s = (getC cs v.key).length := by
    unfold frm
    rw [List.findIdx_eq_length]
    intro x hx
    unfold notB
    rw [hl x (hin x hx).1]; rfl
  refine cont_of h (M' := getC cs v.key ++ [v]) ?_ ?_ fun c hc => ?_
  · unfold put
    rw [if_pos, hf, List.take_length, List.drop_length]
    refine ⟨hv, fun x hx => ?_, fun x hx => ?_⟩
    · rw [(hin x (List.mem_of_getElem? hx)).2]
    · rw [hf, List.getElem?_eq_none (Nat.le_refl _)] at hx; cases hx
  · rw [List.filter_append, hM]; simp
  · rw [List.filter_append]
    simp [Ne.symm hc]
theorem cont_cons {cs : SC} {L : List Ver} {v : Ver} (h : Cont cs L) (hv : checkB v = true) (hl : ∀ x ∈ L, D.lessB v.n v.s x.n x.s = true) : (sput (ranges 0) cs v).2 = true ∧ Cont (sput (ranges 0) cs v).1 (v :: L) := by
  have hM := h.get v.key
  have hin : ∀ x ∈ getC cs v.key, x ∈ L ∧ x.key = v.key := fun x hx => by
    rw [hM] at hx
    obtain ⟨h1, h2⟩ := List.mem_filter.1 hx
    exact ⟨h1, by simpa using h2⟩
  have hf : frm (getC cs v.key) v.n v.s = 0 := by
    unfold frm
    cases hg : getC cs v.key with
    | nil => rfl
    | cons x r =>
      have := hl x (hin x (by rw [hg]; exact List.mem_cons_self ..)).1
      rw [List.findIdx_cons]
      unfold notB
      rw [less_asymm this]; rfl
  refine cont_of h (M' := v :: getC cs v.key) ?_ ?_ fun c hc => ?_
  · unfold put
    rw [if_pos, hf]
    · rfl
    refine ⟨hv, fun x hx => ?_, fun x hx => ?_⟩
    · rw [(hin x (List.mem_of_getElem? hx)).2]
    · rw [hf] at hx
      have := hl x (hin x (List.mem_of_getElem? hx)).1
      exact less_ne this
  · rw [List.filter_cons, hM]; simp
  · rw [List.filter_cons]
    simp [Ne.symm hc]
theorem rise_uniq : ∀ (l m : List ByteArray), Rise l → Rise m → (∀ x, x ∈ l ↔ x ∈ m) → l = m
  | [], [], _, _, _ => rfl
  | [], y :: m, _, _, h => by have := (h y).2 (List.mem_cons_self ..); cases this
  | x :: l, [], _, _, h => by have := (h x).1 (List.mem_cons_self ..); cases this
  | x :: l, y :: m, hl, hm, h => by
    have cl := List.pairwise_cons.1 hl
    have cm := List.pairwise_cons.1 hm
    have e : x = y := by
      rcases List.mem_cons.1 ((h x).1 (List.mem_cons_self ..)) with e | hx
      · exact e
      · rcases List.mem_cons.1 ((h y).2 (List.mem_cons_self ..)) with e | hy
        · exact e.symm
        · have h1 := cm.1 x hx
          have h2 := cl.1 y hy
          have := K.bl_trans _ _ _ h1 h2
          rw [K.bl_irrefl] at this; cases this
    subst e
    have hx : x ∉ l := fun hx => by have := cl.1 x hx; rw [K.bl_irrefl] at this; cases this
    have hy : x ∉ m := fun hx => by have := cm.1 x hx; rw [K.bl_irrefl] at this; cases this
    congr 1
    refine rise_uniq l m cl.2 cm.2 fun z => ?_
    constructor
    · intro hz
      rcases List.mem_cons.1 ((h z).1 (List.mem_cons_of_mem _ hz)) with rfl | h2
      · exact (hx hz).elim
      · exact h2
    · intro hz
      rcases List.mem_cons.1 ((h z).2 (List.mem_cons_of_mem _ hz)) with rfl | h2
      · exact (hy hz).elim
      · exact h2
theorem cs_of (cs : SC) (h : RiseC cs) : cs = (cs.map (·.1)).map fun k => (k, getC cs k) := by
  rw [List.map_map]
  conv => lhs; rw [← List.map_id cs]
  refine List.map_congr_left fun p hp => ?_
  show p = (p.1, getC cs p.1)
  unfold getC
  rw [look_mem h hp]; rfl
theorem look_ext {cs ds : SC} (h : RiseC cs) (h2 : RiseC ds) (he : ∀ c, look cs c = look ds c) : cs = ds := by
  have hk : cs.map (·.1) = ds.map (·.1) := rise_uniq _ _ h h2 fun x => by rw [← look_keys h, ← look_keys h2, he x]
  rw [cs_of cs h, cs_of ds h2, hk]
  refine List.map_congr_left fun k _ => ?_
  unfold getC; rw [he k]
theorem cont_ext {cs ds : SC} {L : List Ver} (h : Cont cs L) (h2 : Cont ds L) : cs = ds := look_ext h.rise h2.rise fun c => by rw [h.at' c, h2.at' c]
/-- The version of a number. -/
def vO (l : List Int) (i : Nat) : Ver := ⟨word (l.getD i 0), ⟨#[]⟩, false, 1 + (i : Int), 0, []⟩
theorem vO_ok (l : List Int) {i : Nat} (h : i < 1000) : checkB (vO l i) = true := by
  unfold checkB vO
  have h1 : V.stampB (1 + (i : Int)) 0 = true := by rw [V.stampB_iff]; omega
  simp only [word_ok, h1, Bool.true_and]
  rfl
theorem vO_less (l : List Int) {i j : Nat} (h : i < j) : D.lessB (vO l i).n (vO l i).s (vO l j).n (vO l j).s = true := by
  unfold vO D.lessB
  simp only
  rw [if_neg (by omega)]
  simp; omega
def ordA (l : List Int) (k : Nat) : SC := runV ((List.range k).map (vO l))
def ordB (l : List Int) (n k : Nat) : SC := runV ((List.range k).map fun i => vO l (n - 1 - i))
theorem ordA_succ (l : List Int) (k : Nat) : ordA l (k + 1) = (sput (ranges 0) (ordA l k) (vO l k)).1 := by
  unfold ordA
  rw [List.range_succ, List.map_append]
  exact runV_snoc _ _
theorem ordB_succ (l : List Int) (n k : Nat) : ordB l n (k + 1) = (sput (ranges 0) (ordB l n k) (vO l (n - 1 - k))).1 := by
  unfold ordB
  rw [List.range_succ, List.map_append]
  exact runV_snoc _ _
theorem ordA_ok (l : List Int) : ∀ k, k ≤ 20 → Cont (ordA l k) ((List.range k).map (vO l)) ∧ (k < 20 → (sput (ranges 0) (ordA l k) (vO l k)).2 = true)
  | 0, _ => ⟨cont_nil, fun _ => (cont_append cont_nil (vO_ok l (by omega)) (fun x hx => by cases hx)).1⟩
  | k + 1, hk => by
    have ih := ordA_ok l k (by omega)
    have hstep : ∀ j, j ≤ 20 → Cont (ordA l j) ((List.range j).map (vO l)) → (sput (ranges 0) (ordA l j) (vO l j)).2 = true ∧ Cont (sput (ranges 0) (ordA l j) (vO l j)).1 ((List.range j).map (vO l) ++ [vO l j]) := fun j hj hc => cont_append hc (vO_ok l (by omega)) fun x hx => by
      obtain ⟨i, hi, rfl⟩ := List.mem_map.1 hx
      exact vO_less l (List.mem_range.1 hi)
    have h1 : Cont (ordA l (k + 1)) ((List.range (k + 1)).map (vO l)) := by
      rw [ordA_succ, List.range_succ, List.map_append]
      exact (hstep k (by omega) ih.1).2
    exact ⟨h1, fun _ => (hstep (k + 1) hk h1).1⟩
theorem ordB_ok (l : List Int) (n : Nat) (hn : n ≤ 20) : ∀ k, k ≤ n → Cont (ordB l n k) ((List.range' (n - k) k).map (vO l)) ∧ (k < n → (sput (ranges 0) (ordB l n k) (vO l (n - 1 - k))).2 = true)
  | 0, _ => ⟨cont_nil, fun _ => (cont_append cont_nil (vO_ok l (by omega)) (fun x hx => by cases hx)).1⟩
  | k + 1, hk => by
    have ih := ordB_ok l n hn k (by omega)
    have hstep : ∀ j, j < n → Cont (ordB l n j) ((List.range' (n - j) j).map (vO l)) → (sput (ranges 0) (ordB l n j) (vO l (n - 1 - j))).2 = true ∧ Cont (sput (ranges 0) (ordB l n j) (vO l (n - 1 - j))).1 (vO l (n - 1 - j) :: (List.range' (n - j) j).map (vO l)) := fun j hj hc => cont_cons hc (vO_ok l (by omega)) fun x hx => by
      obtain ⟨i, hi, rfl⟩ := List.mem_map.1 hx
      have := List.mem_range'_1.1 hi
      exact vO_less l (by omega)
    have h1 : Cont (ordB l n (k + 1)) ((List.range' (n - (k + 1)) (k + 1)).map (vO l)) := by
      rw [ordB_succ, List.range'_succ, List.map_cons, show n - (k + 1) + 1 = n - k from by omega, show n - (k + 1) = n - 1 - k from by omega]
      exact (hstep k (by omega) ih.1).2
    exact ⟨h1, fun h => (hstep (k + 1) h h1).1⟩
theorem ord_same (l : List Int) (n : Nat) (hn : n ≤ 20) : ordB l n n = ordA l n := by
  have h1 := (ordB_ok l n hn n (Nat.le_refl _)).1
  rw [Nat.sub_self, ← List.range_eq_range'] at h1
  exact cont_ext h1 (ordA_ok l n hn).1
theorem ordA_sm (l : List Int) (k : Nat) : RiseC (ordA l k) ∧ Sm k (ordA l k) := by
  have := runV_ok ((List.range k).map (vO l))
  rw [List.length_map, List.length_range] at this
  exact this
theorem ordB_sm (l : List Int) (n k : Nat) : RiseC (ordB l n k) ∧ Sm k (ordB l n k) := by
  have := runV_ok ((List.range k).map fun i => vO l (n - 1 - i))
  rw [List.length_map, List.length_range] at this
  exact this
end J
end Go.Proofs.Ytmbaeloiepjakaa
