/- graph: the reference's words, plain. -/
/- graph: the reference's walks. -/
/- graph: the reference's further walks. -/
/- graph: the reference's Seen and Fine; awake, tells. -/
import Derived.Test.YtgoncpjgpkoacaaGGa
import Derived.Test.YtgoncpjgpkoacaaSSame
set_option linter.unusedSimpArgs false
set_option linter.unusedVariables false
namespace Go.Proofs.Ytgoncpjgpkoacaa
open Go.RowKit A R
namespace G
/-- Is no event of a client between? -/
def btw (l : List Event) (c : Int) (i : Nat) : Nat → Bool
  | 0 => true
  | k + 1 => if i < k ∧ (l.getD k default).client = c then false else btw l c i k
theorem btw_iff (l : List Event) (c : Int) (i : Nat) : ∀ (k : Nat), btw l c i k = true ↔ ∀ x, i < x → x < k → (l.getD x default).client ≠ c
  | 0 => ⟨fun _ x _ h => absurd h (by omega), fun _ => rfl⟩
  | k + 1 => by
    rw [btw]
    split
    · rename_i h
      exact ⟨fun e => (by cases e), fun e => absurd h.2 (e k h.1 (by omega))⟩
    · rename_i h
      rw [btw_iff l c i k]
      constructor
      · intro e x h1 h2
        by_cases hx : x = k
        · subst hx; exact fun hc => h ⟨h1, hc⟩
        · exact e x h1 (by omega)
      · intro e x h1 h2
        exact e x h1 (by omega)
theorem btw_first (l : List Event) (c : Int) (i : Nat) : btw l c i (i + 1) = true := (btw_iff l c i (i + 1)).2 fun x h1 h2 => by omega
theorem last_iff (l : List Event) (c : Int) {i j : Nat} (hij : i < j) (hj : j ≤ l.length) : last l j c = some i ↔ (l.getD i default).client = c ∧ btw l c i j = true := by
  have hg : ∀ x, ∀ hx : x < l.length, l.getD x default = l[x] := fun x hx => by simp [hx]
  rw [btw_iff]
  constructor
  · intro h
    obtain ⟨h1, hi, h2, h3⟩ := last_lt h
    exact ⟨by rw [hg i hi]; exact h2, fun x h4 h5 => by rw [hg x (by omega)]; exact h3 x (by omega) h4 h5⟩
  · rintro ⟨h1, h2⟩
    cases h : last l j c with
    | none => exact absurd h1 (by rw [hg i (by omega)]; exact last_none h i (by omega) hij)
    | some y =>
      obtain ⟨h3, hy, h4, h5⟩ := last_lt h
      rcases Nat.lt_trichotomy i y with h6 | h6 | h6
      · exact absurd (by rw [hg y hy]; exact h4) (h2 y h6 h3)
      · rw [h6]
      · exact absurd (by rw [← hg i (by omega)]; exact h1) (h5 i (by omega) h6 hij)
theorem wr_isW (e w : Event) : isW (keyE e) w = wrB e w := by
  unfold isW wrB keyE
  rw [str_eqB, Bool.eq_iff_iff]
  simp only [Bool.and_eq_true, decide_eq_true_eq, Prod.mk.injEq, beq_iff_eq, and_assoc]
/-- One of two ways to be directly ahead. -/
theorem dirB_eq (l : List Event) {i j : Nat} (hij : i < j) (hj : j < l.length) : dirB l j i = ((decide ((l.getD i default).client = (l.getD j default).client) && btw l (l.getD j default).client i j) || (decide ((l.getD j default).kind = 2) && !((l.getD j default).n == 0 && (l.getD j default).s == 0) && decide (first l l.length (keyE (l.getD j default)) = some i))) := by
  unfold dirB
  congr 1
  rw [Bool.eq_iff_iff, decide_eq_true_eq, last_iff l _ hij (by omega)]
  simp
/-! ### edges -/
theorem edges_mem {l : List Event} {p : Nat × Nat} : p ∈ edges l ↔ p.2 < l.length ∧ p.1 ∈ dirN l p.2 := by
  unfold edges edgesTo edgesAt
  rw [List.mem_flatMap]
  constructor
  · rintro ⟨j, h1, h2⟩
    obtain ⟨i, h3, rfl⟩ := List.mem_map.1 h2
    exact ⟨List.mem_range.1 h1, h3⟩
  · rintro ⟨h1, h2⟩
    exact ⟨p.2, List.mem_range.2 h1, List.mem_map.2 ⟨p.1, h2, rfl⟩⟩
theorem edgesTo_srt (l : List Event) : ∀ (k : Nat), (edgesTo l k).Pairwise (fun p q => p.2 ≤ q.2) ∧ ∀ p ∈ edgesTo l k, p.2 < k
  | 0 => ⟨.nil, fun p hp => by cases hp⟩
  | k + 1 => by
    obtain ⟨h1, h2⟩ := edgesTo_srt l k
    rw [edgesTo_succ]
    have h3 : ∀ p ∈ edgesAt l k, p.2 = k := fun p hp => by
      obtain ⟨i, _, rfl⟩ := List.mem_map.1 hp; rfl
    refine ⟨List.pairwise_append.2 ⟨h1, ?_, fun p hp q hq => ?_⟩, fun p hp => ?_⟩
    · refine List.pairwise_iff_forall_sublist.2 fun {p q} h => ?_
      have hp := h3 p (h.subset (by simp))
      have hq := h3 q (h.subset (by simp))
      omega
    · have := h2 p hp; have := h3 q hq; omega
    · rcases List.mem_append.1 hp with hp | hp
      · have := h2 p hp; omega
      · have := h3 p hp; omega
theorem edges_srt (l : List Event) : (edges l).Pairwise (fun p q => p.2 ≤ q.2) := (edgesTo_srt l l.length).1
theorem edges_len (l : List Event) : (edges l).length ≤ 2 * l.length := edgesTo_len l l.length
/-- What the reverse scan has marked. -/
def mk (l : List Event) (i k x : Nat) : Bool := ((edges l).drop k).any fun p => decide (p.1 = x) && (decide (p.2 = i) || ah l i p.2)
theorem mk_step (l : List Event) (i x : Nat) {k : Nat} (hk : k < (edges l).length) : mk l i k x = ((decide (((edges l)[k]).1 = x) && (decide (((edges l)[k]).2 = i) || ah l i ((edges l)[k]).2)) || mk l i (k + 1) x) := by
  unfold mk
  rw [List.drop_eq_getElem_cons hk, List.any_cons]
theorem mk_end (l : List Event) (i x : Nat) : mk l i (edges l).length x = false := by unfold mk; rw [List.drop_length]; rfl
theorem mk_all (l : List Event) {i : Nat} (hi : i < l.length) (x : Nat) : mk l i 0 x = ah l i x := by
  unfold mk
  rw [List.drop_zero, Bool.eq_iff_iff, List.any_eq_true, ah_back]
  constructor
  · rintro ⟨p, h1, h2⟩
    simp only [Bool.and_eq_true, Bool.or_eq_true, decide_eq_true_eq] at h2
    obtain ⟨rfl, h2⟩ := h2
    exact ⟨p.2, (edges_mem.1 h1).2, h2⟩
  · rintro ⟨j, h1, h2⟩
    have hj : j < l.length := by
      rcases h2 with rfl | h2
      · exact hi
      · have := ah_lt h2; omega
    exact ⟨(x, j), edges_mem.2 ⟨hj, h1⟩, by simpa using h2⟩
theorem mk_at (l : List Event) {i : Nat} (hi : i < l.length) {k : Nat} (hk : k < (edges l).length) : mk l i (k + 1) ((edges l)[k]).2 = ah l i ((edges l)[k]).2 := by
  rw [← mk_all l hi ((edges l)[k]).2]
  have go : ∀ m, m ≤ k + 1 → mk l i (k + 1) ((edges l)[k]).2 = mk l i (k + 1 - m) ((edges l)[k]).2 := by
    intro m
    induction m with
    | zero => intro _; rfl
    | succ m ih =>
      intro hm
      rw [ih (by omega)]
      have hlt : k + 1 - (m + 1) < (edges l).length := by omega
      rw [mk_step l i _ hlt, show k + 1 - (m + 1) + 1 = k + 1 - m from by omega]
      have hne : ((edges l)[k + 1 - (m + 1)]).1 ≠ ((edges l)[k]).2 := by
        have h1 := (edges_mem.1 (List.getElem_mem hlt)).2
        have h2 := dirN_lt h1
        have h3 : ((edges l)[k + 1 - (m + 1)]).2 ≤ ((edges l)[k]).2 := by
          by_cases e : k + 1 - (m + 1) = k
          · simp only [e]; exact Nat.le_refl _
          · exact List.pairwise_iff_getElem.1 (edges_srt l) _ _ hlt hk (by omega)
        omega
      rw [decide_eq_false hne]; simp
  have := go (k + 1) (Nat.le_refl _)
  rw [Nat.sub_self] at this
  exact this
def marks (l : List Event) (i k : Nat) : List Bool := (List.range l.length).map (mk l i k)
theorem marks_len (l : List Event) (i k : Nat) : (marks l i k).length = l.length := by simp [marks]
theorem marks_at (l : List Event) (i k : Nat) {x : Nat} (hx : x < l.length) : (marks l i k)[x]? = some (mk l i k x) := by
  unfold marks
  rw [List.getElem?_map, List.getElem?_range hx]; rfl
theorem marks_set (l : List Event) {i k : Nat} (hk : k < (edges l).length) (h : (decide (((edges l)[k]).2 = i) || ah l i ((edges l)[k]).2) = true) : (marks l i (k + 1)).set ((edges l)[k]).1 true = marks l i k := by
  apply List.ext_getElem?
  intro x
  rcases Nat.lt_or_ge x l.length with hx | hx
  · rw [marks_at l i k hx, mk_step l i x hk, h]
    by_cases e : ((edges l)[k]).1 = x
    · rw [e, List.getElem?_set_self (by rw [marks_len]; exact hx), decide_eq_true rfl]; rfl
    · rw [List.getElem?_set_ne e, marks_at l i (k + 1) hx, decide_eq_false e]; simp
  · rw [List.getElem?_eq_none (by rw [List.length_set, marks_len]; exact hx), List.getElem?_eq_none (by rw [marks_len]; exact hx)]
theorem marks_same (l : List Event) {i k : Nat} (hk : k < (edges l).length) (h : (decide (((edges l)[k]).2 = i) || ah l i ((edges l)[k]).2) = false) : marks l i (k + 1) = marks l i k := by
  unfold marks
  apply List.map_congr_left
  intro x _
  rw [mk_step l i x hk, h]; simp
theorem marks_end (l : List Event) (i : Nat) : marks l i (edges l).length = List.replicate l.length false := by
  unfold marks
  apply List.ext_getElem?
  intro x
  rw [List.getElem?_map, List.getElem?_replicate]
  rcases Nat.lt_or_ge x l.length with hx | hx
  · rw [List.getElem?_range hx, if_pos hx]; simp [mk_end]
  · rw [List.getElem?_eq_none (by simpa using hx), if_neg (by omega)]; rfl
/-! ### depths, by all edges -/
def depQ (ds : List Nat) (j : Nat) (n : Nat) (p : Nat × Nat) : Nat := if p.2 = j ∧ n < ds.getD p.1 0 + 1 then ds.getD p.1 0 + 1 else n
def depE2 (l : List Event) (ds : List Nat) (j k : Nat) : Nat := ((edges l).take k).foldl (depQ ds j) 1
theorem depE2_succ (l : List Event) (ds : List Nat) (j : Nat) {k : Nat} (hk : k < (edges l).length) : depE2 l ds j (k + 1) = depQ ds j (depE2 l ds j k) (edges l)[k] := by
  unfold depE2
  rw [List.take_succ_eq_append_getElem hk, List.foldl_append]; rfl
theorem foldQ_no (ds : List Nat) (j : Nat) : ∀ (ps : List (Nat × Nat)) (n : Nat), (∀ p ∈ ps, p.2 ≠ j) → ps.foldl (depQ ds j) n = n
  | [], _, _ => rfl
  | p :: ps, n, h => by
    rw [List.foldl_cons, foldQ_no ds j ps _ fun q hq => h q (by simp [hq]), depQ, if_neg fun e => h p (by simp) e.1]
theorem foldQ_at (ds : List Nat) (j : Nat) : ∀ (ks : List Nat) (n : Nat), (ks.map fun i => (i, j)).foldl (depQ ds j) n = ks.foldl (depS ds) n
  | [], _ => rfl
  | k :: ks, n => by
    rw [List.map_cons, List.foldl_cons, List.foldl_cons, foldQ_at ds j ks]
    congr 1
    unfold depQ depS
    simp only [true_and]
    split <;> omega
theorem depE2_all (l : List Event) (ds : List Nat) {j : Nat} (hj : j < l.length) : depE2 l ds j (edges l).length = depAt l ds j (dirN l j).length := by
  have h : ∀ k, j < k → (edgesTo l k).foldl (depQ ds j) 1 = (dirN l j).foldl (depS ds) 1 := by
    intro k
    induction k with
    | zero => omega
    | succ k ih =>
      intro hk
      rw [edgesTo_succ, List.foldl_append]
      by_cases e : j = k
      · subst e
        rw [foldQ_no ds j (edgesTo l j) 1 fun p hp => by have := (edgesTo_srt l j).2 p hp; omega]
        exact foldQ_at ds j (dirN l j) 1
      · rw [ih (by omega)]
        exact foldQ_no ds j _ _ fun p hp => by
          obtain ⟨i, _, rfl⟩ := List.mem_map.1 hp
          exact fun h => e h.symm
  unfold depE2 depAt
  rw [List.take_length, List.take_length]
  exact h l.length hj
theorem depE2_le (l : List Event) (ds : List Nat) (j : Nat) (B : Nat) (hB : 1 ≤ B) (h : ∀ i, i < j → ds.getD i 0 + 1 ≤ B) : ∀ (k : Nat), k ≤ (edges l).length → depE2 l ds j k ≤ B
  | 0, _ => by simpa [depE2] using hB
  | k + 1, hk => by
    have hlt : k < (edges l).length := by omega
    rw [depE2_succ l ds j hlt]
    have h1 := depE2_le l ds j B hB h k (by omega)
    unfold depQ
    split
    · rename_i hc
      have h2 := dirN_lt (edges_mem.1 (List.getElem_mem hlt)).2
      exact h _ (by omega)
    · exact h1
end G
end Go.Proofs.Ytgoncpjgpkoacaa

set_option linter.unusedSimpArgs false
set_option linter.unusedVariables false
namespace Go.Proofs.Ytgoncpjgpkoacaa
open Go.RowKit A R
open A.RowT
namespace G
theorem first_hit {l : List Event} {k : Nat} {v : VK} (hk : k < l.length) (h : first l k v = none) (hw : isW v l[k] = true) : first l l.length v = some k := by
  unfold first at *
  rw [List.take_length, List.findIdx?_eq_some_iff_getElem]
  refine ⟨hk, hw, fun j hj => ?_⟩
  have h1 := List.findIdx?_eq_none_iff.1 h l[j] (by
    rw [List.mem_take_iff_getElem]
    exact ⟨j, by omega, rfl⟩)
  simpa using h1
theorem first_miss {l : List Event} {k : Nat} {v : VK} (hk : k < l.length) (h : first l k v = none) (hw : isW v l[k] = false) : first l (k + 1) v = none := by
  rw [first_succ l hk, h, hw]; rfl
end G
set_option maxRecDepth 100000 in
set_option maxHeartbeats 1000000 in
theorem rdirect_a (l : List Event) (hl : l.length ≤ 1000) (i j : Nat) (hij : i < j) (hj : j < l.length) : ACall Try.prog 55 [.sl 6 (l.map Event.row), iv i, iv j] (bv (G.dirB l j i)) := by
  refine ACall_enter (fun _ _ => by kernel_rfl) Try.func55 rfl Try.ntmps55 Try.results55 (Nat.le_of_ble_eq_true rfl) (fun hok M0 w0 hnl => ?_)
  have hi : i < l.length := by omega
  have hde := G.dirB_eq l hij hj
  refine Aw_seq ?_
  refine Aw_region ?_
  refine Al_pu (Pu_move (.inr rfl) (by conv => lhs; whnf)) rfl rfl (by decide) (by kernel_rfl) ?_
  refine Al_nil ?_
  refine Aw_seq ?_
  refine Aw_seq ?_
  refine Aw_region ?_
  refine Al_pu (Pu_move (.inl rfl) (by conv => lhs; whnf)) rfl rfl (by decide) (by kernel_rfl) ?_
  refine Al_pu (Pu_move (.inl rfl) (by conv => lhs; whnf)) rfl rfl (by decide) (by kernel_rfl) ?_
  refine Al_pu (Pu_cmp rfl rfl rfl rfl) rfl rfl (by decide) (by kernel_rfl) ?_
  refine Al_nil ?_
  refine Aw_cond rfl (fun h13 => ?_) (fun h13 => ?_)
  · (try simp only [decide_eq_true_eq, decide_eq_false_iff_not, Bool.and_eq_true, Bool.or_eq_true, Bool.and_eq_false_iff, Bool.or_eq_false_iff, Bool.not_eq_true', Bool.not_eq_false', beq_iff_eq, Bool.not_eq_eq_eq_not, Bool.not_true, Bool.not_false, List.length_map, Bool.and_true, Bool.and_false, Bool.false_and, Bool.true_and, Bool.or_false, Bool.false_or] at h13)
    exfalso; omega
  · (try simp only [decide_eq_true_eq, decide_eq_false_iff_not, Bool.and_eq_true, Bool.or_eq_true, Bool.and_eq_false_iff, Bool.or_eq_false_iff, Bool.not_eq_true', Bool.not_eq_false', beq_iff_eq, Bool.not_eq_eq_eq_not, Bool.not_true, Bool.not_false, List.length_map, Bool.and_true, Bool.and_false, Bool.false_and, Bool.true_and, Bool.or_false, Bool.false_or] at h13)
    refine Aw_skip ?_
    refine Aw_seq ?_
    refine Aw_region ?_
    refine Al_pu (Pu_move (.inr rfl) (by conv => lhs; whnf)) rfl rfl (by decide) (by kernel_rfl) ?_
    refine Al_nil ?_
    refine Aw_seq ?_
    refine Aw_seq ?_
    refine Aw_region ?_
    refine Al_pu (Pu_move (.inl rfl) (by conv => lhs; whnf)) rfl rfl (by decide) (by kernel_rfl) ?_
    refine Al_pu (Pu_add rfl rfl rfl (fun h1 h2 => by simp only [A.inI, A.maxI] at *; omega)) rfl rfl (by decide) (by kernel_rfl) ?_
    refine Al_pu (Pu_move (.inr rfl) (by conv => lhs; whnf)) rfl rfl (by decide) (by kernel_rfl) ?_
    refine Al_nil ?_
    refine Aw_block ?_
    refine Aw_loopk (ι := Nat) [0, 1, 2] [] (fun k => [(8, .d (iv k)), (7, .d (bv (G.btw l (l.getD j default).client i k)))]) (fun k => []) (fun k => i + 1 ≤ k ∧ k ≤ j) (fun k => j - k) (i + 1) (⟨Nat.le_refl _, hij⟩) ⟨Sub.num (by omega), Sub.bool (G.btw_first l _ i).symm, trivial⟩ trivial ?_
    rintro k ⟨hk1, hk2⟩
    refine Aw_seq ?_
    refine Aw_seq ?_
    refine Aw_region ?_
    refine Al_pu (Pu_move (.inl rfl) (by conv => lhs; whnf)) rfl rfl (by decide) (by kernel_rfl) ?_
    refine Al_pu (Pu_move (.inl rfl) (by conv => lhs; whnf)) rfl rfl (by decide) (by kernel_rfl) ?_
    refine Al_pu (Pu_cmp rfl rfl rfl rfl) rfl rfl (by decide) (by kernel_rfl) ?_
    refine Al_nil ?_
    refine Aw_cond rfl (fun h18 => ?_) (fun h18 => ?_)
    · (try simp only [decide_eq_true_eq, decide_eq_false_iff_not, Bool.and_eq_true, Bool.or_eq_true, Bool.and_eq_false_iff, Bool.or_eq_false_iff, Bool.not_eq_true', Bool.not_eq_false', beq_iff_eq, Bool.not_eq_eq_eq_not, Bool.not_true, Bool.not_false, List.length_map, Bool.and_true, Bool.and_false, Bool.false_and, Bool.true_and, Bool.or_false, Bool.false_or] at h18)
      have hk : k < l.length := by omega
      refine Aw_skip ?_
      -- join 0: live [0, 1, 2, 7, 8], turned [7]
      refine Aw_seq ?_
      refine Aw_block ?_
      refine Aw_seq ?_
      refine Aw_draw 11 (by kernel_rfl) (by kernel_rfl) ?_
      refine Dr_pu (Pu_move (.inl rfl) (by conv => lhs; whnf)) rfl rfl ?_
      refine Dr_pu (Pu_move (.inl rfl) (by conv => lhs; whnf)) rfl rfl ?_
      refine Dr_pu (Pu_index rfl Try.underlying24 Try.sizeOf33 rfl rfl (rfl) (mapgetD (d := default) hk)) rfl rfl ?_
      refine Dr_pu (Pu_field 1 rfl Try.underlying33 rfl rfl Try.sizeOf3 rfl) rfl rfl ?_
      refine Dr_pu (Pu_load1 rfl Try.isAgg3 rfl rfl) rfl rfl ?_
      refine Dr_pu (Pu_move (.inl rfl) (by conv => lhs; whnf)) rfl rfl ?_
      refine Dr_pu (Pu_move (.inl rfl) (by conv => lhs; whnf)) rfl rfl ?_
      refine Dr_pu (Pu_index rfl Try.underlying24 Try.sizeOf33 rfl rfl (rfl) (mapgetD (d := default) hj)) rfl rfl ?_
      refine Dr_pu (Pu_field 1 rfl Try.underlying33 rfl rfl Try.sizeOf3 rfl) rfl rfl ?_
      refine Dr_pu (Pu_load1 rfl Try.isAgg3 rfl rfl) rfl rfl ?_
      refine Dr_pu (Pu_cmp rfl rfl rfl rfl) rfl rfl ?_
      refine Dr_nil ?_
      refine Al_nil ?_
      refine Aw_cond rfl (fun h31 => ?_) (fun h31 => ?_)
      · skip
        have hc := of_decide_eq_true h31
        refine Aw_region ?_
        refine Al_pu (Pu_move (.inr rfl) (by conv => lhs; whnf)) rfl rfl (by decide) (by kernel_rfl) ?_
        refine Al_nil ?_
        refine Aw_region ?_
        refine Al_pu (Pu_move (.inl rfl) (by conv => lhs; whnf)) rfl rfl (by decide) (by kernel_rfl) ?_
        refine Al_pu (Pu_add rfl rfl rfl (fun h1 h2 => by simp only [A.inI, A.maxI] at *; omega)) rfl rfl (by decide) (by kernel_rfl) ?_
        refine Al_pu (Pu_move (.inr rfl) (by conv => lhs; whnf)) rfl rfl (by decide) (by kernel_rfl) ?_
        refine Al_nil ?_
        exact ⟨k + 1, ⟨by omega, by omega⟩, by omega, Le.ov ⟨Sub.num (by omega), Sub.bool (by rw [G.btw, if_pos ⟨by omega, hc⟩]), trivial⟩ ⟨Sub.rfl, Sub.rfl, Sub.rfl, trivial⟩ trivial trivial⟩ -- loop 0 next.0
      · skip
        have hc := of_decide_eq_false h31
        refine Aw_skip ?_
        refine Aw_region ?_
        refine Al_pu (Pu_move (.inl rfl) (by conv => lhs; whnf)) rfl rfl (by decide) (by kernel_rfl) ?_
        refine Al_pu (Pu_add rfl rfl rfl (fun h1 h2 => by simp only [A.inI, A.maxI] at *; omega)) rfl rfl (by decide) (by kernel_rfl) ?_
        refine Al_pu (Pu_move (.inr rfl) (by conv => lhs; whnf)) rfl rfl (by decide) (by kernel_rfl) ?_
        refine Al_nil ?_
        exact ⟨k + 1, ⟨by omega, by omega⟩, by omega, Le.ov ⟨Sub.num (by omega), Sub.bool (by rw [G.btw, if_neg fun h => hc h.2]), trivial⟩ ⟨Sub.rfl, Sub.rfl, Sub.rfl, trivial⟩ trivial trivial⟩ -- loop 0 next.1
    · (try simp only [decide_eq_true_eq, decide_eq_false_iff_not, Bool.and_eq_true, Bool.or_eq_true, Bool.and_eq_false_iff, Bool.or_eq_false_iff, Bool.not_eq_true', Bool.not_eq_false', beq_iff_eq, Bool.not_eq_eq_eq_not, Bool.not_true, Bool.not_false, List.length_map, Bool.and_true, Bool.and_false, Bool.false_and, Bool.true_and, Bool.or_false, Bool.false_or] at h18)
      obtain rfl : k = j := by omega
      refine Aw_exit ?_
      refine Aw_seq ?_
      refine Aw_seq ?_
      refine Aw_draw 14 (by kernel_rfl) (by kernel_rfl) ?_
      refine Dr_pu (Pu_move (.inl rfl) (by conv => lhs; whnf)) rfl rfl ?_
      refine Dr_pu (Pu_move (.inl rfl) (by conv => lhs; whnf)) rfl rfl ?_
      refine Dr_pu (Pu_index rfl Try.underlying24 Try.sizeOf33 rfl rfl (rfl) (mapgetD (d := default) hi)) rfl rfl ?_
      refine Dr_pu (Pu_field 1 rfl Try.underlying33 rfl rfl Try.sizeOf3 rfl) rfl rfl ?_
      refine Dr_pu (Pu_load1 rfl Try.isAgg3 rfl rfl) rfl rfl ?_
      refine Dr_pu (Pu_move (.inl rfl) (by conv => lhs; whnf)) rfl rfl ?_
      refine Dr_pu (Pu_move (.inl rfl) (by conv => lhs; whnf)) rfl rfl ?_
      refine Dr_pu (Pu_index rfl Try.underlying24 Try.sizeOf33 rfl rfl (rfl) (mapgetD (d := default) hj)) rfl rfl ?_
      refine Dr_pu (Pu_field 1 rfl Try.underlying33 rfl rfl Try.sizeOf3 rfl) rfl rfl ?_
      refine Dr_pu (Pu_load1 rfl Try.isAgg3 rfl rfl) rfl rfl ?_
      refine Dr_pu (Pu_cmp rfl rfl rfl rfl) rfl rfl ?_
      refine Dr_pu (Pu_move (.inl rfl) (by conv => lhs; whnf)) rfl rfl ?_
      refine Dr_st (St_gd [] rfl rfl rfl rfl trivial (fun hg44 => by exact Pu_move (.inl rfl) (by conv => lhs; whnf))) rfl ?_
      refine Dr_pu (Pu_and rfl rfl rfl rfl) rfl rfl ?_
      refine Dr_nil ?_
      refine Al_nil ?_
      refine Aw_cond rfl (fun h45 => ?_) (fun h45 => ?_)
      · skip
        refine Aw_seq ?_
        refine Aw_region ?_
        refine Al_pu (Pu_move (.inr rfl) (by conv => lhs; whnf)) rfl rfl (by decide) (by kernel_rfl) ?_
        refine Al_nil ?_
        refine Aw_ret ?_
        exact Sub.bool (by rw [hde, h45]; rfl) -- ret 0
      · skip
        rw [h45, Bool.false_or] at hde
        refine Aw_skip ?_
        refine Aw_seq ?_
        refine Aw_region ?_
        refine Al_pu (Pu_move (.inl rfl) (by conv => lhs; whnf)) rfl rfl (by decide) (by kernel_rfl) ?_
        refine Al_pu (Pu_move (.inl rfl) (by conv => lhs; whnf)) rfl rfl (by decide) (by kernel_rfl) ?_
        refine Al_pu (Pu_index rfl Try.underlying24 Try.sizeOf33 rfl rfl (rfl) (mapgetD (d := default) hj)) rfl rfl (by decide) (by kernel_rfl) ?_
        refine Al_pu (Pu_field 3 rfl Try.underlying33 rfl rfl Try.sizeOf30 rfl) rfl rfl (by decide) (by kernel_rfl) ?_
        refine Al_pu (Pu_field 0 rfl Try.underlying30 rfl rfl Try.sizeOf3 rfl) rfl rfl (by decide) (by kernel_rfl) ?_
        refine Al_pu (Pu_load1 rfl Try.isAgg3 rfl rfl) rfl rfl (by decide) (by kernel_rfl) ?_
        refine Al_pu (Pu_cmp rfl rfl rfl rfl) rfl rfl (by decide) (by kernel_rfl) ?_
        refine Al_pu (Pu_move (.inl rfl) (by conv => lhs; whnf)) rfl rfl (by decide) (by kernel_rfl) ?_
        refine Al_st (St_gd [] rfl rfl rfl rfl trivial (fun hg54 => by exact Pu_move (.inl rfl) (by conv => lhs; whnf))) rfl (by decide) (by kernel_rfl) (by intro j b oj dj h1 h2 h3; cases h1; cases h2; cases h3; decide) ?_
        refine Al_st (St_gd [] rfl rfl rfl rfl trivial (fun hg55 => by exact Pu_move (.inl rfl) (by conv => lhs; whnf))) rfl (by decide) (by kernel_rfl) (by intro j b oj dj h1 h2 h3; cases h1; cases h2; cases h3; decide) ?_
        refine Al_st (St_gd [54, 55] rfl rfl rfl rfl ⟨⟨_, rfl⟩, ⟨_, rfl⟩, trivial⟩ (fun hg56 => Pu_index rfl Try.underlying24 Try.sizeOf33 rfl rfl (rfl) (mapgetD (d := default) hj))) rfl (by decide) (by kernel_rfl) (by intro j b oj dj h1 h2 h3; cases h1; cases h2; cases h3; decide) ?_
        refine Al_st (St_gd [56] rfl rfl rfl rfl ⟨⟨_, rfl⟩, trivial⟩ (fun hg57 => Pu_field 3 rfl Try.underlying33 rfl rfl Try.sizeOf30 rfl)) rfl (by decide) (by kernel_rfl) (by intro j b oj dj h1 h2 h3; cases h1; cases h2; cases h3; decide) ?_
        refine Al_st (St_gd [57] rfl rfl rfl rfl ⟨⟨_, rfl⟩, trivial⟩ (fun hg58 => Pu_field 1 rfl Try.underlying30 rfl rfl Try.sizeOf3 rfl)) rfl (by decide) (by kernel_rfl) (by intro j b oj dj h1 h2 h3; cases h1; cases h2; cases h3; decide) ?_
        refine Al_st (St_gd [58] rfl rfl rfl rfl ⟨⟨_, rfl⟩, trivial⟩ (fun hg59 => Pu_load1 rfl Try.isAgg3 rfl rfl)) rfl (by decide) (by kernel_rfl) (by intro j b oj dj h1 h2 h3; cases h1; cases h2; cases h3; decide) ?_
        refine Al_st (St_gd [59] rfl rfl rfl rfl ⟨⟨_, rfl⟩, trivial⟩ (fun hg60 => Pu_cmp rfl rfl rfl rfl)) rfl (by decide) (by kernel_rfl) (by intro j b oj dj h1 h2 h3; cases h1; cases h2; cases h3; decide) ?_
        refine Al_pu (Pu_and rfl rfl rfl rfl) rfl rfl (by decide) (by kernel_rfl) ?_
        refine Al_pu (Pu_move (.inr rfl) (by conv => lhs; whnf)) rfl rfl (by decide) (by kernel_rfl) ?_
        refine Al_nil ?_
        refine Aw_seq ?_
        refine Aw_seq ?_
        refine Aw_region ?_
        refine Al_pu (Pu_move (.inl rfl) (by conv => lhs; whnf)) rfl rfl (by decide) (by kernel_rfl) ?_
        refine Al_pu (Pu_move (.inl rfl) (by conv => lhs; whnf)) rfl rfl (by decide) (by kernel_rfl) ?_
        refine Al_pu (Pu_index rfl Try.underlying24 Try.sizeOf33 rfl rfl (rfl) (mapgetD (d := default) hj)) rfl rfl (by decide) (by kernel_rfl) ?_
        refine Al_pu (Pu_field 0 rfl Try.underlying33 rfl rfl Try.sizeOf3 rfl) rfl rfl (by decide) (by kernel_rfl) ?_
        refine Al_pu (Pu_load1 rfl Try.isAgg3 rfl rfl) rfl rfl (by decide) (by kernel_rfl) ?_
        refine Al_pu (Pu_cmp rfl rfl rfl rfl) rfl rfl (by decide) (by kernel_rfl) ?_
        refine Al_pu (Pu_move (.inl rfl) (by conv => lhs; whnf)) rfl rfl (by decide) (by kernel_rfl) ?_
        refine Al_st (St_gd [] rfl rfl rfl rfl trivial (fun hg69 => by exact Pu_move (.inl rfl) (by conv => lhs; whnf))) rfl (by decide) (by kernel_rfl) (by intro j b oj dj h1 h2 h3; cases h1; cases h2; cases h3; decide) ?_
        refine Al_pu (Pu_or rfl rfl rfl rfl) rfl rfl (by decide) (by kernel_rfl) ?_
        refine Al_nil ?_
        refine Aw_cond rfl (fun h70 => ?_) (fun h70 => ?_)
        · skip
          refine Aw_seq ?_
          refine Aw_region ?_
          refine Al_pu (Pu_move (.inr rfl) (by conv => lhs; whnf)) rfl rfl (by decide) (by kernel_rfl) ?_
          refine Al_nil ?_
          refine Aw_ret ?_
          exact Sub.bool (by
            rw [hde]
            revert h70
            cases decide ((l.getD k default).kind = 2) <;> cases h1 : decide ((l.getD k default).n = 0) <;> cases h2 : decide ((l.getD k default).s = 0) <;> simp_all) -- ret 1
        · skip
          have hde : G.dirB l k i = decide (G.first l l.length (G.keyE (l.getD k default)) = some i) := by
            rw [hde]
            revert h70
            cases decide ((l.getD k default).kind = 2) <;> cases h1 : decide ((l.getD k default).n = 0) <;> cases h2 : decide ((l.getD k default).s = 0) <;> simp_all
          refine Aw_skip ?_
          refine Aw_seq ?_
          refine Aw_seq ?_
          refine Aw_region ?_
          refine Al_pu (Pu_move (.inr rfl) (by conv => lhs; whnf)) rfl rfl (by decide) (by kernel_rfl) ?_
          refine Al_nil ?_
          refine Aw_block ?_
          refine Aw_loopk (ι := Nat) [0, 1, 2] [] (fun m => [(10, .d (iv m))]) (fun m => []) (fun m => m ≤ l.length ∧ G.first l m (G.keyE (l.getD k default)) = none) (fun m => l.length - m) (0) (⟨Nat.zero_le _, G.first_zero l _⟩) ⟨Sub.rfl, trivial⟩ trivial ?_
          rintro m ⟨hk1, hno⟩
          refine Aw_seq ?_
          refine Aw_seq ?_
          refine Aw_region ?_
          refine Al_pu (Pu_move (.inl rfl) (by conv => lhs; whnf)) rfl rfl (by decide) (by kernel_rfl) ?_
          refine Al_pu (Pu_move (.inl rfl) (by conv => lhs; whnf)) rfl rfl (by decide) (by kernel_rfl) ?_
          refine Al_pu (Pu_len rfl Try.underlying24 rfl (by first | exact List.length_map .. | exact rfl)) rfl rfl (by decide) (by kernel_rfl) ?_
          refine Al_pu (Pu_cmp rfl rfl rfl rfl) rfl rfl (by decide) (by kernel_rfl) ?_
          refine Al_nil ?_
          refine Aw_cond rfl (fun h74 => ?_) (fun h74 => ?_)
          · (try simp only [decide_eq_true_eq, decide_eq_false_iff_not, Bool.and_eq_true, Bool.or_eq_true, Bool.and_eq_false_iff, Bool.or_eq_false_iff, Bool.not_eq_true', Bool.not_eq_false', beq_iff_eq, Bool.not_eq_eq_eq_not, Bool.not_true, Bool.not_false, List.length_map, Bool.and_true, Bool.and_false, Bool.false_and, Bool.true_and, Bool.or_false, Bool.false_or] at h74)
            have hm : m < l.length := by omega
            have hgm : l.getD m default = l[m] := by simp [hm]
            refine Aw_skip ?_
            refine Aw_seq ?_
            refine Aw_block ?_
            refine Aw_seq ?_
            refine Aw_draw 32 (by kernel_rfl) (by kernel_rfl) ?_
            refine Dr_pu (Pu_move (.inl rfl) (by conv => lhs; whnf)) rfl rfl ?_
            refine Dr_pu (Pu_move (.inl rfl) (by conv => lhs; whnf)) rfl rfl ?_
            refine Dr_pu (Pu_index rfl Try.underlying24 Try.sizeOf33 rfl rfl (rfl) (mapgetD (d := default) hm)) rfl rfl ?_
            refine Dr_pu (Pu_field 0 rfl Try.underlying33 rfl rfl Try.sizeOf3 rfl) rfl rfl ?_
            refine Dr_pu (Pu_load1 rfl Try.isAgg3 rfl rfl) rfl rfl ?_
            refine Dr_pu (Pu_cmp rfl rfl rfl rfl) rfl rfl ?_
            refine Dr_pu (Pu_move (.inl rfl) (by conv => lhs; whnf)) rfl rfl ?_
            refine Dr_st (St_gd [] rfl rfl rfl rfl trivial (fun hg84 => by exact Pu_move (.inl rfl) (by conv => lhs; whnf))) rfl ?_
            refine Dr_st (St_gd [] rfl rfl rfl rfl trivial (fun hg85 => by exact Pu_move (.inl rfl) (by conv => lhs; whnf))) rfl ?_
            refine Dr_st (St_gd [84, 85] rfl rfl rfl rfl ⟨⟨_, rfl⟩, ⟨_, rfl⟩, trivial⟩ (fun hg86 => Pu_index rfl Try.underlying24 Try.sizeOf33 rfl rfl (rfl) (mapgetD (d := default) hm))) rfl ?_
            refine Dr_st (St_gd [86] rfl rfl rfl rfl ⟨⟨_, rfl⟩, trivial⟩ (fun hg87 => Pu_field 2 rfl Try.underlying33 rfl rfl Try.sizeOf9 rfl)) rfl ?_
            refine Dr_st (St_gd [87] rfl rfl rfl rfl ⟨⟨_, rfl⟩, trivial⟩ (fun hg88 => Pu_load1 rfl Try.isAgg9 rfl rfl)) rfl ?_
            refine Dr_st (St_gd [] rfl rfl rfl rfl trivial (fun hg89 => by exact Pu_move (.inl rfl) (by conv => lhs; whnf))) rfl ?_
            refine Dr_st (St_gd [] rfl rfl rfl rfl trivial (fun hg90 => by exact Pu_move (.inl rfl) (by conv => lhs; whnf))) rfl ?_
            refine Dr_st (St_gd [89, 90] rfl rfl rfl rfl ⟨⟨_, rfl⟩, ⟨_, rfl⟩, trivial⟩ (fun hg91 => Pu_index rfl Try.underlying24 Try.sizeOf33 rfl rfl (rfl) (mapgetD (d := default) hj))) rfl ?_
            refine Dr_st (St_gd [91] rfl rfl rfl rfl ⟨⟨_, rfl⟩, trivial⟩ (fun hg92 => Pu_field 2 rfl Try.underlying33 rfl rfl Try.sizeOf9 rfl)) rfl ?_
            refine Dr_st (St_gd [92] rfl rfl rfl rfl ⟨⟨_, rfl⟩, trivial⟩ (fun hg93 => Pu_load1 rfl Try.isAgg9 rfl rfl)) rfl ?_
            refine Dr_st (St_gd [88, 93] rfl rfl rfl rfl ⟨⟨_, rfl⟩, ⟨_, rfl⟩, trivial⟩ (fun hg94 => Pu_str rfl rfl rfl rfl)) rfl ?_
            refine Dr_pu (Pu_and rfl rfl rfl rfl) rfl rfl ?_
            refine Dr_pu (Pu_move (.inl rfl) (by conv => lhs; whnf)) rfl rfl ?_
            refine Dr_st (St_gd [] rfl rfl rfl rfl trivial (fun hg97 => by exact Pu_move (.inl rfl) (by conv => lhs; whnf))) rfl ?_
            refine Dr_st (St_gd [] rfl rfl rfl rfl trivial (fun hg98 => by exact Pu_move (.inl rfl) (by conv => lhs; whnf))) rfl ?_
            refine Dr_st (St_gd [97, 98] rfl rfl rfl rfl ⟨⟨_, rfl⟩, ⟨_, rfl⟩, trivial⟩ (fun hg99 => Pu_index rfl Try.underlying24 Try.sizeOf33 rfl rfl (rfl) (mapgetD (d := default) hm))) rfl ?_
            refine Dr_st (St_gd [99] rfl rfl rfl rfl ⟨⟨_, rfl⟩, trivial⟩ (fun hg100 => Pu_field 3 rfl Try.underlying33 rfl rfl Try.sizeOf30 rfl)) rfl ?_
            refine Dr_st (St_gd [100] rfl rfl rfl rfl ⟨⟨_, rfl⟩, trivial⟩ (fun hg101 => Pu_loadN rfl Try.isAgg30 Try.sizeOf30 rfl (Nat.le_of_ble_eq_true rfl))) rfl ?_
            refine Dr_st (St_gd [] rfl rfl rfl rfl trivial (fun hg102 => by exact Pu_move (.inl rfl) (by conv => lhs; whnf))) rfl ?_
            refine Dr_st (St_gd [] rfl rfl rfl rfl trivial (fun hg103 => by exact Pu_move (.inl rfl) (by conv => lhs; whnf))) rfl ?_
            refine Dr_st (St_gd [102, 103] rfl rfl rfl rfl ⟨⟨_, rfl⟩, ⟨_, rfl⟩, trivial⟩ (fun hg104 => Pu_index rfl Try.underlying24 Try.sizeOf33 rfl rfl (rfl) (mapgetD (d := default) hj))) rfl ?_
            refine Dr_st (St_gd [104] rfl rfl rfl rfl ⟨⟨_, rfl⟩, trivial⟩ (fun hg105 => Pu_field 3 rfl Try.underlying33 rfl rfl Try.sizeOf30 rfl)) rfl ?_
            refine Dr_st (St_gd [105] rfl rfl rfl rfl ⟨⟨_, rfl⟩, trivial⟩ (fun hg106 => Pu_loadN rfl Try.isAgg30 Try.sizeOf30 rfl (Nat.le_of_ble_eq_true rfl))) rfl ?_
            refine Dr_st (St_gd [101, 106] rfl rfl rfl rfl ⟨⟨_, rfl⟩, ⟨_, rfl⟩, trivial⟩ (fun hg107 => Pu_eqrow [.int .i64 _, .int .i64 _] [.int .i64 _, .int .i64 _] (fun w => eqv30 _ _ _ _ _ _ w) rfl rfl rfl)) rfl ?_
            refine Dr_pu (Pu_and rfl rfl rfl rfl) rfl rfl ?_
            refine Dr_nil ?_
            refine Al_nil ?_
            refine Aw_cond rfl (fun h108 => ?_) (fun h108 => ?_)
            · skip
              have hw : G.isW (G.keyE (l.getD k default)) l[m] = true := by rw [G.wr_isW, ← hgm]; exact h108
              refine Aw_seq ?_
              refine Aw_region ?_
              refine Al_pu (Pu_move (.inl rfl) (by conv => lhs; whnf)) rfl rfl (by decide) (by kernel_rfl) ?_
              refine Al_pu (Pu_move (.inl rfl) (by conv => lhs; whnf)) rfl rfl (by decide) (by kernel_rfl) ?_
              refine Al_pu (Pu_cmp rfl rfl rfl rfl) rfl rfl (by decide) (by kernel_rfl) ?_
              refine Al_pu (Pu_move (.inr rfl) (by conv => lhs; whnf)) rfl rfl (by decide) (by kernel_rfl) ?_
              refine Al_nil ?_
              refine Aw_ret ?_
              exact Sub.bool (by rw [hde, G.first_hit hm hno hw]; simp; omega) -- ret 2
            · skip
              have hw : G.isW (G.keyE (l.getD k default)) l[m] = false := by rw [G.wr_isW, ← hgm]; exact h108
              refine Aw_skip ?_
              refine Aw_region ?_
              refine Al_pu (Pu_move (.inl rfl) (by conv => lhs; whnf)) rfl rfl (by decide) (by kernel_rfl) ?_
              refine Al_pu (Pu_add rfl rfl rfl (fun h1 h2 => by simp only [A.inI, A.maxI] at *; omega)) rfl rfl (by decide) (by kernel_rfl) ?_
              refine Al_pu (Pu_move (.inr rfl) (by conv => lhs; whnf)) rfl rfl (by decide) (by kernel_rfl) ?_
              refine Al_nil ?_
              exact ⟨m + 1, ⟨by omega, G.first_miss hm hno hw⟩, by omega, Le.ov ⟨Sub.num (by omega), trivial⟩ ⟨Sub.rfl, Sub.rfl, Sub.rfl, trivial⟩ trivial trivial⟩ -- loop 1 next.0
          · (try simp only [decide_eq_true_eq, decide_eq_false_iff_not, Bool.and_eq_true, Bool.or_eq_true, Bool.and_eq_false_iff, Bool.or_eq_false_iff, Bool.not_eq_true', Bool.not_eq_false', beq_iff_eq, Bool.not_eq_eq_eq_not, Bool.not_true, Bool.not_false, List.length_map, Bool.and_true, Bool.and_false, Bool.false_and, Bool.true_and, Bool.or_false, Bool.false_or] at h74)
            obtain rfl : m = l.length := by omega
            refine Aw_exit ?_
            refine Aw_seq ?_
            refine Aw_region ?_
            refine Al_pu (Pu_move (.inr rfl) (by conv => lhs; whnf)) rfl rfl (by decide) (by kernel_rfl) ?_
            refine Al_nil ?_
            refine Aw_ret ?_
            exact Sub.bool (by rw [hde, hno]; rfl) -- ret 3
set_option maxRecDepth 100000 in
set_option maxHeartbeats 1000000 in
theorem redges_a (l : List Event) (hl : l.length ≤ 1000) : ACall Try.prog 35 [.sl 6 (l.map Event.row)] (.sl 2 ((G.edges l).map G.edgeA)) := by
  refine ACall_enter (fun _ _ => by kernel_rfl) Try.func35 rfl Try.ntmps35 Try.results35 (Nat.le_of_ble_eq_true rfl) (fun hok M0 w0 hnl => ?_)
  refine Aw_seq ?_
  refine Aw_region ?_
  refine Al_pu (Pu_move (.inr rfl) (by conv => lhs; whnf)) rfl rfl (by decide) (by kernel_rfl) ?_
  refine Al_nil ?_
  refine Aw_seq ?_
  refine Aw_region ?_
  refine Al_pu (Pu_move (.inr rfl) (by conv => lhs; whnf)) rfl rfl (by decide) (by kernel_rfl) ?_
  refine Al_nil ?_
  refine Aw_seq ?_
  refine Aw_seq ?_
  refine Aw_region ?_
  refine Al_pu (Pu_move (.inr rfl) (by conv => lhs; whnf)) rfl rfl (by decide) (by kernel_rfl) ?_
  refine Al_nil ?_
  refine Aw_block ?_
  refine Aw_own (j := 3) (k := 3) (T := 47) (n := 2) rfl (fun g0 => ?_)
  refine Aw_loopk (ι := Nat × Nat) [0] [] (fun (j, g) => [(4, .d (iv j)), (3, .ow 3 g)]) (fun (j, g) => [(3, g, .arr 47 2 ((G.edgesTo l j).map G.edgeA))]) (fun (j, g) => j ≤ l.length) (fun (j, g) => l.length - j) ((0, g0)) (Nat.zero_le _) ⟨Sub.rfl, Sub.rfl, trivial⟩ ⟨rfl, trivial⟩ ?_
  rintro ⟨j, g⟩ hk0
  refine Aw_seq ?_
  refine Aw_seq ?_
  refine Aw_region ?_
  refine Al_pu (Pu_move (.inl rfl) (by conv => lhs; whnf)) rfl rfl (by decide) (by kernel_rfl) ?_
  refine Al_pu (Pu_move (.inl rfl) (by conv => lhs; whnf)) rfl rfl (by decide) (by kernel_rfl) ?_
  refine Al_pu (Pu_len rfl Try.underlying24 rfl (by first | exact List.length_map .. | exact rfl)) rfl rfl (by decide) (by kernel_rfl) ?_
  refine Al_pu (Pu_cmp rfl rfl rfl rfl) rfl rfl (by decide) (by kernel_rfl) ?_
  refine Al_nil ?_
  refine Aw_cond rfl (fun h10 => ?_) (fun h10 => ?_)
  · (try simp only [decide_eq_true_eq, decide_eq_false_iff_not, Bool.and_eq_true, Bool.or_eq_true, Bool.and_eq_false_iff, Bool.or_eq_false_iff, Bool.not_eq_true', Bool.not_eq_false', beq_iff_eq, Bool.not_eq_eq_eq_not, Bool.not_true, Bool.not_false, List.length_map, Bool.and_true, Bool.and_false, Bool.false_and, Bool.true_and, Bool.or_false, Bool.false_or] at h10)
    have hj : j < l.length := by omega
    have hen := G.edgesTo_len l j
    refine Aw_skip ?_
    refine Aw_seq ?_
    refine Aw_block ?_
    refine Aw_seq ?_
    refine Aw_region ?_
    refine Al_pu (Pu_move (.inr rfl) (by conv => lhs; whnf)) rfl rfl (by decide) (by kernel_rfl) ?_
    refine Al_nil ?_
    refine Aw_block ?_
    refine Aw_loopk (ι := Nat × Nat) [0, 4] [] (fun (i, g) => [(5, .d (iv i)), (3, .ow 3 g)]) (fun (i, g) => [(3, g, .arr 47 2 ((G.edgesTo l j ++ ((List.range i).filter (G.dirB l j)).map fun i => (i, j)).map G.edgeA))]) (fun (i, g) => i ≤ j) (fun (i, g) => j - i) ((0, g)) (Nat.zero_le _) ⟨Sub.rfl, Sub.rfl, trivial⟩ ⟨obeq (by simp), trivial⟩ ?_
    rintro ⟨i, g⟩ hk1
    refine Aw_seq ?_
    refine Aw_seq ?_
    refine Aw_region ?_
    refine Al_pu (Pu_move (.inl rfl) (by conv => lhs; whnf)) rfl rfl (by decide) (by kernel_rfl) ?_
    refine Al_pu (Pu_move (.inl rfl) (by conv => lhs; whnf)) rfl rfl (by decide) (by kernel_rfl) ?_
    refine Al_pu (Pu_cmp rfl rfl rfl rfl) rfl rfl (by decide) (by kernel_rfl) ?_
    refine Al_nil ?_
    refine Aw_cond rfl (fun h15 => ?_) (fun h15 => ?_)
    · (try simp only [decide_eq_true_eq, decide_eq_false_iff_not, Bool.and_eq_true, Bool.or_eq_true, Bool.and_eq_false_iff, Bool.or_eq_false_iff, Bool.not_eq_true', Bool.not_eq_false', beq_iff_eq, Bool.not_eq_eq_eq_not, Bool.not_true, Bool.not_false, List.length_map, Bool.and_true, Bool.and_false, Bool.false_and, Bool.true_and, Bool.or_false, Bool.false_or] at h15)
      have hij : i < j := by omega
      have hfl : ((List.range i).filter (G.dirB l j)).length ≤ i := by
        have := List.length_filter_le (G.dirB l j) (List.range i)
        rwa [List.length_range] at this
      have hfs : (List.range (i + 1)).filter (G.dirB l j) = (List.range i).filter (G.dirB l j) ++ if G.dirB l j i then [i] else [] := by
        rw [List.range_succ, List.filter_append]
        congr 1
        cases h : G.dirB l j i <;> simp [h]
      refine Aw_skip ?_
      -- join 0: live [0, 3, 4, 5], turned [3]
      refine Aw_seq ?_
      refine Aw_block ?_
      refine Aw_seq ?_
      refine Aw_region ?_
      refine Al_pu (Pu_move (.inl rfl) (by conv => lhs; whnf)) rfl rfl (by decide) (by kernel_rfl) ?_
      refine Al_pu (Pu_move (.inl rfl) (by conv => lhs; whnf)) rfl rfl (by decide) (by kernel_rfl) ?_
      refine Al_pu (Pu_move (.inl rfl) (by conv => lhs; whnf)) rfl rfl (by decide) (by kernel_rfl) ?_
      refine Al_pu (Pu_call (rdirect_a l hl i j hij hj) rfl ⟨Sub.rfl, Sub.rfl, Sub.rfl, trivial⟩) rfl rfl (by decide) (by kernel_rfl) ?_
      refine Al_pu (Pu_move (.inr rfl) (by conv => lhs; whnf)) rfl rfl (by decide) (by kernel_rfl) ?_
      refine Al_nil ?_
      refine Aw_seq ?_
      refine Aw_region ?_
      refine Al_pu (Pu_move (.inl rfl) (by conv => lhs; whnf)) rfl rfl (by decide) (by kernel_rfl) ?_
      refine Al_nil ?_
      refine Aw_cond rfl (fun h22 => ?_) (fun h22 => ?_)
      · (try simp only [decide_eq_true_eq, decide_eq_false_iff_not, Bool.and_eq_true, Bool.or_eq_true, Bool.and_eq_false_iff, Bool.or_eq_false_iff, Bool.not_eq_true', Bool.not_eq_false', beq_iff_eq, Bool.not_eq_eq_eq_not, Bool.not_true, Bool.not_false, List.length_map, Bool.and_true, Bool.and_false, Bool.false_and, Bool.true_and, Bool.or_false, Bool.false_or] at h22)
        refine Aw_region ?_
        refine Al_pu (Pu_move (.inl rfl) (by conv => lhs; whnf)) rfl rfl (by decide) (by kernel_rfl) ?_
        refine Al_pu (Pu_move (.inl rfl) (by conv => lhs; whnf)) rfl rfl (by decide) (by kernel_rfl) ?_
        refine Al_pu (Pu_move (.inl rfl) (by conv => lhs; whnf)) rfl rfl (by decide) (by kernel_rfl) ?_
        refine Al_pu (Pu_buildArr (aa := [(0, _), (1, _)]) rfl Try.underlying47 Try.zeroValue47 Try.sizeOf3 (by kernel_rfl) ⟨rfl, rfl, rfl, rfl, rfl, rfl, trivial⟩ rfl) rfl rfl (by decide) (by kernel_rfl) ?_
        refine Al_pu (Pu_slice1 rfl Try.underlying44 Try.sizeOf47 Try.zeroValue47 rfl (by decide) (by decide) (by kernel_rfl) rfl rfl rfl) rfl rfl (by decide) (by kernel_rfl) ?_
        refine Al_append rfl rfl rfl (by decide) (by kernel_rfl) elem44 (by decide) Try.sizeOf47 rfl rfl rfl (by simp; omega) (by decide) (fun g28 => ?_)
        refine Al_pu (Pu_move (.inr rfl) (by conv => lhs; whnf)) rfl rfl (by decide) (by kernel_rfl) ?_
        refine Al_nil ?_
        refine Aw_region ?_
        refine Al_pu (Pu_move (.inl rfl) (by conv => lhs; whnf)) rfl rfl (by decide) (by kernel_rfl) ?_
        refine Al_pu (Pu_add rfl rfl rfl (fun h1 h2 => by simp only [A.inI, A.maxI] at *; omega)) rfl rfl (by decide) (by kernel_rfl) ?_
        refine Al_pu (Pu_move (.inr rfl) (by conv => lhs; whnf)) rfl rfl (by decide) (by kernel_rfl) ?_
        refine Al_nil ?_
        exact ⟨(i + 1, g28), by omega, by simp only []; omega, Le.ov ⟨Sub.num (by omega), Sub.rfl, trivial⟩ ⟨Sub.rfl, Sub.rfl, trivial⟩ ⟨obeq (by rw [hfs, h22, if_pos rfl]; simp only [List.map_append, List.append_assoc]; rfl), trivial⟩ trivial⟩ -- loop 1 next.0
      · (try simp only [decide_eq_true_eq, decide_eq_false_iff_not, Bool.and_eq_true, Bool.or_eq_true, Bool.and_eq_false_iff, Bool.or_eq_false_iff, Bool.not_eq_true', Bool.not_eq_false', beq_iff_eq, Bool.not_eq_eq_eq_not, Bool.not_true, Bool.not_false, List.length_map, Bool.and_true, Bool.and_false, Bool.false_and, Bool.true_and, Bool.or_false, Bool.false_or] at h22)
        refine Aw_skip ?_
        refine Aw_region ?_
        refine Al_pu (Pu_move (.inl rfl) (by conv => lhs; whnf)) rfl rfl (by decide) (by kernel_rfl) ?_
        refine Al_pu (Pu_add rfl rfl rfl (fun h1 h2 => by simp only [A.inI, A.maxI] at *; omega)) rfl rfl (by decide) (by kernel_rfl) ?_
        refine Al_pu (Pu_move (.inr rfl) (by conv => lhs; whnf)) rfl rfl (by decide) (by kernel_rfl) ?_
        refine Al_nil ?_
        exact ⟨(i + 1, g), by omega, by simp only []; omega, Le.ov ⟨Sub.num (by omega), Sub.rfl, trivial⟩ ⟨Sub.rfl, Sub.rfl, trivial⟩ ⟨obeq (by rw [hfs, h22, if_neg (by decide), List.append_nil]), trivial⟩ trivial⟩ -- loop 1 next.1
    · (try simp only [decide_eq_true_eq, decide_eq_false_iff_not, Bool.and_eq_true, Bool.or_eq_true, Bool.and_eq_false_iff, Bool.or_eq_false_iff, Bool.not_eq_true', Bool.not_eq_false', beq_iff_eq, Bool.not_eq_eq_eq_not, Bool.not_true, Bool.not_false, List.length_map, Bool.and_true, Bool.and_false, Bool.false_and, Bool.true_and, Bool.or_false, Bool.false_or] at h15)
      obtain rfl : j = i := by omega
      refine Aw_exit ?_
      refine Aw_region ?_
      refine Al_pu (Pu_move (.inl rfl) (by conv => lhs; whnf)) rfl rfl (by decide) (by kernel_rfl) ?_
      refine Al_pu (Pu_add rfl rfl rfl (fun h1 h2 => by simp only [A.inI, A.maxI] at *; omega)) rfl rfl (by decide) (by kernel_rfl) ?_
      refine Al_pu (Pu_move (.inr rfl) (by conv => lhs; whnf)) rfl rfl (by decide) (by kernel_rfl) ?_
      refine Al_nil ?_
      exact ⟨(j + 1, g), by omega, by simp only []; omega, Le.ov ⟨Sub.num (by omega), Sub.rfl, trivial⟩ ⟨Sub.rfl, trivial⟩ ⟨obeq (by rw [G.edgesTo_succ]; rfl), trivial⟩ trivial⟩ -- loop 0 next.0
  · (try simp only [decide_eq_true_eq, decide_eq_false_iff_not, Bool.and_eq_true, Bool.or_eq_true, Bool.and_eq_false_iff, Bool.or_eq_false_iff, Bool.not_eq_true', Bool.not_eq_false', beq_iff_eq, Bool.not_eq_eq_eq_not, Bool.not_true, Bool.not_false, List.length_map, Bool.and_true, Bool.and_false, Bool.false_and, Bool.true_and, Bool.or_false, Bool.false_or] at h10)
    have hjj : j = l.length := by omega
    refine Aw_exit ?_
    refine Aw_seq ?_
    refine Aw_region ?_
    refine Al_pu (Pu_move (.inl rfl) (by conv => lhs; whnf)) rfl rfl (by decide) (by kernel_rfl) ?_
    refine Al_pu (Pu_move (.inr rfl) (by conv => lhs; whnf)) rfl rfl (by decide) (by kernel_rfl) ?_
    refine Al_nil ?_
    refine Aw_frz hnl (k := 3) [2] rfl ⟨rfl, trivial⟩ ?_
    refine Aw_ret ?_
    exact Sub.d (by rw [hjj]; rfl) -- ret 0
abbrev boolsA (l : List Bool) : List (List AV) := l.map fun b => [bv b]
theorem boolsA_un (s : List Bool) : ∀ q ∈ boolsA s, q.length = 1 := fun q hq => by
  obtain ⟨b, _, rfl⟩ := List.mem_map.1 hq; rfl
theorem boolsA_fl (s : List Bool) : (boolsA s).flatten = s.map bv := by
  unfold boolsA
  induction s with
  | nil => rfl
  | cons b r ih => simp only [List.map_cons, List.flatten_cons, ih]; rfl
theorem boolsA_set {s : List Bool} {a : Nat} (h : a < s.length) (v : Bool) : (boolsA (s.set a v)).flatten = (boolsA s).flatten.take (a * 1) ++ A.cellsA (bv v) ++ (boolsA s).flatten.drop (a * 1 + 1) := by
  rw [boolsA_fl, boolsA_fl, List.map_set, Nat.mul_one, List.set_eq_take_append_cons_drop, if_pos (by simpa using h)]
  simp [A.cellsA]
theorem boolsA_len (s : List Bool) : (boolsA s).length = s.length := List.length_map ..
set_option maxRecDepth 100000 in
set_option maxHeartbeats 1000000 in
theorem rmarks_a (l : List Event) (hl : l.length ≤ 1000) (i : Nat) (hi : i < l.length) : ACall Try.prog 56 [.sl 6 (l.map Event.row), iv i] (.sl 1 (boolsA (G.marks l i 0))) := by
  refine ACall_enter (fun _ _ => by kernel_rfl) Try.func56 rfl Try.ntmps56 Try.results56 (Nat.le_of_ble_eq_true rfl) (fun hok M0 w0 hnl => ?_)
  have hrl : (List.range l.length).length = l.length := List.length_range
  have hel := G.edges_len l
  refine Aw_seq ?_
  refine Aw_region ?_
  refine Al_pu (Pu_move (.inr rfl) (by conv => lhs; whnf)) rfl rfl (by decide) (by kernel_rfl) ?_
  refine Al_nil ?_
  refine Aw_seq ?_
  refine Aw_region ?_
  refine Al_pu (Pu_move (.inl rfl) (by conv => lhs; whnf)) rfl rfl (by decide) (by kernel_rfl) ?_
  refine Al_pu (Pu_len rfl Try.underlying24 rfl (by first | exact List.length_map .. | exact rfl)) rfl rfl (by decide) (by kernel_rfl) ?_
  refine Al_make1 (n := l.length) (bytes := 1) (z := .bool false) rfl rfl rfl (by decide) (by kernel_rfl) Try.underlying83 (by kernel_rfl) rfl trivial rfl rfl (by omega) (by decide) (fun g10 => ?_)
  refine Al_pu (Pu_move (.inr rfl) (by conv => lhs; whnf)) rfl rfl (by decide) (by kernel_rfl) ?_
  refine Al_nil ?_
  refine Aw_seq ?_
  refine Aw_region ?_
  refine Al_pu (Pu_move (.inl rfl) (by conv => lhs; whnf)) rfl rfl (by decide) (by kernel_rfl) ?_
  refine Al_pu (Pu_call (redges_a l hl) rfl ⟨Sub.rfl, trivial⟩) rfl rfl (by decide) (by kernel_rfl) ?_
  refine Al_pu (Pu_move (.inr rfl) (by conv => lhs; whnf)) rfl rfl (by decide) (by kernel_rfl) ?_
  refine Al_nil ?_
  refine Aw_seq ?_
  refine Aw_seq ?_
  refine Aw_region ?_
  refine Al_pu (Pu_move (.inl rfl) (by conv => lhs; whnf)) rfl rfl (by decide) (by kernel_rfl) ?_
  refine Al_pu (Pu_len rfl Try.underlying44 rfl (by first | exact List.length_map .. | exact rfl)) rfl rfl (by decide) (by kernel_rfl) ?_
  refine Al_pu (Pu_sub rfl rfl rfl (fun h1 h2 => by simp only [A.inI, A.maxI] at *; omega)) rfl rfl (by decide) (by kernel_rfl) ?_
  refine Al_pu (Pu_move (.inr rfl) (by conv => lhs; whnf)) rfl rfl (by decide) (by kernel_rfl) ?_
  refine Al_nil ?_
  refine Aw_block ?_
  refine Aw_loopk (ι := Nat) [1, 5, 6] [] (fun k => [(7, .d (iv ((k : Int) - 1)))]) (fun k => [(10, g10, .arr 4 1 (boolsA (G.marks l i k)))]) (fun k => k ≤ (G.edges l).length) (fun k => k) ((G.edges l).length) (Nat.le_refl _) ⟨Sub.num (by simp), trivial⟩ ⟨obeq (by rw [G.marks_end]; simp [boolsA]), trivial⟩ ?_
  rintro k hk
  refine Aw_seq ?_
  refine Aw_seq ?_
  refine Aw_region ?_
  refine Al_pu (Pu_move (.inl rfl) (by conv => lhs; whnf)) rfl rfl (by decide) (by kernel_rfl) ?_
  refine Al_pu (Pu_cmp rfl rfl rfl rfl) rfl rfl (by decide) (by kernel_rfl) ?_
  refine Al_nil ?_
  refine Aw_cond rfl (fun h17 => ?_) (fun h17 => ?_)
  · (try simp only [decide_eq_true_eq, decide_eq_false_iff_not, Bool.and_eq_true, Bool.or_eq_true, Bool.and_eq_false_iff, Bool.or_eq_false_iff, Bool.not_eq_true', Bool.not_eq_false', beq_iff_eq, Bool.not_eq_eq_eq_not, Bool.not_true, Bool.not_false, List.length_map, Bool.and_true, Bool.and_false, Bool.false_and, Bool.true_and, Bool.or_false, Bool.false_or] at h17)
    obtain ⟨k, rfl⟩ : ∃ x, k = x + 1 := ⟨k - 1, by omega⟩
    have hkl : k < (G.edges l).length := by omega
    have hem := G.edges_mem.1 (List.getElem_mem hkl)
    have hdl := G.dirN_lt hem.2
    have hmk := G.mk_at l hi hkl
    have hml : (boolsA (G.marks l i (k + 1))).length = l.length := by rw [boolsA_len, G.marks_len]
    have hgp : (G.edges l).getD k default = (G.edges l)[k] := by simp [hkl]
    have hb34 : ((G.edges l).getD k default).2 < (boolsA (G.marks l i (k + 1))).length := by rw [hml, hgp]; exact hem.1
    have hb43 : ((G.edges l).getD k default).1 < (boolsA (G.marks l i (k + 1))).length := by rw [hml, hgp]; omega
    have hat : (boolsA (G.marks l i (k + 1))).flatten[((G.edges l).getD k default).2 * 1]? = some (bv (G.ah l i ((G.edges l).getD k default).2)) := by
      rw [boolsA_fl, Nat.mul_one, List.getElem?_map, hgp, G.marks_at l i (k + 1) hem.1, hmk]; rfl
    refine Aw_skip ?_
    -- join 0: live [1, 5, 6, 7], turned []
    refine Aw_seq ?_
    refine Aw_block ?_
    refine Aw_seq ?_
    refine Aw_region ?_
    refine Al_pu (Pu_move (.inl rfl) (by conv => lhs; whnf)) rfl rfl (by decide) (by kernel_rfl) ?_
    refine Al_pu (Pu_move (.inl rfl) (by conv => lhs; whnf)) rfl rfl (by decide) (by kernel_rfl) ?_
    refine Al_pu (Pu_index rfl Try.underlying44 Try.sizeOf47 rfl rfl ((show (((k + 1 : Nat) : Int) - 1) = (k : Int) by omega)) (mapgetD (d := default) hkl)) rfl rfl (by decide) (by kernel_rfl) ?_
    refine Al_pu (Pu_indexArr rfl Try.underlying47 Try.sizeOf3 rfl rfl (show ((1 : Int)) = ((1 : Nat) : Int) from rfl) (by decide)) rfl rfl (by decide) (by kernel_rfl) ?_
    refine Al_pu (Pu_load1 rfl Try.isAgg3 rfl rfl) rfl rfl (by decide) (by kernel_rfl) ?_
    refine Al_pu (Pu_move (.inl rfl) (by conv => lhs; whnf)) rfl rfl (by decide) (by kernel_rfl) ?_
    refine Al_pu (Pu_cmp rfl rfl rfl rfl) rfl rfl (by decide) (by kernel_rfl) ?_
    refine Al_pu (Pu_move (.inl rfl) (by conv => lhs; whnf)) rfl rfl (by decide) (by kernel_rfl) ?_
    refine Al_st (St_gd [] rfl rfl rfl rfl trivial (fun hg28 => by exact Pu_move (.inl rfl) (by conv => lhs; whnf))) rfl (by decide) (by kernel_rfl) (by intro j b oj dj h1 h2 h3; cases h1; cases h2; cases h3; decide) ?_
    refine Al_st (St_gd [] rfl rfl rfl rfl trivial (fun hg29 => by exact Pu_move (.inl rfl) (by conv => lhs; whnf))) rfl (by decide) (by kernel_rfl) (by intro j b oj dj h1 h2 h3; cases h1; cases h2; cases h3; decide) ?_
    refine Al_st (St_gd [] rfl rfl rfl rfl trivial (fun hg30 => by exact Pu_move (.inl rfl) (by conv => lhs; whnf))) rfl (by decide) (by kernel_rfl) (by intro j b oj dj h1 h2 h3; cases h1; cases h2; cases h3; decide) ?_
    refine Al_st (St_gd [29, 30] rfl rfl rfl rfl ⟨⟨_, rfl⟩, ⟨_, rfl⟩, trivial⟩ (fun hg31 => by exact Pu_index rfl Try.underlying44 Try.sizeOf47 rfl rfl ((show (((k + 1 : Nat) : Int) - 1) = (k : Int) by omega)) (mapgetD (d := default) hkl))) rfl (by decide) (by kernel_rfl) (by intro j b oj dj h1 h2 h3; cases h1; cases h2; cases h3; decide) ?_
    refine Al_st (St_gd [31] rfl rfl rfl rfl ⟨⟨_, rfl⟩, trivial⟩ (fun hg32 => by exact Pu_indexArr rfl Try.underlying47 Try.sizeOf3 rfl rfl (show ((1 : Int)) = ((1 : Nat) : Int) from rfl) (by decide))) rfl (by decide) (by kernel_rfl) (by intro j b oj dj h1 h2 h3; cases h1; cases h2; cases h3; decide) ?_
    refine Al_st (St_gd [32] rfl rfl rfl rfl ⟨⟨_, rfl⟩, trivial⟩ (fun hg33 => Pu_load1 rfl Try.isAgg3 rfl rfl)) rfl (by decide) (by kernel_rfl) (by intro j b oj dj h1 h2 h3; cases h1; cases h2; cases h3; decide) ?_
    refine Al_st (St_gd [28, 33] rfl rfl rfl rfl ⟨⟨_, rfl⟩, ⟨_, rfl⟩, trivial⟩ (fun hg34 => Pu_indexOw (j := ((G.edges l).getD k default).2) rfl Try.underlying83 Try.sizeOf4 rfl rfl rfl rfl hb34)) rfl (by decide) (by kernel_rfl) (by intro j b oj dj h1 h2 h3; cases h1; cases h2; cases h3; decide) ?_
    refine Al_st (St_gd [34] rfl rfl rfl rfl ⟨⟨_, rfl⟩, trivial⟩ (fun hg35 => Pu_loadArr rfl Try.isAgg4 rfl rfl hat)) rfl (by decide) (by kernel_rfl) (by intro j b oj dj h1 h2 h3; cases h1; cases h2; cases h3; decide) ?_
    refine Al_pu (Pu_or rfl rfl rfl rfl) rfl rfl (by decide) (by kernel_rfl) ?_
    refine Al_nil ?_
    refine Aw_cond rfl (fun h36 => ?_) (fun h36 => ?_)
    · skip
      have hc : (decide (((G.edges l)[k]).2 = i) || G.ah l i ((G.edges l)[k]).2) = true := by
        rw [hgp] at h36
        rw [← h36]; congr 1; exact decide_eq_decide.2 (by omega)
      refine Aw_region ?_
      refine Al_pu (Pu_move (.inl rfl) (by conv => lhs; whnf)) rfl rfl (by decide) (by kernel_rfl) ?_
      refine Al_pu (Pu_move (.inl rfl) (by conv => lhs; whnf)) rfl rfl (by decide) (by kernel_rfl) ?_
      refine Al_pu (Pu_move (.inl rfl) (by conv => lhs; whnf)) rfl rfl (by decide) (by kernel_rfl) ?_
      refine Al_pu (Pu_index rfl Try.underlying44 Try.sizeOf47 rfl rfl ((show (((k + 1 : Nat) : Int) - 1) = (k : Int) by omega)) (mapgetD (d := default) hkl)) rfl rfl (by decide) (by kernel_rfl) ?_
      refine Al_pu (Pu_indexArr rfl Try.underlying47 Try.sizeOf3 rfl rfl (show ((0 : Int)) = ((0 : Nat) : Int) from rfl) (by decide)) rfl rfl (by decide) (by kernel_rfl) ?_
      refine Al_pu (Pu_load1 rfl Try.isAgg3 rfl rfl) rfl rfl (by decide) (by kernel_rfl) ?_
      refine Al_pu (Pu_indexOw (j := ((G.edges l).getD k default).1) rfl Try.underlying83 Try.sizeOf4 rfl rfl rfl rfl hb43) rfl rfl (by decide) (by kernel_rfl) ?_
      refine Al_storeArr (boolsA (G.marks l i k)) rfl rfl rfl (by kernel_rfl) Try.sizeOf4 rfl rfl rfl rfl rfl (by omega) (by rw [hml, boolsA_len, G.marks_len]) (boolsA_un _) (by rw [hgp, ← G.marks_set l hkl hc]; exact boolsA_set (by rw [G.marks_len]; omega) true) ?_
      refine Al_nil ?_
      refine Aw_region ?_
      refine Al_pu (Pu_move (.inl rfl) (by conv => lhs; whnf)) rfl rfl (by decide) (by kernel_rfl) ?_
      refine Al_pu (Pu_sub rfl rfl rfl (fun h1 h2 => by simp only [A.inI, A.maxI] at *; omega)) rfl rfl (by decide) (by kernel_rfl) ?_
      refine Al_pu (Pu_move (.inr rfl) (by conv => lhs; whnf)) rfl rfl (by decide) (by kernel_rfl) ?_
      refine Al_nil ?_
      exact ⟨k, by omega, by omega, Le.ov ⟨Sub.num (by omega), trivial⟩ ⟨Sub.rfl, Sub.rfl, Sub.rfl, trivial⟩ ⟨rfl, trivial⟩ trivial⟩ -- loop 0 next.0
    · skip
      have hc : (decide (((G.edges l)[k]).2 = i) || G.ah l i ((G.edges l)[k]).2) = false := by
        rw [hgp] at h36
        rw [← h36]; congr 1; exact decide_eq_decide.2 (by omega)
      refine Aw_skip ?_
      refine Aw_region ?_
      refine Al_pu (Pu_move (.inl rfl) (by conv => lhs; whnf)) rfl rfl (by decide) (by kernel_rfl) ?_
      refine Al_pu (Pu_sub rfl rfl rfl (fun h1 h2 => by simp only [A.inI, A.maxI] at *; omega)) rfl rfl (by decide) (by kernel_rfl) ?_
      refine Al_pu (Pu_move (.inr rfl) (by conv => lhs; whnf)) rfl rfl (by decide) (by kernel_rfl) ?_
      refine Al_nil ?_
      exact ⟨k, by omega, by omega, Le.ov ⟨Sub.num (by omega), trivial⟩ ⟨Sub.rfl, Sub.rfl, Sub.rfl, trivial⟩ ⟨obeq (by rw [G.marks_same l hkl hc]), trivial⟩ trivial⟩ -- loop 0 next.1
  · (try simp only [decide_eq_true_eq, decide_eq_false_iff_not, Bool.and_eq_true, Bool.or_eq_true, Bool.and_eq_false_iff, Bool.or_eq_false_iff, Bool.not_eq_true', Bool.not_eq_false', beq_iff_eq, Bool.not_eq_eq_eq_not, Bool.not_true, Bool.not_false, List.length_map, Bool.and_true, Bool.and_false, Bool.false_and, Bool.true_and, Bool.or_false, Bool.false_or] at h17)
    obtain rfl : k = 0 := by omega
    refine Aw_exit ?_
    refine Aw_seq ?_
    refine Aw_region ?_
    refine Al_pu (Pu_move (.inl rfl) (by conv => lhs; whnf)) rfl rfl (by decide) (by kernel_rfl) ?_
    refine Al_pu (Pu_move (.inr rfl) (by conv => lhs; whnf)) rfl rfl (by decide) (by kernel_rfl) ?_
    refine Al_nil ?_
    refine Aw_frz hnl (k := 10) [4] rfl ⟨rfl, trivial⟩ ?_
    refine Aw_ret ?_
    exact Sub.rfl -- ret 0
end Go.Proofs.Ytgoncpjgpkoacaa

set_option linter.unusedSimpArgs false
set_option linter.unusedVariables false
namespace Go.Proofs.Ytgoncpjgpkoacaa
open Go.RowKit A R
open A.RowT
theorem nevP (x0 x1 y0 y1 : Int) (o1 o2 : Operand) (w : World) : (do eqGuard .neq 47 o1 o2 (.agg [.int .i64 x0, .int .i64 x1].toArray) (.agg [.int .i64 y0, .int .i64 y1].toArray); binOp .neq 47 (.agg [.int .i64 x0, .int .i64 x1].toArray) (.agg [.int .i64 y0, .int .i64 y1].toArray) : Sem Value).run Try.prog w = .ok (.bool (!((x0 == y0) && (x1 == y1)))) w := by
  have hm : Try.prog.eqGuardType Try.prog.depth 47 = false := by kernel_rfl
  rw [Sem.run_bind, run_eqGuard_agg _ _ _ _ _ _ _ hm]
  simp only [Result.andThen_ok]
  have he : (Op.equalIn (9998 + 2) 47 (.agg #[.int .i64 x0, .int .i64 x1]) (.agg #[.int .i64 y0, .int .i64 y1])).run Try.prog w = .ok ((x0 == y0) && (x1 == y1)) w := by
    have hp : ∀ (a b : Int) (j : Nat), j < 2 → (part 3 #[.int .i64 a, .int .i64 b] j).run Try.prog w = .ok (.int .i64 (if j = 0 then a else b)) w := fun a b j hj => by
      obtain rfl | rfl : j = 0 ∨ j = 1 := by omega
      · simp [part, isAgg, run_underlying Try.underlying3]
      · simp [part, isAgg, run_underlying Try.underlying3]
    have hq : ∀ (a b : Int), (Op.equalIn 9999 3 (.int .i64 a) (.int .i64 b)).run Try.prog w = .ok (a == b) w := fun a b => run_equalIn_int w 9998 _ .i64 .i64 a b Try.underlying3
    rw [Op.equalIn]
    simp only [Sem.run_bind, run_underlying Try.underlying47, Result.andThen_ok, Try.sizeOf3, Std.Legacy.Range.forIn_eq_forIn_range', Std.Legacy.Range.size, Nat.sub_zero, Nat.add_sub_cancel, Nat.div_one]
    simp only [List.range', List.forIn_cons, List.forIn_nil, Sem.run_bind, Nat.mul_one, hp _ _ 0 (by decide), hp _ _ (0 + 1) (by decide), Result.andThen_ok, hq]
    by_cases h0 : x0 = y0 <;> by_cases h1 : x1 = y1 <;> simp [hp _ _ 1 (by decide), hq, h0, h1]
  rw [run_neq_struct, he]; rfl
set_option maxRecDepth 100000 in
theorem rsamee_a (l m : List (Nat × Nat)) : ACall Try.prog 34 [.sl 2 (l.map G.edgeA), .sl 2 (m.map G.edgeA)] (bv (decide (l = m))) := by
  refine ACall_enter (fun _ _ => by kernel_rfl) Try.func34 rfl Try.ntmps34 Try.results34 (Nat.le_of_ble_eq_true rfl) (fun hok M0 w0 hnl => ?_)
  have hlen := (hok _ (List.mem_cons_self ..)).len
  rw [List.length_map] at hlen
  refine Aw_seq ?_
  refine Aw_region ?_
  refine Al_pu (Pu_move (.inr rfl) (by conv => lhs; whnf)) rfl rfl (by decide) (by kernel_rfl) ?_
  refine Al_nil ?_
  refine Aw_seq ?_
  refine Aw_seq ?_
  refine Aw_region ?_
  refine Al_pu (Pu_move (.inl rfl) (by conv => lhs; whnf)) rfl rfl (by decide) (by kernel_rfl) ?_
  refine Al_pu (Pu_len rfl Try.underlying44 rfl (by first | exact List.length_map .. | exact rfl)) rfl rfl (by decide) (by kernel_rfl) ?_
  refine Al_pu (Pu_move (.inl rfl) (by conv => lhs; whnf)) rfl rfl (by decide) (by kernel_rfl) ?_
  refine Al_pu (Pu_len rfl Try.underlying44 rfl (by first | exact List.length_map .. | exact rfl)) rfl rfl (by decide) (by kernel_rfl) ?_
  refine Al_pu (Pu_cmp rfl rfl rfl rfl) rfl rfl (by decide) (by kernel_rfl) ?_
  refine Al_nil ?_
  refine Aw_cond rfl (fun h10 => ?_) (fun h10 => ?_)
  · (try simp only [decide_eq_true_eq, decide_eq_false_iff_not, Bool.and_eq_true, Bool.or_eq_true, Bool.and_eq_false_iff, Bool.or_eq_false_iff, Bool.not_eq_true', Bool.not_eq_false', beq_iff_eq, Bool.not_eq_eq_eq_not, Bool.not_true, Bool.not_false, List.length_map, Bool.and_true, Bool.and_false, Bool.false_and, Bool.true_and, Bool.or_false, Bool.false_or] at h10)
    refine Aw_seq ?_
    refine Aw_region ?_
    refine Al_pu (Pu_move (.inr rfl) (by conv => lhs; whnf)) rfl rfl (by decide) (by kernel_rfl) ?_
    refine Al_nil ?_
    refine Aw_ret ?_
    exact Sub.bool (by rw [L.same_len (by omega)]) -- ret 0
  · (try simp only [decide_eq_true_eq, decide_eq_false_iff_not, Bool.and_eq_true, Bool.or_eq_true, Bool.and_eq_false_iff, Bool.or_eq_false_iff, Bool.not_eq_true', Bool.not_eq_false', beq_iff_eq, Bool.not_eq_eq_eq_not, Bool.not_true, Bool.not_false, List.length_map, Bool.and_true, Bool.and_false, Bool.false_and, Bool.true_and, Bool.or_false, Bool.false_or] at h10)
    refine Aw_skip ?_
    refine Aw_seq ?_
    refine Aw_seq ?_
    refine Aw_region ?_
    refine Al_pu (Pu_move (.inr rfl) (by conv => lhs; whnf)) rfl rfl (by decide) (by kernel_rfl) ?_
    refine Al_nil ?_
    refine Aw_block ?_
    refine Aw_loopk (ι := Nat) [0, 1] [] (fun k => [(5, .d (iv k))]) (fun k => []) (fun k => k ≤ l.length ∧ l.take k = m.take k) (fun k => l.length - k) (0) (⟨Nat.zero_le _, rfl⟩) ⟨Sub.rfl, trivial⟩ trivial ?_
    rintro k ⟨hk0, he⟩
    refine Aw_seq ?_
    refine Aw_seq ?_
    refine Aw_region ?_
    refine Al_pu (Pu_move (.inl rfl) (by conv => lhs; whnf)) rfl rfl (by decide) (by kernel_rfl) ?_
    refine Al_pu (Pu_move (.inl rfl) (by conv => lhs; whnf)) rfl rfl (by decide) (by kernel_rfl) ?_
    refine Al_pu (Pu_len rfl Try.underlying44 rfl (by first | exact List.length_map .. | exact rfl)) rfl rfl (by decide) (by kernel_rfl) ?_
    refine Al_pu (Pu_cmp rfl rfl rfl rfl) rfl rfl (by decide) (by kernel_rfl) ?_
    refine Al_nil ?_
    refine Aw_cond rfl (fun h14 => ?_) (fun h14 => ?_)
    · (try simp only [decide_eq_true_eq, decide_eq_false_iff_not, Bool.and_eq_true, Bool.or_eq_true, Bool.and_eq_false_iff, Bool.or_eq_false_iff, Bool.not_eq_true', Bool.not_eq_false', beq_iff_eq, Bool.not_eq_eq_eq_not, Bool.not_true, Bool.not_false, List.length_map, Bool.and_true, Bool.and_false, Bool.false_and, Bool.true_and, Bool.or_false, Bool.false_or] at h14)
      have hkl : k < l.length := by omega
      have hkm : k < m.length := by omega
      refine Aw_skip ?_
      refine Aw_seq ?_
      refine Aw_block ?_
      refine Aw_seq ?_
      refine Aw_draw 9 (by kernel_rfl) (by kernel_rfl) ?_
      refine Dr_pu (Pu_move (.inl rfl) (by conv => lhs; whnf)) rfl rfl ?_
      refine Dr_pu (Pu_move (.inl rfl) (by conv => lhs; whnf)) rfl rfl ?_
      refine Dr_pu (Pu_index rfl Try.underlying44 Try.sizeOf47 rfl rfl (rfl) (mapget hkl)) rfl rfl ?_
      refine Dr_pu (Pu_loadN rfl Try.isAgg47 Try.sizeOf47 rfl (Nat.le_of_ble_eq_true rfl)) rfl rfl ?_
      refine Dr_pu (Pu_move (.inl rfl) (by conv => lhs; whnf)) rfl rfl ?_
      refine Dr_pu (Pu_move (.inl rfl) (by conv => lhs; whnf)) rfl rfl ?_
      refine Dr_pu (Pu_index rfl Try.underlying44 Try.sizeOf47 rfl rfl (rfl) (mapget hkm)) rfl rfl ?_
      refine Dr_pu (Pu_loadN rfl Try.isAgg47 Try.sizeOf47 rfl (Nat.le_of_ble_eq_true rfl)) rfl rfl ?_
      refine Dr_pu (Pu_eqrow [.int .i64 _, .int .i64 _] [.int .i64 _, .int .i64 _] (fun w => nevP _ _ _ _ _ _ w) rfl rfl rfl) rfl rfl ?_
      refine Dr_nil ?_
      refine Al_nil ?_
      refine Aw_cond rfl (fun h25 => ?_) (fun h25 => ?_)
      · skip
        have hne : l[k] ≠ m[k] := fun e => by rw [e] at h25; simp at h25
        refine Aw_seq ?_
        refine Aw_region ?_
        refine Al_pu (Pu_move (.inr rfl) (by conv => lhs; whnf)) rfl rfl (by decide) (by kernel_rfl) ?_
        refine Al_nil ?_
        refine Aw_ret ?_
        exact Sub.bool (by rw [L.same_ne hkl hkm hne]) -- ret 1
      · skip
        have heq : l[k] = m[k] := by
          simp only [Bool.not_eq_false', Bool.and_eq_true, beq_iff_eq] at h25
          exact Prod.ext (by omega) (by omega)
        refine Aw_skip ?_
        refine Aw_region ?_
        refine Al_pu (Pu_move (.inl rfl) (by conv => lhs; whnf)) rfl rfl (by decide) (by kernel_rfl) ?_
        refine Al_pu (Pu_add rfl rfl rfl (fun h1 h2 => by simp only [A.inI, A.maxI] at *; omega)) rfl rfl (by decide) (by kernel_rfl) ?_
        refine Al_pu (Pu_move (.inr rfl) (by conv => lhs; whnf)) rfl rfl (by decide) (by kernel_rfl) ?_
        refine Al_nil ?_
        exact ⟨k + 1, ⟨by omega, L.same_step he hkl hkm heq⟩, by omega, Le.ov ⟨Sub.num (by omega), trivial⟩ ⟨Sub.rfl, Sub.rfl, trivial⟩ trivial trivial⟩ -- loop 0 next.0
    · (try simp only [decide_eq_true_eq, decide_eq_false_iff_not, Bool.and_eq_true, Bool.or_eq_true, Bool.and_eq_false_iff, Bool.or_eq_false_iff, Bool.not_eq_true', Bool.not_eq_false', beq_iff_eq, Bool.not_eq_eq_eq_not, Bool.not_true, Bool.not_false, List.length_map, Bool.and_true, Bool.and_false, Bool.false_and, Bool.true_and, Bool.or_false, Bool.false_or] at h14)
      obtain rfl := L.same_end he (by omega) (by omega)
      refine Aw_exit ?_
      refine Aw_seq ?_
      refine Aw_region ?_
      refine Al_pu (Pu_move (.inr rfl) (by conv => lhs; whnf)) rfl rfl (by decide) (by kernel_rfl) ?_
      refine Al_nil ?_
      refine Aw_ret ?_
      exact Sub.bool (by simp) -- ret 2
set_option maxRecDepth 100000 in
theorem rget_a (p : List Dep) (k : ByteArray) : ACall Try.prog 30 [.sl 3 (p.map Dep.row), tv k] (.row [iv (D.get p k).1, iv (D.get p k).2]) := by
  refine ACall_enterG (fun _ _ => by kernel_rfl) Try.func30 rfl Try.ntmps30 (Reads.cN Try.results30 Try.isAgg30 Try.sizeOf30) (Nat.le_of_ble_eq_true rfl) (fun hok M0 w0 hnl => ?_)
  have hlen := (hok _ (List.mem_cons_self ..)).len
  rw [List.length_map] at hlen
  refine Aw_seq ?_
  refine Aw_region ?_
  refine Al_alloc rfl rfl rfl (by decide) Try.zeroValue30 rfl (by kernel_rfl) (fun g4 => ?_)
  refine Al_nil ?_
  refine Aw_seq ?_
  refine Aw_seq ?_
  refine Aw_region ?_
  refine Al_pu (Pu_move (.inr rfl) (by conv => lhs; whnf)) rfl rfl (by decide) (by kernel_rfl) ?_
  refine Al_nil ?_
  refine Aw_block ?_
  refine Aw_loopk (ι := Nat) [0, 1, 4] [4] (fun j => [(5, .d (iv j))]) (fun j => []) (fun j => j ≤ p.length ∧ ∀ (i : Nat) (hi : i < p.length), i < j → ¬ p[i].key.toList = k.toList) (fun j => p.length - j) (0) (⟨Nat.zero_le _, by intros; omega⟩) ⟨Sub.rfl, trivial⟩ trivial ?_
  rintro j ⟨hk0, hno⟩
  refine Aw_seq ?_
  refine Aw_seq ?_
  refine Aw_region ?_
  refine Al_pu (Pu_move (.inl rfl) (by conv => lhs; whnf)) rfl rfl (by decide) (by kernel_rfl) ?_
  refine Al_pu (Pu_move (.inl rfl) (by conv => lhs; whnf)) rfl rfl (by decide) (by kernel_rfl) ?_
  refine Al_pu (Pu_len rfl Try.underlying31 rfl (by first | exact List.length_map .. | exact rfl)) rfl rfl (by decide) (by kernel_rfl) ?_
  refine Al_pu (Pu_cmp rfl rfl rfl rfl) rfl rfl (by decide) (by kernel_rfl) ?_
  refine Al_nil ?_
  refine Aw_cond rfl (fun h9 => ?_) (fun h9 => ?_)
  · (try simp only [decide_eq_true_eq, decide_eq_false_iff_not, Bool.and_eq_true, Bool.or_eq_true, Bool.and_eq_false_iff, Bool.or_eq_false_iff, Bool.not_eq_true', Bool.not_eq_false', beq_iff_eq, Bool.not_eq_eq_eq_not, Bool.not_true, Bool.not_false, List.length_map, Bool.and_true, Bool.and_false, Bool.false_and, Bool.true_and, Bool.or_false, Bool.false_or] at h9)
    have hj : j < p.length := by omega
    refine Aw_skip ?_
    refine Aw_seq ?_
    refine Aw_block ?_
    refine Aw_seq ?_
    refine Aw_region ?_
    refine Al_pu (Pu_move (.inl rfl) (by conv => lhs; whnf)) rfl rfl (by decide) (by kernel_rfl) ?_
    refine Al_pu (Pu_move (.inl rfl) (by conv => lhs; whnf)) rfl rfl (by decide) (by kernel_rfl) ?_
    refine Al_pu (Pu_index rfl Try.underlying31 Try.sizeOf60 rfl rfl (rfl) (mapget hj)) rfl rfl (by decide) (by kernel_rfl) ?_
    refine Al_pu (Pu_field 0 rfl Try.underlying60 rfl rfl Try.sizeOf9 rfl) rfl rfl (by decide) (by kernel_rfl) ?_
    refine Al_pu (Pu_load1 rfl Try.isAgg9 rfl rfl) rfl rfl (by decide) (by kernel_rfl) ?_
    refine Al_pu (Pu_move (.inl rfl) (by conv => lhs; whnf)) rfl rfl (by decide) (by kernel_rfl) ?_
    refine Al_pu (Pu_str rfl rfl rfl rfl) rfl rfl (by decide) (by kernel_rfl) ?_
    refine Al_nil ?_
    refine Aw_cond rfl (fun h18 => ?_) (fun h18 => ?_)
    · (try simp only [decide_eq_true_eq, decide_eq_false_iff_not, Bool.and_eq_true, Bool.or_eq_true, Bool.and_eq_false_iff, Bool.or_eq_false_iff, Bool.not_eq_true', Bool.not_eq_false', beq_iff_eq, Bool.not_eq_eq_eq_not, Bool.not_true, Bool.not_false, List.length_map, Bool.and_true, Bool.and_false, Bool.false_and, Bool.true_and, Bool.or_false, Bool.false_or] at h18)
      have hge := D.get_first hj (by simpa using h18) hno
      rw [hge]
      refine Aw_seq ?_
      refine Aw_region ?_
      refine Al_pu (Pu_move (.inl rfl) (by conv => lhs; whnf)) rfl rfl (by decide) (by kernel_rfl) ?_
      refine Al_pu (Pu_move (.inl rfl) (by conv => lhs; whnf)) rfl rfl (by decide) (by kernel_rfl) ?_
      refine Al_pu (Pu_index rfl Try.underlying31 Try.sizeOf60 rfl rfl (rfl) (mapget hj)) rfl rfl (by decide) (by kernel_rfl) ?_
      refine Al_pu (Pu_field 1 rfl Try.underlying60 rfl rfl Try.sizeOf30 rfl) rfl rfl (by decide) (by kernel_rfl) ?_
      refine Al_pu (Pu_loadN rfl Try.isAgg30 Try.sizeOf30 rfl (Nat.le_of_ble_eq_true rfl)) rfl rfl (by decide) (by kernel_rfl) ?_
      refine Al_storeN rfl rfl rfl (by kernel_rfl) Try.isAgg30 Try.sizeOf30 rfl rfl rfl rfl (Nat.le_of_ble_eq_true rfl) ?_
      refine Al_nil ?_
      refine Aw_ret ?_
      exact ⟨_, _, _, _, _, [_, _], rfl, rfl, rfl, rfl, rfl⟩ -- ret 0
    · (try simp only [decide_eq_true_eq, decide_eq_false_iff_not, Bool.and_eq_true, Bool.or_eq_true, Bool.and_eq_false_iff, Bool.or_eq_false_iff, Bool.not_eq_true', Bool.not_eq_false', beq_iff_eq, Bool.not_eq_eq_eq_not, Bool.not_true, Bool.not_false, List.length_map, Bool.and_true, Bool.and_false, Bool.false_and, Bool.true_and, Bool.or_false, Bool.false_or] at h18)
      have hne : ¬ p[j].key.toList = k.toList := by simpa using h18
      refine Aw_skip ?_
      refine Aw_region ?_
      refine Al_pu (Pu_move (.inl rfl) (by conv => lhs; whnf)) rfl rfl (by decide) (by kernel_rfl) ?_
      refine Al_pu (Pu_add rfl rfl rfl (fun h1 h2 => by simp only [A.inI, A.maxI] at *; omega)) rfl rfl (by decide) (by kernel_rfl) ?_
      refine Al_pu (Pu_move (.inr rfl) (by conv => lhs; whnf)) rfl rfl (by decide) (by kernel_rfl) ?_
      refine Al_nil ?_
      exact ⟨j + 1, ⟨by omega, fun i hi hij => by
        by_cases e : i = j
        · subst e; exact hne
        · exact hno i hi (by omega)⟩, by omega, Le.ov ⟨Sub.num (by omega), trivial⟩ ⟨Sub.rfl, Sub.rfl, Sub.rfl, trivial⟩ trivial ⟨rfl, trivial⟩⟩ -- loop 0 next.0
  · (try simp only [decide_eq_true_eq, decide_eq_false_iff_not, Bool.and_eq_true, Bool.or_eq_true, Bool.and_eq_false_iff, Bool.or_eq_false_iff, Bool.not_eq_true', Bool.not_eq_false', beq_iff_eq, Bool.not_eq_eq_eq_not, Bool.not_true, Bool.not_false, List.length_map, Bool.and_true, Bool.and_false, Bool.false_and, Bool.true_and, Bool.or_false, Bool.false_or] at h9)
    have hge : D.get p k = (0, 0) := D.get_no (by
      unfold D.hasK
      rw [List.any_eq_false]
      intro x hx
      obtain ⟨i, hi, rfl⟩ := List.getElem_of_mem hx
      simpa using hno i hi (by omega))
    rw [hge]
    refine Aw_exit ?_
    refine Aw_seq ?_
    refine Aw_region ?_
    refine Al_pu (Pu_build (aa := []) rfl Try.underlying30 Try.zeroValue30 (places30 Try.underlying30) (by kernel_rfl) trivial rfl) rfl rfl (by decide) (by kernel_rfl) ?_
    refine Al_storeN rfl rfl rfl (by kernel_rfl) Try.isAgg30 Try.sizeOf30 rfl rfl rfl rfl (Nat.le_of_ble_eq_true rfl) ?_
    refine Al_nil ?_
    refine Aw_ret ?_
    exact ⟨_, _, _, _, _, [_, _], rfl, rfl, rfl, rfl, rfl⟩ -- ret 1
set_option maxRecDepth 100000 in
set_option maxHeartbeats 1000000 in
theorem rahead_a (l : List Event) (hl : l.length ≤ 1000) (i : Int) : ACall Try.prog 36 [.sl 6 (l.map Event.row), iv i] (.sl 1 (natsA (G.aheadI l i))) := by
  refine ACall_enter (fun _ _ => by kernel_rfl) Try.func36 rfl Try.ntmps36 Try.results36 (Nat.le_of_ble_eq_true rfl) (fun hok M0 w0 hnl => ?_)
  refine Aw_seq ?_
  refine Aw_region ?_
  refine Al_pu (Pu_move (.inr rfl) (by conv => lhs; whnf)) rfl rfl (by decide) (by kernel_rfl) ?_
  refine Al_nil ?_
  refine Aw_seq ?_
  refine Aw_region ?_
  refine Al_pu (Pu_move (.inr rfl) (by conv => lhs; whnf)) rfl rfl (by decide) (by kernel_rfl) ?_
  refine Al_nil ?_
  refine Aw_seq ?_
  refine Aw_seq ?_
  refine Aw_region ?_
  refine Al_pu (Pu_move (.inl rfl) (by conv => lhs; whnf)) rfl rfl (by decide) (by kernel_rfl) ?_
  refine Al_pu (Pu_cmp rfl rfl rfl rfl) rfl rfl (by decide) (by kernel_rfl) ?_
  refine Al_pu (Pu_move (.inl rfl) (by conv => lhs; whnf)) rfl rfl (by decide) (by kernel_rfl) ?_
  refine Al_st (St_gd [] rfl rfl rfl rfl trivial (fun hg11 => by exact Pu_move (.inl rfl) (by conv => lhs; whnf))) rfl (by decide) (by kernel_rfl) (by intro j b oj dj h1 h2 h3; cases h1; cases h2; cases h3; decide) ?_
  refine Al_st (St_gd [] rfl rfl rfl rfl trivial (fun hg12 => by exact Pu_move (.inl rfl) (by conv => lhs; whnf))) rfl (by decide) (by kernel_rfl) (by intro j b oj dj h1 h2 h3; cases h1; cases h2; cases h3; decide) ?_
  refine Al_st (St_gd [12] rfl rfl rfl rfl ⟨⟨_, rfl⟩, trivial⟩ (fun hg13 => by exact Pu_len rfl Try.underlying24 rfl (by first | exact List.length_map .. | exact rfl))) rfl (by decide) (by kernel_rfl) (by intro j b oj dj h1 h2 h3; cases h1; cases h2; cases h3; decide) ?_
  refine Al_st (St_gd [11, 13] rfl rfl rfl rfl ⟨⟨_, rfl⟩, ⟨_, rfl⟩, trivial⟩ (fun hg14 => Pu_cmp rfl rfl rfl rfl)) rfl (by decide) (by kernel_rfl) (by intro j b oj dj h1 h2 h3; cases h1; cases h2; cases h3; decide) ?_
  refine Al_pu (Pu_or rfl rfl rfl rfl) rfl rfl (by decide) (by kernel_rfl) ?_
  refine Al_nil ?_
  refine Aw_cond rfl (fun h15 => ?_) (fun h15 => ?_)
  · (try simp only [decide_eq_true_eq, decide_eq_false_iff_not, Bool.and_eq_true, Bool.or_eq_true, Bool.and_eq_false_iff, Bool.or_eq_false_iff, Bool.not_eq_true', Bool.not_eq_false', beq_iff_eq, Bool.not_eq_eq_eq_not, Bool.not_true, Bool.not_false, List.length_map, Bool.and_true, Bool.and_false, Bool.false_and, Bool.true_and, Bool.or_false, Bool.false_or] at h15)
    have hno : ¬ (0 ≤ i ∧ i < l.length) := by omega
    rw [G.aheadI_no l hno]
    refine Aw_seq ?_
    refine Aw_region ?_
    refine Al_pu (Pu_move (.inr rfl) (by conv => lhs; whnf)) rfl rfl (by decide) (by kernel_rfl) ?_
    refine Al_nil ?_
    refine Aw_ret ?_
    exact Sub.nil -- ret 0
  · (try simp only [decide_eq_true_eq, decide_eq_false_iff_not, Bool.and_eq_true, Bool.or_eq_true, Bool.and_eq_false_iff, Bool.or_eq_false_iff, Bool.not_eq_true', Bool.not_eq_false', beq_iff_eq, Bool.not_eq_eq_eq_not, Bool.not_true, Bool.not_false, List.length_map, Bool.and_true, Bool.and_false, Bool.false_and, Bool.true_and, Bool.or_false, Bool.false_or] at h15)
    have hyes : 0 ≤ i ∧ i < l.length := by omega
    obtain ⟨i, rfl⟩ : ∃ n : Nat, i = n := ⟨i.toNat, by omega⟩
    have hi : i < l.length := by omega
    rw [G.aheadI_at l hi]
    have hma := rmarks_a l hl i hi
    have hml : (boolsA (G.marks l i 0)).length = l.length := by rw [boolsA_len, G.marks_len]
    have hml2 := G.marks_len l i 0
    refine Aw_skip ?_
    refine Aw_seq ?_
    refine Aw_region ?_
    refine Al_pu (Pu_move (.inl rfl) (by conv => lhs; whnf)) rfl rfl (by decide) (by kernel_rfl) ?_
    refine Al_pu (Pu_move (.inl rfl) (by conv => lhs; whnf)) rfl rfl (by decide) (by kernel_rfl) ?_
    refine Al_pu (Pu_call (hma) rfl ⟨Sub.rfl, Sub.rfl, trivial⟩) rfl rfl (by decide) (by kernel_rfl) ?_
    refine Al_pu (Pu_move (.inr rfl) (by conv => lhs; whnf)) rfl rfl (by decide) (by kernel_rfl) ?_
    refine Al_nil ?_
    refine Aw_seq ?_
    refine Aw_seq ?_
    refine Aw_region ?_
    refine Al_pu (Pu_move (.inr rfl) (by conv => lhs; whnf)) rfl rfl (by decide) (by kernel_rfl) ?_
    refine Al_nil ?_
    refine Aw_block ?_
    refine Aw_own (j := 5) (k := 5) (T := 3) (n := 1) rfl (fun g0 => ?_)
    refine Aw_loopk (ι := Nat × Nat) [6] [] (fun (k, g) => [(7, .d (iv k)), (5, .ow 5 g)]) (fun (k, g) => [(5, g, .arr 3 1 (natsA (G.aheadTo l i k)))]) (fun (k, g) => k ≤ l.length) (fun (k, g) => l.length - k) ((0, g0)) (Nat.zero_le _) ⟨Sub.rfl, Sub.rfl, trivial⟩ ⟨rfl, trivial⟩ ?_
    rintro ⟨k, g⟩ hk0
    refine Aw_seq ?_
    refine Aw_seq ?_
    refine Aw_region ?_
    refine Al_pu (Pu_move (.inl rfl) (by conv => lhs; whnf)) rfl rfl (by decide) (by kernel_rfl) ?_
    refine Al_pu (Pu_move (.inl rfl) (by conv => lhs; whnf)) rfl rfl (by decide) (by kernel_rfl) ?_
    refine Al_pu (Pu_len rfl Try.underlying83 rfl (by first | exact List.length_map .. | exact rfl)) rfl rfl (by decide) (by kernel_rfl) ?_
    refine Al_pu (Pu_cmp rfl rfl rfl rfl) rfl rfl (by decide) (by kernel_rfl) ?_
    refine Al_nil ?_
    refine Aw_cond rfl (fun h22 => ?_) (fun h22 => ?_)
    · (try simp only [decide_eq_true_eq, decide_eq_false_iff_not, Bool.and_eq_true, Bool.or_eq_true, Bool.and_eq_false_iff, Bool.or_eq_false_iff, Bool.not_eq_true', Bool.not_eq_false', beq_iff_eq, Bool.not_eq_eq_eq_not, Bool.not_true, Bool.not_false, List.length_map, Bool.and_true, Bool.and_false, Bool.false_and, Bool.true_and, Bool.or_false, Bool.false_or] at h22)
      have hk : k < l.length := by omega
      have hal := G.aheadTo_len l i k
      have hat : (boolsA (G.marks l i 0))[k]? = some [bv (G.ah l i k)] := by
        rw [List.getElem?_map, G.marks_at l i 0 hk, G.mk_all l hi]; rfl
      refine Aw_skip ?_
      -- join 0: live [5, 6, 7], turned [5]
      refine Aw_seq ?_
      refine Aw_block ?_
      refine Aw_seq ?_
      refine Aw_region ?_
      refine Al_pu (Pu_move (.inl rfl) (by conv => lhs; whnf)) rfl rfl (by decide) (by kernel_rfl) ?_
      refine Al_pu (Pu_move (.inl rfl) (by conv => lhs; whnf)) rfl rfl (by decide) (by kernel_rfl) ?_
      refine Al_pu (Pu_index rfl Try.underlying83 Try.sizeOf4 rfl rfl (rfl) (hat)) rfl rfl (by decide) (by kernel_rfl) ?_
      refine Al_pu (Pu_load1 rfl Try.isAgg4 rfl rfl) rfl rfl (by decide) (by kernel_rfl) ?_
      refine Al_nil ?_
      refine Aw_cond rfl (fun h28 => ?_) (fun h28 => ?_)
      · (try simp only [decide_eq_true_eq, decide_eq_false_iff_not, Bool.and_eq_true, Bool.or_eq_true, Bool.and_eq_false_iff, Bool.or_eq_false_iff, Bool.not_eq_true', Bool.not_eq_false', beq_iff_eq, Bool.not_eq_eq_eq_not, Bool.not_true, Bool.not_false, List.length_map, Bool.and_true, Bool.and_false, Bool.false_and, Bool.true_and, Bool.or_false, Bool.false_or] at h28)
        refine Aw_region ?_
        refine Al_pu (Pu_move (.inl rfl) (by conv => lhs; whnf)) rfl rfl (by decide) (by kernel_rfl) ?_
        refine Al_pu (Pu_move (.inl rfl) (by conv => lhs; whnf)) rfl rfl (by decide) (by kernel_rfl) ?_
        refine Al_pu (Pu_slice1 rfl Try.underlying27 Try.sizeOf3 Try.zeroValue3 rfl (by decide) (by decide) (by kernel_rfl) rfl rfl rfl) rfl rfl (by decide) (by kernel_rfl) ?_
        refine Al_append rfl rfl rfl (by decide) (by kernel_rfl) elem27 (by decide) Try.sizeOf3 rfl rfl rfl (by rw [List.length_map, List.length_singleton]; omega) (by decide) (fun g32 => ?_)
        refine Al_pu (Pu_move (.inr rfl) (by conv => lhs; whnf)) rfl rfl (by decide) (by kernel_rfl) ?_
        refine Al_nil ?_
        refine Aw_region ?_
        refine Al_pu (Pu_move (.inl rfl) (by conv => lhs; whnf)) rfl rfl (by decide) (by kernel_rfl) ?_
        refine Al_pu (Pu_add rfl rfl rfl (fun h1 h2 => by simp only [A.inI, A.maxI] at *; omega)) rfl rfl (by decide) (by kernel_rfl) ?_
        refine Al_pu (Pu_move (.inr rfl) (by conv => lhs; whnf)) rfl rfl (by decide) (by kernel_rfl) ?_
        refine Al_nil ?_
        exact ⟨(k + 1, g32), by omega, by simp only []; omega, Le.ov ⟨Sub.num (by omega), Sub.rfl, trivial⟩ ⟨Sub.rfl, trivial⟩ ⟨obeq (by rw [G.aheadTo_succ, h28, if_pos rfl, natsA_app]; rfl), trivial⟩ trivial⟩ -- loop 0 next.0
      · (try simp only [decide_eq_true_eq, decide_eq_false_iff_not, Bool.and_eq_true, Bool.or_eq_true, Bool.and_eq_false_iff, Bool.or_eq_false_iff, Bool.not_eq_true', Bool.not_eq_false', beq_iff_eq, Bool.not_eq_eq_eq_not, Bool.not_true, Bool.not_false, List.length_map, Bool.and_true, Bool.and_false, Bool.false_and, Bool.true_and, Bool.or_false, Bool.false_or] at h28)
        refine Aw_skip ?_
        refine Aw_region ?_
        refine Al_pu (Pu_move (.inl rfl) (by conv => lhs; whnf)) rfl rfl (by decide) (by kernel_rfl) ?_
        refine Al_pu (Pu_add rfl rfl rfl (fun h1 h2 => by simp only [A.inI, A.maxI] at *; omega)) rfl rfl (by decide) (by kernel_rfl) ?_
        refine Al_pu (Pu_move (.inr rfl) (by conv => lhs; whnf)) rfl rfl (by decide) (by kernel_rfl) ?_
        refine Al_nil ?_
        exact ⟨(k + 1, g), by omega, by simp only []; omega, Le.ov ⟨Sub.num (by omega), Sub.rfl, trivial⟩ ⟨Sub.rfl, trivial⟩ ⟨obeq (by rw [G.aheadTo_succ, h28, if_neg (by decide), List.append_nil]), trivial⟩ trivial⟩ -- loop 0 next.1
    · (try simp only [decide_eq_true_eq, decide_eq_false_iff_not, Bool.and_eq_true, Bool.or_eq_true, Bool.and_eq_false_iff, Bool.or_eq_false_iff, Bool.not_eq_true', Bool.not_eq_false', beq_iff_eq, Bool.not_eq_eq_eq_not, Bool.not_true, Bool.not_false, List.length_map, Bool.and_true, Bool.and_false, Bool.false_and, Bool.true_and, Bool.or_false, Bool.false_or] at h22)
      obtain rfl : k = l.length := by omega
      refine Aw_exit ?_
      refine Aw_seq ?_
      refine Aw_region ?_
      refine Al_pu (Pu_move (.inl rfl) (by conv => lhs; whnf)) rfl rfl (by decide) (by kernel_rfl) ?_
      refine Al_pu (Pu_move (.inr rfl) (by conv => lhs; whnf)) rfl rfl (by decide) (by kernel_rfl) ?_
      refine Al_nil ?_
      refine Aw_frz hnl (k := 5) [4] rfl ⟨rfl, trivial⟩ ?_
      refine Aw_ret ?_
      exact Sub.rfl -- ret 1
set_option maxRecDepth 100000 in
theorem rbefore_a (l : List Event) (hl : l.length ≤ 1000) (i j : Int) : ACall Try.prog 40 [.sl 6 (l.map Event.row), iv i, iv j] (bv (G.beforeB l i j)) := by
  refine ACall_enter (fun _ _ => by kernel_rfl) Try.func40 rfl Try.ntmps40 Try.results40 (Nat.le_of_ble_eq_true rfl) (fun hok M0 w0 hnl => ?_)
  have hA := rahead_a l hl j
  have hal := G.aheadI_len l j
  refine Aw_seq ?_
  refine Aw_region ?_
  refine Al_pu (Pu_move (.inr rfl) (by conv => lhs; whnf)) rfl rfl (by decide) (by kernel_rfl) ?_
  refine Al_nil ?_
  refine Aw_seq ?_
  refine Aw_region ?_
  refine Al_pu (Pu_move (.inl rfl) (by conv => lhs; whnf)) rfl rfl (by decide) (by kernel_rfl) ?_
  refine Al_pu (Pu_move (.inl rfl) (by conv => lhs; whnf)) rfl rfl (by decide) (by kernel_rfl) ?_
  refine Al_pu (Pu_call (hA) rfl ⟨Sub.rfl, Sub.rfl, trivial⟩) rfl rfl (by decide) (by kernel_rfl) ?_
  refine Al_pu (Pu_move (.inr rfl) (by conv => lhs; whnf)) rfl rfl (by decide) (by kernel_rfl) ?_
  refine Al_nil ?_
  refine Aw_seq ?_
  refine Aw_seq ?_
  refine Aw_region ?_
  refine Al_pu (Pu_move (.inr rfl) (by conv => lhs; whnf)) rfl rfl (by decide) (by kernel_rfl) ?_
  refine Al_nil ?_
  refine Aw_block ?_
  refine Aw_loopk (ι := Nat) [1, 7] [] (fun k => [(8, .d (iv k))]) (fun k => []) (fun k => k ≤ (G.aheadI l j).length ∧ ∀ x (hx : x < (G.aheadI l j).length), x < k → ¬ (((G.aheadI l j)[x] : Nat) : Int) = i) (fun k => (G.aheadI l j).length - k) (0) (⟨Nat.zero_le _, by intros; omega⟩) ⟨Sub.rfl, trivial⟩ trivial ?_
  rintro k ⟨hk0, hno⟩
  refine Aw_seq ?_
  refine Aw_seq ?_
  refine Aw_region ?_
  refine Al_pu (Pu_move (.inl rfl) (by conv => lhs; whnf)) rfl rfl (by decide) (by kernel_rfl) ?_
  refine Al_pu (Pu_move (.inl rfl) (by conv => lhs; whnf)) rfl rfl (by decide) (by kernel_rfl) ?_
  refine Al_pu (Pu_len rfl Try.underlying27 rfl (by first | exact List.length_map .. | exact rfl)) rfl rfl (by decide) (by kernel_rfl) ?_
  refine Al_pu (Pu_cmp rfl rfl rfl rfl) rfl rfl (by decide) (by kernel_rfl) ?_
  refine Al_nil ?_
  refine Aw_cond rfl (fun h15 => ?_) (fun h15 => ?_)
  · (try simp only [decide_eq_true_eq, decide_eq_false_iff_not, Bool.and_eq_true, Bool.or_eq_true, Bool.and_eq_false_iff, Bool.or_eq_false_iff, Bool.not_eq_true', Bool.not_eq_false', beq_iff_eq, Bool.not_eq_eq_eq_not, Bool.not_true, Bool.not_false, List.length_map, Bool.and_true, Bool.and_false, Bool.false_and, Bool.true_and, Bool.or_false, Bool.false_or] at h15)
    have hk : k < (G.aheadI l j).length := by omega
    refine Aw_skip ?_
    refine Aw_seq ?_
    refine Aw_block ?_
    refine Aw_seq ?_
    refine Aw_region ?_
    refine Al_pu (Pu_move (.inl rfl) (by conv => lhs; whnf)) rfl rfl (by decide) (by kernel_rfl) ?_
    refine Al_pu (Pu_move (.inl rfl) (by conv => lhs; whnf)) rfl rfl (by decide) (by kernel_rfl) ?_
    refine Al_pu (Pu_index rfl Try.underlying27 Try.sizeOf3 rfl rfl (rfl) (mapget hk)) rfl rfl (by decide) (by kernel_rfl) ?_
    refine Al_pu (Pu_load1 rfl Try.isAgg3 rfl rfl) rfl rfl (by decide) (by kernel_rfl) ?_
    refine Al_pu (Pu_move (.inl rfl) (by conv => lhs; whnf)) rfl rfl (by decide) (by kernel_rfl) ?_
    refine Al_pu (Pu_cmp rfl rfl rfl rfl) rfl rfl (by decide) (by kernel_rfl) ?_
    refine Al_nil ?_
    refine Aw_cond rfl (fun h23 => ?_) (fun h23 => ?_)
    · skip
      have hb : G.beforeB l i j = true := by
        unfold G.beforeB
        rw [List.any_eq_true]
        exact ⟨_, List.mem_map.2 ⟨_, List.getElem_mem hk, rfl⟩, decide_eq_true (of_decide_eq_true h23).symm⟩
      refine Aw_seq ?_
      refine Aw_region ?_
      refine Al_pu (Pu_move (.inr rfl) (by conv => lhs; whnf)) rfl rfl (by decide) (by kernel_rfl) ?_
      refine Al_nil ?_
      refine Aw_ret ?_
      exact Sub.bool hb.symm -- ret 0
    · skip
      have hne := of_decide_eq_false h23
      refine Aw_skip ?_
      refine Aw_region ?_
      refine Al_pu (Pu_move (.inl rfl) (by conv => lhs; whnf)) rfl rfl (by decide) (by kernel_rfl) ?_
      refine Al_pu (Pu_add rfl rfl rfl (fun h1 h2 => by simp only [A.inI, A.maxI] at *; omega)) rfl rfl (by decide) (by kernel_rfl) ?_
      refine Al_pu (Pu_move (.inr rfl) (by conv => lhs; whnf)) rfl rfl (by decide) (by kernel_rfl) ?_
      refine Al_nil ?_
      exact ⟨k + 1, ⟨by omega, fun x hx hxk => by
        by_cases e : x = k
        · subst e; exact hne
        · exact hno x hx (by omega)⟩, by omega, Le.ov ⟨Sub.num (by omega), trivial⟩ ⟨Sub.rfl, Sub.rfl, trivial⟩ trivial trivial⟩ -- loop 0 next.0
  · (try simp only [decide_eq_true_eq, decide_eq_false_iff_not, Bool.and_eq_true, Bool.or_eq_true, Bool.and_eq_false_iff, Bool.or_eq_false_iff, Bool.not_eq_true', Bool.not_eq_false', beq_iff_eq, Bool.not_eq_eq_eq_not, Bool.not_true, Bool.not_false, List.length_map, Bool.and_true, Bool.and_false, Bool.false_and, Bool.true_and, Bool.or_false, Bool.false_or] at h15)
    have hb : G.beforeB l i j = false := by
      unfold G.beforeB
      rw [List.any_eq_false]
      intro y hy
      obtain ⟨z, hz, rfl⟩ := List.mem_map.1 hy
      obtain ⟨x, hx, rfl⟩ := List.getElem_of_mem hz
      simpa using fun e => hno x hx (by omega) (Eq.symm e)
    refine Aw_exit ?_
    refine Aw_seq ?_
    refine Aw_region ?_
    refine Al_pu (Pu_move (.inr rfl) (by conv => lhs; whnf)) rfl rfl (by decide) (by kernel_rfl) ?_
    refine Al_nil ?_
    refine Aw_ret ?_
    exact Sub.bool hb.symm -- ret 1
theorem G.depTo_all (l : List Event) (j i : Nat) : (G.depTo l j).getD i 0 ≤ j := by
  rcases Nat.lt_or_ge i j with h | h
  · have := G.depTo_le l j i h; omega
  · rw [List.getD_eq_getElem?_getD, List.getElem?_eq_none (by rw [G.depTo_len]; exact h)]; simp
set_option maxRecDepth 100000 in
set_option maxHeartbeats 1000000 in
theorem rdepth_a (l : List Event) (hl : l.length ≤ 1000) : ACall Try.prog 37 [.sl 6 (l.map Event.row)] (.sl 1 (natsA (G.depths l))) := by
  refine ACall_enter (fun _ _ => by kernel_rfl) Try.func37 rfl Try.ntmps37 Try.results37 (Nat.le_of_ble_eq_true rfl) (fun hok M0 w0 hnl => ?_)
  have hE := redges_a l hl
  have hel := G.edges_len l
  refine Aw_seq ?_
  refine Aw_region ?_
  refine Al_pu (Pu_move (.inr rfl) (by conv => lhs; whnf)) rfl rfl (by decide) (by kernel_rfl) ?_
  refine Al_nil ?_
  refine Aw_seq ?_
  refine Aw_region ?_
  refine Al_pu (Pu_move (.inr rfl) (by conv => lhs; whnf)) rfl rfl (by decide) (by kernel_rfl) ?_
  refine Al_nil ?_
  refine Aw_seq ?_
  refine Aw_region ?_
  refine Al_pu (Pu_move (.inl rfl) (by conv => lhs; whnf)) rfl rfl (by decide) (by kernel_rfl) ?_
  refine Al_pu (Pu_call (hE) rfl ⟨Sub.rfl, trivial⟩) rfl rfl (by decide) (by kernel_rfl) ?_
  refine Al_pu (Pu_move (.inr rfl) (by conv => lhs; whnf)) rfl rfl (by decide) (by kernel_rfl) ?_
  refine Al_nil ?_
  refine Aw_seq ?_
  refine Aw_seq ?_
  refine Aw_region ?_
  refine Al_pu (Pu_move (.inr rfl) (by conv => lhs; whnf)) rfl rfl (by decide) (by kernel_rfl) ?_
  refine Al_nil ?_
  refine Aw_block ?_
  refine Aw_own (j := 3) (k := 3) (T := 3) (n := 1) rfl (fun g0 => ?_)
  refine Aw_loopk (ι := Nat × Nat) [0, 4] [] (fun (j, g) => [(5, .d (iv j)), (3, .ow 3 g)]) (fun (j, g) => [(3, g, .arr 3 1 (natsA (G.depTo l j)))]) (fun (j, g) => j ≤ l.length) (fun (j, g) => l.length - j) ((0, g0)) (Nat.zero_le _) ⟨Sub.rfl, Sub.rfl, trivial⟩ ⟨rfl, trivial⟩ ?_
  rintro ⟨j, g⟩ hk0
  refine Aw_seq ?_
  refine Aw_seq ?_
  refine Aw_region ?_
  refine Al_pu (Pu_move (.inl rfl) (by conv => lhs; whnf)) rfl rfl (by decide) (by kernel_rfl) ?_
  refine Al_pu (Pu_move (.inl rfl) (by conv => lhs; whnf)) rfl rfl (by decide) (by kernel_rfl) ?_
  refine Al_pu (Pu_len rfl Try.underlying24 rfl (by first | exact List.length_map .. | exact rfl)) rfl rfl (by decide) (by kernel_rfl) ?_
  refine Al_pu (Pu_cmp rfl rfl rfl rfl) rfl rfl (by decide) (by kernel_rfl) ?_
  refine Al_nil ?_
  refine Aw_cond rfl (fun h13 => ?_) (fun h13 => ?_)
  · (try simp only [decide_eq_true_eq, decide_eq_false_iff_not, Bool.and_eq_true, Bool.or_eq_true, Bool.and_eq_false_iff, Bool.or_eq_false_iff, Bool.not_eq_true', Bool.not_eq_false', beq_iff_eq, Bool.not_eq_eq_eq_not, Bool.not_true, Bool.not_false, List.length_map, Bool.and_true, Bool.and_false, Bool.false_and, Bool.true_and, Bool.or_false, Bool.false_or] at h13)
    have hj : j < l.length := by omega
    have hdj := G.depTo_all l j
    have hdl : (natsA (G.depTo l j)).length = j := by rw [natsA_len, G.depTo_len]
    have hall := G.depE2_all l (G.depTo l j) hj
    refine Aw_skip ?_
    refine Aw_seq ?_
    refine Aw_block ?_
    refine Aw_seq ?_
    refine Aw_region ?_
    refine Al_pu (Pu_move (.inr rfl) (by conv => lhs; whnf)) rfl rfl (by decide) (by kernel_rfl) ?_
    refine Al_nil ?_
    refine Aw_seq ?_
    refine Aw_seq ?_
    refine Aw_region ?_
    refine Al_pu (Pu_move (.inr rfl) (by conv => lhs; whnf)) rfl rfl (by decide) (by kernel_rfl) ?_
    refine Al_nil ?_
    refine Aw_block ?_
    refine Aw_loopk (ι := Nat) [0, 4, 5] [3] (fun k => [(7, .d (iv k)), (3, .ow 3 g), (6, .d (iv (G.depE2 l (G.depTo l j) j k : Nat)))]) (fun k => []) (fun k => k ≤ (G.edges l).length) (fun k => (G.edges l).length - k) (0) (Nat.zero_le _) ⟨Sub.rfl, Sub.rfl, Sub.rfl, trivial⟩ trivial ?_
    rintro k hk1
    refine Aw_seq ?_
    refine Aw_seq ?_
    refine Aw_region ?_
    refine Al_pu (Pu_move (.inl rfl) (by conv => lhs; whnf)) rfl rfl (by decide) (by kernel_rfl) ?_
    refine Al_pu (Pu_move (.inl rfl) (by conv => lhs; whnf)) rfl rfl (by decide) (by kernel_rfl) ?_
    refine Al_pu (Pu_len rfl Try.underlying44 rfl (by first | exact List.length_map .. | exact rfl)) rfl rfl (by decide) (by kernel_rfl) ?_
    refine Al_pu (Pu_cmp rfl rfl rfl rfl) rfl rfl (by decide) (by kernel_rfl) ?_
    refine Al_nil ?_
    refine Aw_cond rfl (fun h19 => ?_) (fun h19 => ?_)
    · (try simp only [decide_eq_true_eq, decide_eq_false_iff_not, Bool.and_eq_true, Bool.or_eq_true, Bool.and_eq_false_iff, Bool.or_eq_false_iff, Bool.not_eq_true', Bool.not_eq_false', beq_iff_eq, Bool.not_eq_eq_eq_not, Bool.not_true, Bool.not_false, List.length_map, Bool.and_true, Bool.and_false, Bool.false_and, Bool.true_and, Bool.or_false, Bool.false_or] at h19)
      have hk : k < (G.edges l).length := by omega
      have hem := G.edges_mem.1 (List.getElem_mem hk)
      have hlt := G.dirN_lt hem.2
      have hgp : (G.edges l).getD k default = (G.edges l)[k] := by simp [hk]
      have hd1 := hdj ((G.edges l).getD k default).1
      have hin : decide ((((G.edges l).getD k default).2 : Int) = (j : Int)) = true → ((G.edges l).getD k default).1 < (G.depTo l j).length := fun h => by
        have := of_decide_eq_true h
        rw [hgp] at this ⊢
        rw [G.depTo_len]; omega
      have hsu := G.depE2_succ l (G.depTo l j) j hk
      refine Aw_skip ?_
      -- join 0: live [0, 3, 4, 5, 6, 7], turned [6]
      refine Aw_seq ?_
      refine Aw_block ?_
      refine Aw_seq ?_
      refine Aw_region ?_
      refine Al_pu (Pu_move (.inl rfl) (by conv => lhs; whnf)) rfl rfl (by decide) (by kernel_rfl) ?_
      refine Al_pu (Pu_move (.inl rfl) (by conv => lhs; whnf)) rfl rfl (by decide) (by kernel_rfl) ?_
      refine Al_pu (Pu_index rfl Try.underlying44 Try.sizeOf47 rfl rfl (rfl) (mapgetD (d := default) hk)) rfl rfl (by decide) (by kernel_rfl) ?_
      refine Al_pu (Pu_indexArr rfl Try.underlying47 Try.sizeOf3 rfl rfl (show ((1 : Int)) = ((1 : Nat) : Int) from rfl) (by decide)) rfl rfl (by decide) (by kernel_rfl) ?_
      refine Al_pu (Pu_load1 rfl Try.isAgg3 rfl rfl) rfl rfl (by decide) (by kernel_rfl) ?_
      refine Al_pu (Pu_move (.inl rfl) (by conv => lhs; whnf)) rfl rfl (by decide) (by kernel_rfl) ?_
      refine Al_pu (Pu_cmp rfl rfl rfl rfl) rfl rfl (by decide) (by kernel_rfl) ?_
      refine Al_pu (Pu_move (.inl rfl) (by conv => lhs; whnf)) rfl rfl (by decide) (by kernel_rfl) ?_
      refine Al_st (St_gd [] rfl rfl rfl rfl trivial (fun hg30 => by exact Pu_move (.inl rfl) (by conv => lhs; whnf))) rfl (by decide) (by kernel_rfl) (by intro j b oj dj h1 h2 h3; cases h1; cases h2; cases h3; decide) ?_
      refine Al_st (St_gd [] rfl rfl rfl rfl trivial (fun hg31 => by exact Pu_move (.inl rfl) (by conv => lhs; whnf))) rfl (by decide) (by kernel_rfl) (by intro j b oj dj h1 h2 h3; cases h1; cases h2; cases h3; decide) ?_
      refine Al_st (St_gd [] rfl rfl rfl rfl trivial (fun hg32 => by exact Pu_move (.inl rfl) (by conv => lhs; whnf))) rfl (by decide) (by kernel_rfl) (by intro j b oj dj h1 h2 h3; cases h1; cases h2; cases h3; decide) ?_
      refine Al_st (St_gd [31, 32] rfl rfl rfl rfl ⟨⟨_, rfl⟩, ⟨_, rfl⟩, trivial⟩ (fun hg33 => Pu_index rfl Try.underlying44 Try.sizeOf47 rfl rfl (rfl) (mapgetD (d := default) hk))) rfl (by decide) (by kernel_rfl) (by intro j b oj dj h1 h2 h3; cases h1; cases h2; cases h3; decide) ?_
      refine Al_st (St_gd [33] rfl rfl rfl rfl ⟨⟨_, rfl⟩, trivial⟩ (fun hg34 => by exact Pu_indexArr rfl Try.underlying47 Try.sizeOf3 rfl rfl (show ((0 : Int)) = ((0 : Nat) : Int) from rfl) (by decide))) rfl (by decide) (by kernel_rfl) (by intro j b oj dj h1 h2 h3; cases h1; cases h2; cases h3; decide) ?_
      refine Al_st (St_gd [34] rfl rfl rfl rfl ⟨⟨_, rfl⟩, trivial⟩ (fun hg35 => Pu_load1 rfl Try.isAgg3 rfl rfl)) rfl (by decide) (by kernel_rfl) (by intro j b oj dj h1 h2 h3; cases h1; cases h2; cases h3; decide) ?_
      refine Al_st (St_gd [30, 35] rfl rfl rfl rfl ⟨⟨_, rfl⟩, ⟨_, rfl⟩, trivial⟩ (fun hg36 => by exact Pu_indexOw (j := ((G.edges l).getD k default).1) rfl Try.underlying27 Try.sizeOf3 rfl rfl rfl rfl (by rw [natsA_len]; exact hin hg36))) rfl (by decide) (by kernel_rfl) (by intro j b oj dj h1 h2 h3; cases h1; cases h2; cases h3; decide) ?_
      refine Al_st (St_gd [36] rfl rfl rfl rfl ⟨⟨_, rfl⟩, trivial⟩ (fun hg37 => Pu_loadArr rfl Try.isAgg3 rfl rfl (natsA_at (hin hg37)))) rfl (by decide) (by kernel_rfl) (by intro j b oj dj h1 h2 h3; cases h1; cases h2; cases h3; decide) ?_
      refine Al_st (St_gd [37] rfl rfl rfl rfl ⟨⟨_, rfl⟩, trivial⟩ (fun hg38 => by exact Pu_add rfl rfl rfl (fun h1 h2 => by simp only [A.inI]; omega))) rfl (by decide) (by kernel_rfl) (by intro j b oj dj h1 h2 h3; cases h1; cases h2; cases h3; decide) ?_
      refine Al_st (St_gd [] rfl rfl rfl rfl trivial (fun hg39 => by exact Pu_move (.inl rfl) (by conv => lhs; whnf))) rfl (by decide) (by kernel_rfl) (by intro j b oj dj h1 h2 h3; cases h1; cases h2; cases h3; decide) ?_
      refine Al_st (St_gd [38, 39] rfl rfl rfl rfl ⟨⟨_, rfl⟩, ⟨_, rfl⟩, trivial⟩ (fun hg40 => Pu_cmp rfl rfl rfl rfl)) rfl (by decide) (by kernel_rfl) (by intro j b oj dj h1 h2 h3; cases h1; cases h2; cases h3; decide) ?_
      refine Al_pu (Pu_and rfl rfl rfl rfl) rfl rfl (by decide) (by kernel_rfl) ?_
      refine Al_nil ?_
      refine Aw_cond rfl (fun h41 => ?_) (fun h41 => ?_)
      · skip
        simp only [Bool.and_eq_true] at h41
        have hin' := hin h41.1
        refine Aw_region ?_
        refine Al_pu (Pu_move (.inl rfl) (by conv => lhs; whnf)) rfl rfl (by decide) (by kernel_rfl) ?_
        refine Al_pu (Pu_move (.inl rfl) (by conv => lhs; whnf)) rfl rfl (by decide) (by kernel_rfl) ?_
        refine Al_pu (Pu_move (.inl rfl) (by conv => lhs; whnf)) rfl rfl (by decide) (by kernel_rfl) ?_
        refine Al_pu (Pu_index rfl Try.underlying44 Try.sizeOf47 rfl rfl (rfl) (mapgetD (d := default) hk)) rfl rfl (by decide) (by kernel_rfl) ?_
        refine Al_pu (Pu_indexArr rfl Try.underlying47 Try.sizeOf3 rfl rfl (show ((0 : Int)) = ((0 : Nat) : Int) from rfl) (by decide)) rfl rfl (by decide) (by kernel_rfl) ?_
        refine Al_pu (Pu_load1 rfl Try.isAgg3 rfl rfl) rfl rfl (by decide) (by kernel_rfl) ?_
        refine Al_pu (Pu_indexOw (j := ((G.edges l).getD k default).1) rfl Try.underlying27 Try.sizeOf3 rfl rfl rfl rfl (by rw [natsA_len]; exact hin')) rfl rfl (by decide) (by kernel_rfl) ?_
        refine Al_pu (Pu_loadArr rfl Try.isAgg3 rfl rfl (natsA_at hin')) rfl rfl (by decide) (by kernel_rfl) ?_
        refine Al_pu (Pu_add rfl rfl rfl (fun h1 h2 => by simp only [A.inI]; omega)) rfl rfl (by decide) (by kernel_rfl) ?_
        refine Al_pu (Pu_move (.inr rfl) (by conv => lhs; whnf)) rfl rfl (by decide) (by kernel_rfl) ?_
        refine Al_nil ?_
        refine Aw_region ?_
        refine Al_pu (Pu_move (.inl rfl) (by conv => lhs; whnf)) rfl rfl (by decide) (by kernel_rfl) ?_
        refine Al_pu (Pu_add rfl rfl rfl (fun h1 h2 => by simp only [A.inI, A.maxI] at *; omega)) rfl rfl (by decide) (by kernel_rfl) ?_
        refine Al_pu (Pu_move (.inr rfl) (by conv => lhs; whnf)) rfl rfl (by decide) (by kernel_rfl) ?_
        refine Al_nil ?_
        exact ⟨k + 1, by omega, by omega, Le.ov ⟨Sub.num (by omega), Sub.rfl, Sub.num (by
          have h1 := of_decide_eq_true h41.1
          have h2 := of_decide_eq_true h41.2
          rw [hsu, G.depQ, if_pos (by rw [← hgp]; omega), ← hgp]; omega), trivial⟩ ⟨Sub.rfl, Sub.rfl, Sub.rfl, trivial⟩ trivial ⟨rfl, trivial⟩⟩ -- loop 1 next.0
      · skip
        have hnq : G.depE2 l (G.depTo l j) j (k + 1) = G.depE2 l (G.depTo l j) j k := by
          rw [hsu, G.depQ, if_neg]
          rintro ⟨h1, h2⟩
          rw [← hgp] at h1 h2
          rw [decide_eq_true (by omega), Bool.true_and, decide_eq_false_iff_not] at h41
          omega
        refine Aw_skip ?_
        refine Aw_region ?_
        refine Al_pu (Pu_move (.inl rfl) (by conv => lhs; whnf)) rfl rfl (by decide) (by kernel_rfl) ?_
        refine Al_pu (Pu_add rfl rfl rfl (fun h1 h2 => by simp only [A.inI, A.maxI] at *; omega)) rfl rfl (by decide) (by kernel_rfl) ?_
        refine Al_pu (Pu_move (.inr rfl) (by conv => lhs; whnf)) rfl rfl (by decide) (by kernel_rfl) ?_
        refine Al_nil ?_
        exact ⟨k + 1, by omega, by omega, Le.ov ⟨Sub.num (by omega), Sub.rfl, Sub.num (by rw [hnq]), trivial⟩ ⟨Sub.rfl, Sub.rfl, Sub.rfl, trivial⟩ trivial ⟨rfl, trivial⟩⟩ -- loop 1 next.1
    · (try simp only [decide_eq_true_eq, decide_eq_false_iff_not, Bool.and_eq_true, Bool.or_eq_true, Bool.and_eq_false_iff, Bool.or_eq_false_iff, Bool.not_eq_true', Bool.not_eq_false', beq_iff_eq, Bool.not_eq_eq_eq_not, Bool.not_true, Bool.not_false, List.length_map, Bool.and_true, Bool.and_false, Bool.false_and, Bool.true_and, Bool.or_false, Bool.false_or] at h19)
      have hkk : k = (G.edges l).length := by omega
      refine Aw_exit ?_
      refine Aw_region ?_
      refine Al_pu (Pu_move (.inl rfl) (by conv => lhs; whnf)) rfl rfl (by decide) (by kernel_rfl) ?_
      refine Al_pu (Pu_move (.inl rfl) (by conv => lhs; whnf)) rfl rfl (by decide) (by kernel_rfl) ?_
      refine Al_pu (Pu_slice1 rfl Try.underlying27 Try.sizeOf3 Try.zeroValue3 rfl (by decide) (by decide) (by kernel_rfl) rfl rfl rfl) rfl rfl (by decide) (by kernel_rfl) ?_
      refine Al_append rfl rfl rfl (by decide) (by kernel_rfl) elem27 (by decide) Try.sizeOf3 rfl rfl rfl (by rw [hdl]; simp; omega) (by decide) (fun g54 => ?_)
      refine Al_pu (Pu_move (.inr rfl) (by conv => lhs; whnf)) rfl rfl (by decide) (by kernel_rfl) ?_
      refine Al_nil ?_
      refine Aw_region ?_
      refine Al_pu (Pu_move (.inl rfl) (by conv => lhs; whnf)) rfl rfl (by decide) (by kernel_rfl) ?_
      refine Al_pu (Pu_add rfl rfl rfl (fun h1 h2 => by simp only [A.inI, A.maxI] at *; omega)) rfl rfl (by decide) (by kernel_rfl) ?_
      refine Al_pu (Pu_move (.inr rfl) (by conv => lhs; whnf)) rfl rfl (by decide) (by kernel_rfl) ?_
      refine Al_nil ?_
      exact ⟨(j + 1, g54), by omega, by simp only []; omega, Le.ov ⟨Sub.num (by omega), Sub.rfl, trivial⟩ ⟨Sub.rfl, Sub.rfl, trivial⟩ ⟨obeq (by rw [hkk, hall, G.depTo, natsA_app]; rfl), trivial⟩ trivial⟩ -- loop 0 next.0
  · (try simp only [decide_eq_true_eq, decide_eq_false_iff_not, Bool.and_eq_true, Bool.or_eq_true, Bool.and_eq_false_iff, Bool.or_eq_false_iff, Bool.not_eq_true', Bool.not_eq_false', beq_iff_eq, Bool.not_eq_eq_eq_not, Bool.not_true, Bool.not_false, List.length_map, Bool.and_true, Bool.and_false, Bool.false_and, Bool.true_and, Bool.or_false, Bool.false_or] at h13)
    have hjj : j = l.length := by omega
    refine Aw_exit ?_
    refine Aw_seq ?_
    refine Aw_region ?_
    refine Al_pu (Pu_move (.inl rfl) (by conv => lhs; whnf)) rfl rfl (by decide) (by kernel_rfl) ?_
    refine Al_pu (Pu_move (.inr rfl) (by conv => lhs; whnf)) rfl rfl (by decide) (by kernel_rfl) ?_
    refine Al_nil ?_
    refine Aw_frz hnl (k := 3) [2] rfl ⟨rfl, trivial⟩ ?_
    refine Aw_ret ?_
    exact Sub.d (by rw [hjj]; rfl) -- ret 0
end Go.Proofs.Ytgoncpjgpkoacaa

set_option linter.unusedSimpArgs false
set_option linter.unusedVariables false
namespace Go.Proofs.Ytgoncpjgpkoacaa
open Go.RowKit A R
open A.RowT
set_option maxRecDepth 100000 in
set_option maxHeartbeats 1000000 in
theorem rseen_a (l : List Event) (hl : l.length ≤ 1000) (i : Int) : ACall Try.prog 39 [.sl 6 (l.map Event.row), iv i] (.sl 3 ((G.seen l i).map Dep.row)) := by
  refine ACall_enter (fun _ _ => by kernel_rfl) Try.func39 rfl Try.ntmps39 Try.results39 (Nat.le_of_ble_eq_true rfl) (fun hok M0 w0 hnl => ?_)
  have hA := rahead_a l hl i
  have hal := G.aheadI_len l i
  refine Aw_seq ?_
  refine Aw_region ?_
  refine Al_pu (Pu_move (.inr rfl) (by conv => lhs; whnf)) rfl rfl (by decide) (by kernel_rfl) ?_
  refine Al_nil ?_
  refine Aw_seq ?_
  refine Aw_region ?_
  refine Al_pu (Pu_move (.inr rfl) (by conv => lhs; whnf)) rfl rfl (by decide) (by kernel_rfl) ?_
  refine Al_nil ?_
  refine Aw_seq ?_
  refine Aw_region ?_
  refine Al_pu (Pu_move (.inl rfl) (by conv => lhs; whnf)) rfl rfl (by decide) (by kernel_rfl) ?_
  refine Al_pu (Pu_move (.inl rfl) (by conv => lhs; whnf)) rfl rfl (by decide) (by kernel_rfl) ?_
  refine Al_pu (Pu_call (hA) rfl ⟨Sub.rfl, Sub.rfl, trivial⟩) rfl rfl (by decide) (by kernel_rfl) ?_
  refine Al_pu (Pu_move (.inr rfl) (by conv => lhs; whnf)) rfl rfl (by decide) (by kernel_rfl) ?_
  refine Al_nil ?_
  refine Aw_seq ?_
  refine Aw_seq ?_
  refine Aw_region ?_
  refine Al_pu (Pu_move (.inr rfl) (by conv => lhs; whnf)) rfl rfl (by decide) (by kernel_rfl) ?_
  refine Al_nil ?_
  refine Aw_block ?_
  refine Aw_loopk (ι := Nat) [0, 6] [] (fun k => [(7, .d (iv k)), (5, .d (.sl 3 ((G.seenTo l (G.aheadI l i) k).map Dep.row)))]) (fun k => []) (fun k => k ≤ (G.aheadI l i).length) (fun k => (G.aheadI l i).length - k) (0) (Nat.zero_le _) ⟨Sub.rfl, Sub.nil, trivial⟩ trivial ?_
  rintro k hk0
  refine Aw_seq ?_
  refine Aw_seq ?_
  refine Aw_region ?_
  refine Al_pu (Pu_move (.inl rfl) (by conv => lhs; whnf)) rfl rfl (by decide) (by kernel_rfl) ?_
  refine Al_pu (Pu_move (.inl rfl) (by conv => lhs; whnf)) rfl rfl (by decide) (by kernel_rfl) ?_
  refine Al_pu (Pu_len rfl Try.underlying27 rfl (by first | exact List.length_map .. | exact rfl)) rfl rfl (by decide) (by kernel_rfl) ?_
  refine Al_pu (Pu_cmp rfl rfl rfl rfl) rfl rfl (by decide) (by kernel_rfl) ?_
  refine Al_nil ?_
  refine Aw_cond rfl (fun h15 => ?_) (fun h15 => ?_)
  · (try simp only [decide_eq_true_eq, decide_eq_false_iff_not, Bool.and_eq_true, Bool.or_eq_true, Bool.and_eq_false_iff, Bool.or_eq_false_iff, Bool.not_eq_true', Bool.not_eq_false', beq_iff_eq, Bool.not_eq_eq_eq_not, Bool.not_true, Bool.not_false, List.length_map, Bool.and_true, Bool.and_false, Bool.false_and, Bool.true_and, Bool.or_false, Bool.false_or] at h15)
    have hk : k < (G.aheadI l i).length := by omega
    have hjl := G.aheadI_lt (List.getElem_mem hk)
    obtain ⟨hg1, hg2⟩ := G.seenTo_good l (G.aheadI l i) k (by omega)
    have hpa := dadd_a (G.seenTo l (G.aheadI l i) k) (G.depE (l.getD ((G.aheadI l i)[k]'hk) default)) (by omega)
    have hss := G.seenTo_succ l (G.aheadI l i) hk
    refine Aw_skip ?_
    -- join 0: live [0, 5, 6, 7], turned [5]
    refine Aw_seq ?_
    refine Aw_block ?_
    refine Aw_seq ?_
    refine Aw_region ?_
    refine Al_pu (Pu_move (.inl rfl) (by conv => lhs; whnf)) rfl rfl (by decide) (by kernel_rfl) ?_
    refine Al_pu (Pu_move (.inl rfl) (by conv => lhs; whnf)) rfl rfl (by decide) (by kernel_rfl) ?_
    refine Al_pu (Pu_move (.inl rfl) (by conv => lhs; whnf)) rfl rfl (by decide) (by kernel_rfl) ?_
    refine Al_pu (Pu_index rfl Try.underlying27 Try.sizeOf3 rfl rfl (rfl) (mapget hk)) rfl rfl (by decide) (by kernel_rfl) ?_
    refine Al_pu (Pu_load1 rfl Try.isAgg3 rfl rfl) rfl rfl (by decide) (by kernel_rfl) ?_
    refine Al_pu (Pu_index rfl Try.underlying24 Try.sizeOf33 rfl rfl (rfl) (mapgetD (d := default) hjl)) rfl rfl (by decide) (by kernel_rfl) ?_
    refine Al_pu (Pu_loadN rfl Try.isAgg33 Try.sizeOf33 rfl (Nat.le_of_ble_eq_true rfl)) rfl rfl (by decide) (by kernel_rfl) ?_
    refine Al_alloc rfl rfl rfl (by decide) Try.zeroValue33 rfl (by kernel_rfl) (fun g8 => ?_)
    refine Al_storeN rfl rfl rfl (by kernel_rfl) Try.isAgg33 Try.sizeOf33 rfl rfl rfl rfl (Nat.le_of_ble_eq_true rfl) ?_
    refine Al_nil ?_
    refine Aw_seq ?_
    refine Aw_region ?_
    refine Al_pu (Pu_fieldb 0 rfl Try.underlying33 rfl rfl Try.sizeOf3 rfl) rfl rfl (by decide) (by kernel_rfl) ?_
    refine Al_pu (Pu_loadb rfl Try.isAgg3 rfl rfl rfl) rfl rfl (by decide) (by kernel_rfl) ?_
    refine Al_pu (Pu_cmp rfl rfl rfl rfl) rfl rfl (by decide) (by kernel_rfl) ?_
    refine Al_nil ?_
    refine Aw_cond rfl (fun h27 => ?_) (fun h27 => ?_)
    · skip
      have hst := of_decide_eq_true h27
      refine Aw_region ?_
      refine Al_pu (Pu_move (.inl rfl) (by conv => lhs; whnf)) rfl rfl (by decide) (by kernel_rfl) ?_
      refine Al_pu (Pu_fieldb 2 rfl Try.underlying33 rfl rfl Try.sizeOf9 rfl) rfl rfl (by decide) (by kernel_rfl) ?_
      refine Al_pu (Pu_loadb rfl Try.isAgg9 rfl rfl rfl) rfl rfl (by decide) (by kernel_rfl) ?_
      refine Al_pu (Pu_fieldb 3 rfl Try.underlying33 rfl rfl Try.sizeOf30 rfl) rfl rfl (by decide) (by kernel_rfl) ?_
      refine Al_pu (Pu_loadbN (r := [_, _]) rfl Try.isAgg30 Try.sizeOf30 rfl rfl rfl rfl) rfl rfl (by decide) (by kernel_rfl) ?_
      refine Al_pu (Pu_build (aa := [(0, _), (1, _)]) rfl Try.underlying60 Try.zeroValue60 (places60 Try.underlying60) (by kernel_rfl) ⟨rfl, rfl, rfl, rfl, rfl, rfl, trivial⟩ rfl) rfl rfl (by decide) (by kernel_rfl) ?_
      refine Al_pu (Pu_call (hpa) rfl ⟨Sub.rfl, Sub.rfl, trivial⟩) rfl rfl (by decide) (by kernel_rfl) ?_
      refine Al_pu (Pu_move (.inr rfl) (by conv => lhs; whnf)) rfl rfl (by decide) (by kernel_rfl) ?_
      refine Al_nil ?_
      refine Aw_region ?_
      refine Al_pu (Pu_move (.inl rfl) (by conv => lhs; whnf)) rfl rfl (by decide) (by kernel_rfl) ?_
      refine Al_pu (Pu_add rfl rfl rfl (fun h1 h2 => by simp only [A.inI, A.maxI] at *; omega)) rfl rfl (by decide) (by kernel_rfl) ?_
      refine Al_pu (Pu_move (.inr rfl) (by conv => lhs; whnf)) rfl rfl (by decide) (by kernel_rfl) ?_
      refine Al_nil ?_
      exact ⟨k + 1, by omega, by omega, Le.ov ⟨Sub.num (by omega), Sub.d (by rw [hss]; unfold G.seenS; rw [if_pos hst]), trivial⟩ ⟨Sub.rfl, Sub.rfl, trivial⟩ trivial trivial⟩ -- loop 0 next.0
    · skip
      have hst := of_decide_eq_false h27
      refine Aw_skip ?_
      refine Aw_region ?_
      refine Al_pu (Pu_move (.inl rfl) (by conv => lhs; whnf)) rfl rfl (by decide) (by kernel_rfl) ?_
      refine Al_pu (Pu_add rfl rfl rfl (fun h1 h2 => by simp only [A.inI, A.maxI] at *; omega)) rfl rfl (by decide) (by kernel_rfl) ?_
      refine Al_pu (Pu_move (.inr rfl) (by conv => lhs; whnf)) rfl rfl (by decide) (by kernel_rfl) ?_
      refine Al_nil ?_
      exact ⟨k + 1, by omega, by omega, Le.ov ⟨Sub.num (by omega), Sub.d (by rw [hss]; unfold G.seenS; rw [if_neg hst]), trivial⟩ ⟨Sub.rfl, Sub.rfl, trivial⟩ trivial trivial⟩ -- loop 0 next.1
  · (try simp only [decide_eq_true_eq, decide_eq_false_iff_not, Bool.and_eq_true, Bool.or_eq_true, Bool.and_eq_false_iff, Bool.or_eq_false_iff, Bool.not_eq_true', Bool.not_eq_false', beq_iff_eq, Bool.not_eq_eq_eq_not, Bool.not_true, Bool.not_false, List.length_map, Bool.and_true, Bool.and_false, Bool.false_and, Bool.true_and, Bool.or_false, Bool.false_or] at h15)
    have hkk : k = (G.aheadI l i).length := by omega
    refine Aw_exit ?_
    refine Aw_seq ?_
    refine Aw_region ?_
    refine Al_pu (Pu_move (.inl rfl) (by conv => lhs; whnf)) rfl rfl (by decide) (by kernel_rfl) ?_
    refine Al_pu (Pu_move (.inr rfl) (by conv => lhs; whnf)) rfl rfl (by decide) (by kernel_rfl) ?_
    refine Al_nil ?_
    refine Aw_ret ?_
    exact Sub.d (by rw [hkk]; rfl) -- ret 0
def G.wrTo (l : List Event) (k m : Nat) : Bool := ((l.getD k default).n == 0 && (l.getD k default).s == 0) || (l.take m).any (G.wrB (l.getD k default))
theorem G.wrTo_zero (l : List Event) (k : Nat) : (decide ((l.getD k default).n = 0) && decide ((l.getD k default).s = 0)) = G.wrTo l k 0 := by
  unfold G.wrTo; simp; rfl
theorem G.wrTo_succ (l : List Event) (k : Nat) {m : Nat} (hm : m < l.length) : (G.wrTo l k m || G.wrB (l.getD k default) (l.getD m default)) = G.wrTo l k (m + 1) := by
  have hgm : l.getD m default = l[m] := by simp [hm]
  unfold G.wrTo
  rw [List.take_succ_eq_append_getElem hm, List.any_append, List.any_cons, List.any_nil, Bool.or_false, ← hgm, ← Bool.or_assoc]
set_option maxRecDepth 100000 in
set_option maxHeartbeats 1000000 in
theorem rfine_a (l : List Event) (hl : l.length ≤ 1000) : ACall Try.prog 41 [.sl 6 (l.map Event.row)] (iv (G.fine l)) := by
  refine ACall_enter (fun _ _ => by kernel_rfl) Try.func41 rfl Try.ntmps41 Try.results41 (Nat.le_of_ble_eq_true rfl) (fun hok M0 w0 hnl => ?_)
  have hseen := fun (i : Nat) => rseen_a l hl (i : Int)
  refine Aw_seq ?_
  refine Aw_region ?_
  refine Al_pu (Pu_move (.inr rfl) (by conv => lhs; whnf)) rfl rfl (by decide) (by kernel_rfl) ?_
  refine Al_nil ?_
  refine Aw_seq ?_
  refine Aw_seq ?_
  refine Aw_region ?_
  refine Al_pu (Pu_move (.inr rfl) (by conv => lhs; whnf)) rfl rfl (by decide) (by kernel_rfl) ?_
  refine Al_nil ?_
  refine Aw_block ?_
  refine Aw_loopk (ι := Nat) [0] [] (fun k => [(3, .d (iv k))]) (fun k => []) (fun k => k ≤ l.length ∧ ∀ j, j < k → G.badB l j = false) (fun k => l.length - k) (0) (⟨Nat.zero_le _, by intros; omega⟩) ⟨Sub.rfl, trivial⟩ trivial ?_
  rintro k ⟨hk0, hk2⟩
  refine Aw_seq ?_
  refine Aw_seq ?_
  refine Aw_region ?_
  refine Al_pu (Pu_move (.inl rfl) (by conv => lhs; whnf)) rfl rfl (by decide) (by kernel_rfl) ?_
  refine Al_pu (Pu_move (.inl rfl) (by conv => lhs; whnf)) rfl rfl (by decide) (by kernel_rfl) ?_
  refine Al_pu (Pu_len rfl Try.underlying24 rfl (by first | exact List.length_map .. | exact rfl)) rfl rfl (by decide) (by kernel_rfl) ?_
  refine Al_pu (Pu_cmp rfl rfl rfl rfl) rfl rfl (by decide) (by kernel_rfl) ?_
  refine Al_nil ?_
  refine Aw_cond rfl (fun h10 => ?_) (fun h10 => ?_)
  · (try simp only [decide_eq_true_eq, decide_eq_false_iff_not, Bool.and_eq_true, Bool.or_eq_true, Bool.and_eq_false_iff, Bool.or_eq_false_iff, Bool.not_eq_true', Bool.not_eq_false', beq_iff_eq, Bool.not_eq_eq_eq_not, Bool.not_true, Bool.not_false, List.length_map, Bool.and_true, Bool.and_false, Bool.false_and, Bool.true_and, Bool.or_false, Bool.false_or] at h10)
    have hk : k < l.length := by omega
    have hse := hseen k
    have hge := rget_a (G.seen l k) (l.getD k default).key
    refine Aw_skip ?_
    -- join 0: live [0, 3], turned []
    refine Aw_seq ?_
    refine Aw_block ?_
    refine Aw_seq ?_
    refine Aw_seq ?_
    refine Aw_region ?_
    refine Al_pu (Pu_move (.inl rfl) (by conv => lhs; whnf)) rfl rfl (by decide) (by kernel_rfl) ?_
    refine Al_pu (Pu_move (.inl rfl) (by conv => lhs; whnf)) rfl rfl (by decide) (by kernel_rfl) ?_
    refine Al_pu (Pu_index rfl Try.underlying24 Try.sizeOf33 rfl rfl (rfl) (mapgetD (d := default) hk)) rfl rfl (by decide) (by kernel_rfl) ?_
    refine Al_pu (Pu_field 0 rfl Try.underlying33 rfl rfl Try.sizeOf3 rfl) rfl rfl (by decide) (by kernel_rfl) ?_
    refine Al_pu (Pu_load1 rfl Try.isAgg3 rfl rfl) rfl rfl (by decide) (by kernel_rfl) ?_
    refine Al_pu (Pu_cmp rfl rfl rfl rfl) rfl rfl (by decide) (by kernel_rfl) ?_
    refine Al_nil ?_
    refine Aw_cond rfl (fun h18 => ?_) (fun h18 => ?_)
    · skip
      have hb : G.badB l k = false := by
        unfold G.badB
        simp only [Bool.not_eq_true'] at h18
        rw [h18]; rfl
      refine Aw_exit ?_
      refine Aw_region ?_
      refine Al_pu (Pu_move (.inl rfl) (by conv => lhs; whnf)) rfl rfl (by decide) (by kernel_rfl) ?_
      refine Al_pu (Pu_add rfl rfl rfl (fun h1 h2 => by simp only [A.inI, A.maxI] at *; omega)) rfl rfl (by decide) (by kernel_rfl) ?_
      refine Al_pu (Pu_move (.inr rfl) (by conv => lhs; whnf)) rfl rfl (by decide) (by kernel_rfl) ?_
      refine Al_nil ?_
      exact ⟨k + 1, ⟨by omega, fun j hj => by
        by_cases e : j = k
        · subst e; exact hb
        · exact hk2 j (by omega)⟩, by omega, Le.ov ⟨Sub.num (by omega), trivial⟩ ⟨Sub.rfl, trivial⟩ trivial trivial⟩ -- loop 0 next.0
    · skip
      have hkd : decide ((l.getD k default).kind = 2) = true := by simpa only [Bool.not_eq_false'] using h18
      refine Aw_skip ?_
      refine Aw_seq ?_
      refine Aw_region ?_
      refine Al_pu (Pu_move (.inl rfl) (by conv => lhs; whnf)) rfl rfl (by decide) (by kernel_rfl) ?_
      refine Al_pu (Pu_move (.inl rfl) (by conv => lhs; whnf)) rfl rfl (by decide) (by kernel_rfl) ?_
      refine Al_pu (Pu_index rfl Try.underlying24 Try.sizeOf33 rfl rfl (rfl) (mapgetD (d := default) hk)) rfl rfl (by decide) (by kernel_rfl) ?_
      refine Al_pu (Pu_field 3 rfl Try.underlying33 rfl rfl Try.sizeOf30 rfl) rfl rfl (by decide) (by kernel_rfl) ?_
      refine Al_pu (Pu_field 0 rfl Try.underlying30 rfl rfl Try.sizeOf3 rfl) rfl rfl (by decide) (by kernel_rfl) ?_
      refine Al_pu (Pu_load1 rfl Try.isAgg3 rfl rfl) rfl rfl (by decide) (by kernel_rfl) ?_
      refine Al_pu (Pu_cmp rfl rfl rfl rfl) rfl rfl (by decide) (by kernel_rfl) ?_
      refine Al_pu (Pu_move (.inl rfl) (by conv => lhs; whnf)) rfl rfl (by decide) (by kernel_rfl) ?_
      refine Al_st (St_gd [] rfl rfl rfl rfl trivial (fun hg27 => by exact Pu_move (.inl rfl) (by conv => lhs; whnf))) rfl (by decide) (by kernel_rfl) (by intro j b oj dj h1 h2 h3; cases h1; cases h2; cases h3; decide) ?_
      refine Al_st (St_gd [] rfl rfl rfl rfl trivial (fun hg28 => by exact Pu_move (.inl rfl) (by conv => lhs; whnf))) rfl (by decide) (by kernel_rfl) (by intro j b oj dj h1 h2 h3; cases h1; cases h2; cases h3; decide) ?_
      refine Al_st (St_gd [27, 28] rfl rfl rfl rfl ⟨⟨_, rfl⟩, ⟨_, rfl⟩, trivial⟩ (fun hg29 => Pu_index rfl Try.underlying24 Try.sizeOf33 rfl rfl (rfl) (mapgetD (d := default) hk))) rfl (by decide) (by kernel_rfl) (by intro j b oj dj h1 h2 h3; cases h1; cases h2; cases h3; decide) ?_
      refine Al_st (St_gd [29] rfl rfl rfl rfl ⟨⟨_, rfl⟩, trivial⟩ (fun hg30 => Pu_field 3 rfl Try.underlying33 rfl rfl Try.sizeOf30 rfl)) rfl (by decide) (by kernel_rfl) (by intro j b oj dj h1 h2 h3; cases h1; cases h2; cases h3; decide) ?_
      refine Al_st (St_gd [30] rfl rfl rfl rfl ⟨⟨_, rfl⟩, trivial⟩ (fun hg31 => Pu_field 1 rfl Try.underlying30 rfl rfl Try.sizeOf3 rfl)) rfl (by decide) (by kernel_rfl) (by intro j b oj dj h1 h2 h3; cases h1; cases h2; cases h3; decide) ?_
      refine Al_st (St_gd [31] rfl rfl rfl rfl ⟨⟨_, rfl⟩, trivial⟩ (fun hg32 => Pu_load1 rfl Try.isAgg3 rfl rfl)) rfl (by decide) (by kernel_rfl) (by intro j b oj dj h1 h2 h3; cases h1; cases h2; cases h3; decide) ?_
      refine Al_st (St_gd [32] rfl rfl rfl rfl ⟨⟨_, rfl⟩, trivial⟩ (fun hg33 => Pu_cmp rfl rfl rfl rfl)) rfl (by decide) (by kernel_rfl) (by intro j b oj dj h1 h2 h3; cases h1; cases h2; cases h3; decide) ?_
      refine Al_pu (Pu_and rfl rfl rfl rfl) rfl rfl (by decide) (by kernel_rfl) ?_
      refine Al_pu (Pu_move (.inr rfl) (by conv => lhs; whnf)) rfl rfl (by decide) (by kernel_rfl) ?_
      refine Al_nil ?_
      refine Aw_seq ?_
      refine Aw_seq ?_
      refine Aw_region ?_
      refine Al_pu (Pu_move (.inr rfl) (by conv => lhs; whnf)) rfl rfl (by decide) (by kernel_rfl) ?_
      refine Al_nil ?_
      refine Aw_block ?_
      refine Aw_loopk (ι := Nat) [0, 3] [] (fun m => [(5, .d (iv m)), (4, .d (bv (G.wrTo l k m)))]) (fun m => []) (fun m => m ≤ k) (fun m => k - m) (0) (Nat.zero_le _) ⟨Sub.rfl, Sub.bool (G.wrTo_zero l k), trivial⟩ trivial ?_
      rintro m hk1
      refine Aw_seq ?_
      refine Aw_seq ?_
      refine Aw_region ?_
      refine Al_pu (Pu_move (.inl rfl) (by conv => lhs; whnf)) rfl rfl (by decide) (by kernel_rfl) ?_
      refine Al_pu (Pu_move (.inl rfl) (by conv => lhs; whnf)) rfl rfl (by decide) (by kernel_rfl) ?_
      refine Al_pu (Pu_cmp rfl rfl rfl rfl) rfl rfl (by decide) (by kernel_rfl) ?_
      refine Al_nil ?_
      refine Aw_cond rfl (fun h37 => ?_) (fun h37 => ?_)
      · (try simp only [decide_eq_true_eq, decide_eq_false_iff_not, Bool.and_eq_true, Bool.or_eq_true, Bool.and_eq_false_iff, Bool.or_eq_false_iff, Bool.not_eq_true', Bool.not_eq_false', beq_iff_eq, Bool.not_eq_eq_eq_not, Bool.not_true, Bool.not_false, List.length_map, Bool.and_true, Bool.and_false, Bool.false_and, Bool.true_and, Bool.or_false, Bool.false_or] at h37)
        have hm : m < l.length := by omega
        refine Aw_skip ?_
        refine Aw_seq ?_
        refine Aw_block ?_
        refine Aw_draw 35 (by kernel_rfl) (by kernel_rfl) ?_
        refine Dr_pu (Pu_move (.inl rfl) (by conv => lhs; whnf)) rfl rfl ?_
        refine Dr_pu (Pu_move (.inl rfl) (by conv => lhs; whnf)) rfl rfl ?_
        refine Dr_st (St_gd [] rfl rfl rfl rfl trivial (fun hg42 => by exact Pu_move (.inl rfl) (by conv => lhs; whnf))) rfl ?_
        refine Dr_st (St_gd [] rfl rfl rfl rfl trivial (fun hg43 => by exact Pu_move (.inl rfl) (by conv => lhs; whnf))) rfl ?_
        refine Dr_st (St_gd [42, 43] rfl rfl rfl rfl ⟨⟨_, rfl⟩, ⟨_, rfl⟩, trivial⟩ (fun hg44 => Pu_index rfl Try.underlying24 Try.sizeOf33 rfl rfl (rfl) (mapgetD (d := default) hm))) rfl ?_
        refine Dr_st (St_gd [44] rfl rfl rfl rfl ⟨⟨_, rfl⟩, trivial⟩ (fun hg45 => Pu_field 0 rfl Try.underlying33 rfl rfl Try.sizeOf3 rfl)) rfl ?_
        refine Dr_st (St_gd [45] rfl rfl rfl rfl ⟨⟨_, rfl⟩, trivial⟩ (fun hg46 => Pu_load1 rfl Try.isAgg3 rfl rfl)) rfl ?_
        refine Dr_st (St_gd [46] rfl rfl rfl rfl ⟨⟨_, rfl⟩, trivial⟩ (fun hg47 => Pu_cmp rfl rfl rfl rfl)) rfl ?_
        refine Dr_st (St_gd [47] rfl rfl rfl rfl ⟨⟨_, rfl⟩, trivial⟩ (fun hg48 => by exact Pu_move (.inl rfl) (by conv => lhs; whnf))) rfl ?_
        refine Dr_st (St_gd2 [] rfl rfl rfl rfl trivial (fun hp49 hg49 => by exact Pu_move (.inl rfl) (by conv => lhs; whnf))) rfl ?_
        refine Dr_st (St_gd2 [] rfl rfl rfl rfl trivial (fun hp50 hg50 => by exact Pu_move (.inl rfl) (by conv => lhs; whnf))) rfl ?_
        refine Dr_st (St_gd2 [49, 50] rfl rfl rfl rfl ⟨⟨_, rfl⟩, ⟨_, rfl⟩, trivial⟩ (fun hp51 hg51 => Pu_index rfl Try.underlying24 Try.sizeOf33 rfl rfl (rfl) (mapgetD (d := default) hm))) rfl ?_
        refine Dr_st (St_gd2 [51] rfl rfl rfl rfl ⟨⟨_, rfl⟩, trivial⟩ (fun hp52 hg52 => Pu_field 2 rfl Try.underlying33 rfl rfl Try.sizeOf9 rfl)) rfl ?_
        refine Dr_st (St_gd2 [52] rfl rfl rfl rfl ⟨⟨_, rfl⟩, trivial⟩ (fun hp53 hg53 => Pu_load1 rfl Try.isAgg9 rfl rfl)) rfl ?_
        refine Dr_st (St_gd2 [] rfl rfl rfl rfl trivial (fun hp54 hg54 => by exact Pu_move (.inl rfl) (by conv => lhs; whnf))) rfl ?_
        refine Dr_st (St_gd2 [] rfl rfl rfl rfl trivial (fun hp55 hg55 => by exact Pu_move (.inl rfl) (by conv => lhs; whnf))) rfl ?_
        refine Dr_st (St_gd2 [54, 55] rfl rfl rfl rfl ⟨⟨_, rfl⟩, ⟨_, rfl⟩, trivial⟩ (fun hp56 hg56 => Pu_index rfl Try.underlying24 Try.sizeOf33 rfl rfl (rfl) (mapgetD (d := default) hk))) rfl ?_
        refine Dr_st (St_gd2 [56] rfl rfl rfl rfl ⟨⟨_, rfl⟩, trivial⟩ (fun hp57 hg57 => Pu_field 2 rfl Try.underlying33 rfl rfl Try.sizeOf9 rfl)) rfl ?_
        refine Dr_st (St_gd2 [57] rfl rfl rfl rfl ⟨⟨_, rfl⟩, trivial⟩ (fun hp58 hg58 => Pu_load1 rfl Try.isAgg9 rfl rfl)) rfl ?_
        refine Dr_st (St_gd2 [53, 58] rfl rfl rfl rfl ⟨⟨_, rfl⟩, ⟨_, rfl⟩, trivial⟩ (fun hp59 hg59 => Pu_str rfl rfl rfl rfl)) rfl ?_
        refine Dr_st (St_gd [48] rfl rfl rfl rfl ⟨⟨_, rfl⟩, trivial⟩ (fun hg60 => Pu_andG rfl rfl (fun h => ⟨hg60, h⟩) rfl rfl)) rfl ?_
        refine Dr_st (St_gd [60] rfl rfl rfl rfl ⟨⟨_, rfl⟩, trivial⟩ (fun hg61 => by exact Pu_move (.inl rfl) (by conv => lhs; whnf))) rfl ?_
        refine Dr_st (St_gd2 [] rfl rfl rfl rfl trivial (fun hp62 hg62 => by exact Pu_move (.inl rfl) (by conv => lhs; whnf))) rfl ?_
        refine Dr_st (St_gd2 [] rfl rfl rfl rfl trivial (fun hp63 hg63 => by exact Pu_move (.inl rfl) (by conv => lhs; whnf))) rfl ?_
        refine Dr_st (St_gd2 [62, 63] rfl rfl rfl rfl ⟨⟨_, rfl⟩, ⟨_, rfl⟩, trivial⟩ (fun hp64 hg64 => Pu_index rfl Try.underlying24 Try.sizeOf33 rfl rfl (rfl) (mapgetD (d := default) hm))) rfl ?_
        refine Dr_st (St_gd2 [64] rfl rfl rfl rfl ⟨⟨_, rfl⟩, trivial⟩ (fun hp65 hg65 => Pu_field 3 rfl Try.underlying33 rfl rfl Try.sizeOf30 rfl)) rfl ?_
        refine Dr_st (St_gd2 [65] rfl rfl rfl rfl ⟨⟨_, rfl⟩, trivial⟩ (fun hp66 hg66 => Pu_loadN rfl Try.isAgg30 Try.sizeOf30 rfl (Nat.le_of_ble_eq_true rfl))) rfl ?_
        refine Dr_st (St_gd2 [] rfl rfl rfl rfl trivial (fun hp67 hg67 => by exact Pu_move (.inl rfl) (by conv => lhs; whnf))) rfl ?_
        refine Dr_st (St_gd2 [] rfl rfl rfl rfl trivial (fun hp68 hg68 => by exact Pu_move (.inl rfl) (by conv => lhs; whnf))) rfl ?_
        refine Dr_st (St_gd2 [67, 68] rfl rfl rfl rfl ⟨⟨_, rfl⟩, ⟨_, rfl⟩, trivial⟩ (fun hp69 hg69 => Pu_index rfl Try.underlying24 Try.sizeOf33 rfl rfl (rfl) (mapgetD (d := default) hk))) rfl ?_
        refine Dr_st (St_gd2 [69] rfl rfl rfl rfl ⟨⟨_, rfl⟩, trivial⟩ (fun hp70 hg70 => Pu_field 3 rfl Try.underlying33 rfl rfl Try.sizeOf30 rfl)) rfl ?_
        refine Dr_st (St_gd2 [70] rfl rfl rfl rfl ⟨⟨_, rfl⟩, trivial⟩ (fun hp71 hg71 => Pu_loadN rfl Try.isAgg30 Try.sizeOf30 rfl (Nat.le_of_ble_eq_true rfl))) rfl ?_
        refine Dr_st (St_gd2 [66, 71] rfl rfl rfl rfl ⟨⟨_, rfl⟩, ⟨_, rfl⟩, trivial⟩ (fun hp72 hg72 => Pu_eqrow [.int .i64 _, .int .i64 _] [.int .i64 _, .int .i64 _] (fun w => eqv30 _ _ _ _ _ _ w) rfl rfl rfl)) rfl ?_
        refine Dr_st (St_gd [61] rfl rfl rfl rfl ⟨⟨_, rfl⟩, trivial⟩ (fun hg73 => Pu_andG rfl rfl (fun h => ⟨hg73, h⟩) rfl rfl)) rfl ?_
        refine Dr_pu (Pu_or rfl rfl rfl rfl) rfl rfl ?_
        refine Dr_nil ?_
        refine Al_pu (Pu_move (.inr rfl) (by conv => lhs; whnf)) rfl rfl (by decide) (by kernel_rfl) ?_
        refine Al_nil ?_
        refine Aw_region ?_
        refine Al_pu (Pu_move (.inl rfl) (by conv => lhs; whnf)) rfl rfl (by decide) (by kernel_rfl) ?_
        refine Al_pu (Pu_add rfl rfl rfl (fun h1 h2 => by simp only [A.inI, A.maxI] at *; omega)) rfl rfl (by decide) (by kernel_rfl) ?_
        refine Al_pu (Pu_move (.inr rfl) (by conv => lhs; whnf)) rfl rfl (by decide) (by kernel_rfl) ?_
        refine Al_nil ?_
        exact ⟨m + 1, by omega, by omega, Le.ov ⟨Sub.num (by omega), Sub.bool (G.wrTo_succ l k hm), trivial⟩ ⟨Sub.rfl, Sub.rfl, trivial⟩ trivial trivial⟩ -- loop 1 next.0
      · (try simp only [decide_eq_true_eq, decide_eq_false_iff_not, Bool.and_eq_true, Bool.or_eq_true, Bool.and_eq_false_iff, Bool.or_eq_false_iff, Bool.not_eq_true', Bool.not_eq_false', beq_iff_eq, Bool.not_eq_eq_eq_not, Bool.not_true, Bool.not_false, List.length_map, Bool.and_true, Bool.and_false, Bool.false_and, Bool.true_and, Bool.or_false, Bool.false_or] at h37)
        obtain rfl : k = m := by omega
        refine Aw_exit ?_
        refine Aw_seq ?_
        refine Aw_drawA 9 (by kernel_rfl) (by kernel_rfl) rfl rfl rfl rfl (by decide) Try.zeroValue30 rfl (by kernel_rfl) rfl ?_
        refine Dr_pu (Pu_move (.inl rfl) (by conv => lhs; whnf)) rfl rfl ?_
        refine Dr_pu (Pu_move (.inl rfl) (by conv => lhs; whnf)) rfl rfl ?_
        refine Dr_pu (Pu_call (hse) rfl ⟨Sub.rfl, Sub.rfl, trivial⟩) rfl rfl ?_
        refine Dr_pu (Pu_move (.inl rfl) (by conv => lhs; whnf)) rfl rfl ?_
        refine Dr_pu (Pu_move (.inl rfl) (by conv => lhs; whnf)) rfl rfl ?_
        refine Dr_pu (Pu_index rfl Try.underlying24 Try.sizeOf33 rfl rfl (rfl) (mapgetD (d := default) hk)) rfl rfl ?_
        refine Dr_pu (Pu_field 2 rfl Try.underlying33 rfl rfl Try.sizeOf9 rfl) rfl rfl ?_
        refine Dr_pu (Pu_load1 rfl Try.isAgg9 rfl rfl) rfl rfl ?_
        refine Dr_pu (Pu_call (hge) rfl ⟨Sub.rfl, Sub.rfl, trivial⟩) rfl rfl ?_
        refine Dr_nil ?_
        intro g6
        refine Al_storeN rfl rfl rfl (by kernel_rfl) Try.isAgg30 Try.sizeOf30 rfl rfl rfl rfl (Nat.le_of_ble_eq_true rfl) ?_
        refine Al_nil ?_
        refine Aw_seq ?_
        refine Aw_draw 11 (by kernel_rfl) (by kernel_rfl) ?_
        refine Dr_pu (Pu_move (.inl rfl) (by conv => lhs; whnf)) rfl rfl ?_
        refine Dr_pu (Pu_not rfl rfl) rfl rfl ?_
        refine Dr_pu (Pu_move (.inl rfl) (by conv => lhs; whnf)) rfl rfl ?_
        refine Dr_st (St_gd [] rfl rfl rfl rfl trivial (fun hg87 => by exact Pu_move (.inl rfl) (by conv => lhs; whnf))) rfl ?_
        refine Dr_st (St_gd [] rfl rfl rfl rfl trivial (fun hg88 => by exact Pu_move (.inl rfl) (by conv => lhs; whnf))) rfl ?_
        refine Dr_st (St_gd [87, 88] rfl rfl rfl rfl ⟨⟨_, rfl⟩, ⟨_, rfl⟩, trivial⟩ (fun hg89 => Pu_index rfl Try.underlying24 Try.sizeOf33 rfl rfl (rfl) (mapgetD (d := default) hk))) rfl ?_
        refine Dr_st (St_gd [89] rfl rfl rfl rfl ⟨⟨_, rfl⟩, trivial⟩ (fun hg90 => Pu_field 3 rfl Try.underlying33 rfl rfl Try.sizeOf30 rfl)) rfl ?_
        refine Dr_st (St_gd [90] rfl rfl rfl rfl ⟨⟨_, rfl⟩, trivial⟩ (fun hg91 => Pu_loadN rfl Try.isAgg30 Try.sizeOf30 rfl (Nat.le_of_ble_eq_true rfl))) rfl ?_
        refine Dr_st (St_gd [] rfl rfl rfl rfl trivial (fun hg92 => Pu_loadbN (r := [_, _]) rfl Try.isAgg30 Try.sizeOf30 rfl rfl rfl rfl)) rfl ?_
        refine Dr_st (St_gd [91, 92] rfl rfl rfl rfl ⟨⟨_, rfl⟩, ⟨_, rfl⟩, trivial⟩ (fun hg93 => Pu_call (rless_a _ _ _ _) rfl ⟨Sub.rfl, Sub.rfl, trivial⟩)) rfl ?_
        refine Dr_pu (Pu_or rfl rfl rfl rfl) rfl rfl ?_
        refine Dr_nil ?_
        refine Al_nil ?_
        refine Aw_cond rfl (fun h94 => ?_) (fun h94 => ?_)
        · skip
          have hb : G.badB l k = true := by
            unfold G.badB
            rw [hkd, Bool.true_and]; exact h94
          have hff : G.fine l = k := by
            have := S.find_at (p := G.badB l) (l := List.range l.length) (k := k) (by simpa using hk) (by simpa using hb) (fun j hj hjk => by simpa using hk2 j hjk)
            simpa [G.fine] using this.symm
          refine Aw_seq ?_
          refine Aw_region ?_
          refine Al_pu (Pu_move (.inl rfl) (by conv => lhs; whnf)) rfl rfl (by decide) (by kernel_rfl) ?_
          refine Al_pu (Pu_move (.inr rfl) (by conv => lhs; whnf)) rfl rfl (by decide) (by kernel_rfl) ?_
          refine Al_nil ?_
          refine Aw_ret ?_
          exact Sub.num hff.symm -- ret 0
        · skip
          have hb : G.badB l k = false := by
            unfold G.badB
            rw [hkd, Bool.true_and]; exact h94
          refine Aw_skip ?_
          refine Aw_region ?_
          refine Al_pu (Pu_move (.inl rfl) (by conv => lhs; whnf)) rfl rfl (by decide) (by kernel_rfl) ?_
          refine Al_pu (Pu_add rfl rfl rfl (fun h1 h2 => by simp only [A.inI, A.maxI] at *; omega)) rfl rfl (by decide) (by kernel_rfl) ?_
          refine Al_pu (Pu_move (.inr rfl) (by conv => lhs; whnf)) rfl rfl (by decide) (by kernel_rfl) ?_
          refine Al_nil ?_
          exact ⟨k + 1, ⟨by omega, fun j hj => by
            by_cases e : j = k
            · subst e; exact hb
            · exact hk2 j (by omega)⟩, by omega, Le.ov ⟨Sub.num (by omega), trivial⟩ ⟨Sub.rfl, trivial⟩ trivial trivial⟩ -- loop 0 next.1
  · (try simp only [decide_eq_true_eq, decide_eq_false_iff_not, Bool.and_eq_true, Bool.or_eq_true, Bool.and_eq_false_iff, Bool.or_eq_false_iff, Bool.not_eq_true', Bool.not_eq_false', beq_iff_eq, Bool.not_eq_eq_eq_not, Bool.not_true, Bool.not_false, List.length_map, Bool.and_true, Bool.and_false, Bool.false_and, Bool.true_and, Bool.or_false, Bool.false_or] at h10)
    have hff : G.fine l = -1 := (S.find_no (p := G.badB l) (l := List.range l.length) (fun j hj hjk => by
      rw [List.length_range] at hj
      simpa using hk2 j (by omega))).symm
    refine Aw_exit ?_
    refine Aw_seq ?_
    refine Aw_region ?_
    refine Al_pu (Pu_move (.inr rfl) (by conv => lhs; whnf)) rfl rfl (by decide) (by kernel_rfl) ?_
    refine Al_nil ?_
    refine Aw_ret ?_
    exact Sub.num hff.symm -- ret 1
end Go.Proofs.Ytgoncpjgpkoacaa
