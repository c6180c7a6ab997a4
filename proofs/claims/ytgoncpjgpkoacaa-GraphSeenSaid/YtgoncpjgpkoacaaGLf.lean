/- GraphFine: which read is not fine. -/
import Derived.Test.YtgoncpjgpkoacaaGLo
set_option linter.unusedSimpArgs false
set_option linter.unusedVariables false
namespace Go.Proofs.Ytgoncpjgpkoacaa
open Go.RowKit A R
open A.RowT
namespace G
/-- What is made of acts. -/
structure Made (e : Event) : Prop where
  key : K.checkB e.key = true
  n : 0 ≤ e.n ∧ e.n ≤ 7
  s : 0 ≤ e.s ∧ e.s ≤ 1
  z : e.n = 0 → e.s = 0
theorem keys_ok : ∀ k ∈ keys4, K.checkB k = true := by decide +kernel
theorem made_made (l : List Act) : ∀ e ∈ made l, Made e := fun e he => by
  obtain ⟨a, _, rfl⟩ := List.mem_map.1 he
  have h3 : 0 ≤ andI a.key 3 ∧ andI a.key 3 ≤ 3 := andI_le a.key 3 (by decide)
  have h7 : 0 ≤ andI a.n 7 ∧ andI a.n 7 ≤ 7 := andI_le a.n 7 (by decide)
  have h1 : 0 ≤ andI a.site 1 ∧ andI a.site 1 ≤ 1 := andI_le a.site 1 (by decide)
  refine ⟨?_, h7, ?_, fun h => ?_⟩
  · refine keys_ok _ ?_
    show keys4.getD (andI a.key 3).toNat ⟨#[]⟩ ∈ keys4
    rw [List.getD_eq_getElem?_getD, List.getElem?_eq_getElem (show (andI a.key 3).toNat < keys4.length by show _ < 4; omega)]
    exact List.getElem_mem _
  · have hs : (mk1 a).s = if andI a.n 7 = 0 then 0 else andI a.site 1 := rfl
    split at hs <;> constructor <;> omega
  · have h : andI a.n 7 = 0 := h
    show (if andI a.n 7 = 0 then 0 else andI a.site 1) = 0
    rw [if_pos h]
/-- Is a write of a key greater than a stamp? -/
def oldB (e w : Event) : Bool := decide (w.kind = 1) && w.key.toList == e.key.toList && decide (0 < w.n) && D.lessB e.n e.s w.n w.s
theorem less_or (a b c d : Int) : D.lessB a b c d = true ∨ (a = c ∧ b = d) ∨ D.lessB c d a b = true := by
  unfold D.lessB
  by_cases h : a = c
  · subst h
    simp only [if_true, decide_eq_true_eq, true_and]
    omega
  · rw [if_neg h, if_neg (fun e => h e.symm)]
    simp only [decide_eq_true_eq]
    omega
theorem less_trans {a b c d x y : Int} (h : D.lessB a b c d = true) (k : D.lessB c d x y = true) : D.lessB a b x y = true := by
  unfold D.lessB at *
  split at h <;> split at k <;> simp only [decide_eq_true_eq] at h k
  · rw [if_pos (by omega)]; simp; omega
  · rw [if_neg (by omega)]; simp; omega
  · rw [if_neg (by omega)]; simp; omega
  · rw [if_neg (by omega)]; simp; omega
/-- What a past has, once one more is added. -/
theorem get_add {p : List Dep} (hp : D.Good p) (d : Dep) (k : ByteArray) : D.get (D.add p d) k = if D.okB d = true ∧ d.key.toList = k.toList ∧ D.lessB (D.get p k).1 (D.get p k).2 d.n d.s = true then (d.n, d.s) else D.get p k := by
  cases hok : D.okB d with
  | false => rw [D.add_no hok, if_neg (by simp)]
  | true =>
    have hst := D.ok_stamp hok
    cases hk : D.hasK p d.key with
    | false =>
      rw [D.add_new hp.srt hok hk]
      by_cases he : d.key.toList = k.toList
      · have hnk : D.hasK p k = false := by
          have : d.key = k := D.byte_inj he
          rw [← this]; exact hk
        have hg := D.get_no hnk
        have hl : D.lessB 0 0 d.n d.s = true := by unfold D.lessB; rw [if_neg (by omega)]; simp; omega
        rw [hg, if_pos ⟨rfl, he, hl⟩]
        have hno : ∀ x ∈ p, (x.key.toList == k.toList) = false := fun x hx => by simpa using List.any_eq_false.1 hnk x hx
        unfold D.get
        rw [List.find?_append, List.find?_eq_none.2 fun x hx => by simpa using hno x (List.mem_of_mem_take hx), Option.none_or, List.find?_cons_of_pos (by simpa using he)]
      · rw [if_neg fun h => he h.2.1]
        unfold D.get
        rw [List.find?_append, List.find?_cons_of_neg (by simpa using he), ← List.find?_append, List.take_append_drop]
    | true =>
      rw [D.add_old hp.srt hok hk]
      obtain ⟨hj, hjk⟩ := D.pos_at hp.srt hk
      have hgd : p.getD (D.pos p d.key) default = p[D.pos p d.key] := by simp [hj]
      by_cases he : d.key.toList = k.toList
      · have : d.key = k := D.byte_inj he
        subst this
        have hg := D.get_pos hp.srt hk hgd
        rw [hg, hgd]
        have hlo := D.pos_lo p d.key
        generalize D.pos p d.key = j at *
        have hset : ∀ x : Dep, x.key.toList = d.key.toList → D.get (p.set j x) d.key = (x.n, x.s) := fun x hx => by
          have hj' : j < (p.set j x).length := by rw [List.length_set]; exact hj
          have := D.get_first (p := p.set j x) (k := d.key) (j := j) hj' (by rw [List.getElem_set_self]; exact hx) (fun i hi hij e => by
            rw [List.getElem_set_ne (by omega)] at e
            have h2 := hlo i (by omega) hij
            rw [e, K.bl_irrefl] at h2; cases h2)
          rw [this, List.getElem_set_self]
        cases hl : D.lessB p[j].n p[j].s d.n d.s with
        | true => rw [if_pos rfl, if_pos ⟨rfl, rfl, rfl⟩]; exact hset d rfl
        | false => rw [if_neg (by simp), if_neg (by simp)]; exact hset p[j] (by rw [hjk])
      · have hrhs : (if true = true ∧ d.key.toList = k.toList ∧ D.lessB (D.get p k).1 (D.get p k).2 d.n d.s = true then (d.n, d.s) else D.get p k) = D.get p k := if_neg fun h => he h.2.1
        rw [hrhs, hgd]
        have hfs : ∀ (l : List Dep) (i : Nat) (x : Dep) (hi : i < l.length), ¬ x.key.toList = k.toList → ¬ l[i].key.toList = k.toList → (l.set i x).find? (fun x => x.key.toList == k.toList) = l.find? fun x => x.key.toList == k.toList := by
          intro l
          induction l with
          | nil => intro i x hi; cases hi
          | cons y r ih =>
            intro i x hi h1 h2
            cases i with
            | zero =>
              have h2' : ¬ y.key.toList = k.toList := h2
              rw [List.set_cons_zero, List.find?_cons_of_neg (by simpa using h1), List.find?_cons_of_neg (by simpa using h2')]
            | succ i =>
              rw [List.set_cons_succ, List.find?_cons, List.find?_cons, ih i x (by simpa using hi) h1 (by simpa using h2)]
        unfold D.get
        rw [hfs p _ _ hj (by split; exact he; (rw [hjk]; exact he)) (by rw [hjk]; exact he)]
theorem less_get {p : List Dep} (hp : D.Good p) (d : Dep) (k : ByteArray) (n t : Int) : D.lessB n t (D.get (D.add p d) k).1 (D.get (D.add p d) k).2 = (D.lessB n t (D.get p k).1 (D.get p k).2 || (D.okB d && d.key.toList == k.toList && D.lessB n t d.n d.s)) := by
  rw [get_add hp d k, Bool.eq_iff_iff]
  simp only [Bool.or_eq_true, Bool.and_eq_true, beq_iff_eq]
  split
  · rename_i h
    constructor
    · intro h1; exact .inr ⟨⟨h.1, h.2.1⟩, h1⟩
    · rintro (h1 | ⟨_, h1⟩)
      · exact less_trans h1 h.2.2
      · exact h1
  · rename_i h
    constructor
    · intro h1; exact .inl h1
    · rintro (h1 | ⟨⟨h1, h2⟩, h3⟩)
      · exact h1
      · rcases less_or (D.get p k).1 (D.get p k).2 d.n d.s with h4 | ⟨h4, h5⟩ | h4
        · exact absurd ⟨h1, h2, h4⟩ h
        · rw [h4, h5]; exact h3
        · exact less_trans h3 h4
theorem Made.less0 {e : Event} (h : Made e) : D.lessB e.n e.s 0 0 = false := by
  have h1 := h.n
  have h2 := h.s
  have h3 := h.z
  unfold D.lessB
  split <;> simp <;> omega
theorem Made.ok {e : Event} (h : Made e) : D.okB (depE e) = decide (0 < e.n) := by
  have h1 := h.n
  have h2 := h.s
  unfold D.okB depE
  simp only [h.key, Bool.true_and]
  rw [Bool.eq_iff_iff, V.stampB_iff, decide_eq_true_eq]
  omega
theorem old_to {l : List Event} (hm : ∀ e ∈ l, Made e) {e : Event} (he : Made e) {js : List Nat} (hj : ∀ j ∈ js, j < l.length) : ∀ (k : Nat), k ≤ js.length → D.lessB e.n e.s (D.get (seenTo l js k) e.key).1 (D.get (seenTo l js k) e.key).2 = (js.take k).any fun j => oldB e (l.getD j default)
  | 0, _ => by
    show D.lessB e.n e.s (D.get [] e.key).1 (D.get [] e.key).2 = false
    exact he.less0
  | k + 1, hk => by
    have hlt : k < js.length := by omega
    have hjl := hj _ (List.getElem_mem hlt)
    have ih := old_to hm he hj k (by omega)
    rw [seenTo_succ l js hlt, List.take_succ_eq_append_getElem hlt, List.any_append, ← ih]
    have hmj : Made (l.getD js[k] default) := by
      have : l.getD js[k] default = l[js[k]] := by simp [hjl]
      rw [this]; exact hm _ (List.getElem_mem hjl)
    unfold seenS
    simp only [List.any_cons, List.any_nil, Bool.or_false]
    split
    · rename_i hw
      rw [less_get (seenTo_good l js k (by omega)).1, hmj.ok]
      unfold oldB depE
      rw [decide_eq_true hw, Bool.true_and]
      congr 1
      cases decide (0 < (l.getD js[k] default).n) <;> cases (l.getD js[k] default).key.toList == e.key.toList <;> rfl
    · rename_i hw
      unfold oldB
      rw [decide_eq_false hw]; simp
/-- What the statement says of an event that is bad. -/
def thereB (l : List Event) (i k : Nat) : Bool := decide ((l.getD i default).n = 0) || (l.take k).any (wrB (l.getD i default))
def badL (l : List Event) (i : Nat) : Bool := decide ((l.getD i default).kind = 2) && (((aheadI l i).any fun j => oldB (l.getD i default) (l.getD j default)) || !thereB l i i)
theorem bad_eq {l : List Event} (hm : ∀ e ∈ l, Made e) {i : Nat} (hi : i < l.length) : badB l i = badL l i := by
  have hmi : Made (l.getD i default) := by
    have : l.getD i default = l[i] := by simp [hi]
    rw [this]; exact hm _ (List.getElem_mem hi)
  have h1 := old_to hm hmi (js := aheadI l i) (fun j h => aheadI_lt h) _ (Nat.le_refl _)
  rw [List.take_length] at h1
  unfold badB badL seen
  rw [h1, Bool.or_comm]
  congr 3
  unfold writtenB thereB
  congr 1
  have hz := hmi.z
  generalize l.getD i default = e at *
  rw [Bool.eq_iff_iff]
  simp only [Bool.and_eq_true, beq_iff_eq, decide_eq_true_eq]
  exact ⟨fun h => h.1, fun h => ⟨h, hz h⟩⟩
theorem fine_is (l : List Event) : (fine l = -1 ∧ ∀ j, j < l.length → badB l j = false) ∨ ∃ k : Nat, k < l.length ∧ fine l = k ∧ badB l k = true ∧ ∀ j, j < k → badB l j = false := by
  by_cases h : ∃ k, k < l.length ∧ badB l k = true
  · have : ∀ n, ∀ k, k ≤ n → k < l.length → badB l k = true → ∃ k : Nat, k < l.length ∧ badB l k = true ∧ ∀ j, j < k → badB l j = false := by
      intro n
      induction n with
      | zero =>
        intro k h0 h1 h2
        exact ⟨k, h1, h2, fun j hj => by omega⟩
      | succ n ih =>
        intro k h0 h1 h2
        by_cases hx : ∃ j, j < k ∧ badB l j = true
        · obtain ⟨j, h3, h4⟩ := hx
          exact ih j (by omega) (by omega) h4
        · refine ⟨k, h1, h2, fun j hj => ?_⟩
          cases hb : badB l j with
          | false => rfl
          | true => exact absurd ⟨j, hj, hb⟩ hx
    obtain ⟨k, h1, h2⟩ := h
    obtain ⟨k, h1, h2, h3⟩ := this k k (Nat.le_refl _) h1 h2
    refine .inr ⟨k, h1, ?_, h2, h3⟩
    have := S.find_at (p := badB l) (l := List.range l.length) (k := k) (by simpa using h1) (by simpa using h2) (fun j hj hjk => by simpa using h3 j hjk)
    exact this.symm
  · have hall : ∀ j, j < l.length → badB l j = false := fun j hj => by
      cases hb : badB l j with
      | false => rfl
      | true => exact absurd ⟨j, hj, hb⟩ h
    refine .inl ⟨?_, hall⟩
    exact (S.find_no (p := badB l) (l := List.range l.length) (fun j hj _ => by
      rw [List.length_range] at hj
      simpa using hall j hj)).symm
end G
namespace G
def oldTo (l : List Event) (i k : Nat) : Bool := ((aheadI l i).take k).any fun j => oldB (l.getD i default) (l.getD j default)
theorem oldTo_succ (l : List Event) (i : Nat) {k : Nat} (hk : k < (aheadI l i).length) : oldTo l i (k + 1) = (oldTo l i k || oldB (l.getD i default) (l.getD (aheadI l i)[k] default)) := by
  unfold oldTo
  rw [List.take_succ_eq_append_getElem hk, List.any_append, List.any_cons, List.any_nil, Bool.or_false]
theorem thereB_zero (l : List Event) (i : Nat) : thereB l i 0 = decide ((l.getD i default).n = 0) := by unfold thereB; simp
theorem thereB_succ (l : List Event) (i : Nat) {k : Nat} (hk : k < l.length) : thereB l i (k + 1) = (thereB l i k || wrB (l.getD i default) (l.getD k default)) := by
  have hg : l.getD k default = l[k] := by simp [hk]
  unfold thereB
  rw [List.take_succ_eq_append_getElem hk, List.any_append, List.any_cons, List.any_nil, Bool.or_false, hg, Bool.or_assoc]
theorem badL_eq (l : List Event) (i : Nat) : badL l i = (decide ((l.getD i default).kind = 2) && (oldTo l i (aheadI l i).length || !thereB l i i)) := by
  unfold badL oldTo
  rw [List.take_length]
end G
set_option maxRecDepth 100000 in
set_option maxHeartbeats 4000000 in
theorem gfine_law (l : List Act) : ACall Try.prog 3 [.sl 5 (l.map Act.row)] (bv true) := by
  have hmd := made_a l
  have hml := G.made_len l
  have hmm := G.made_made l
  generalize G.made l = e at hmd hml hmm
  refine ACall_enter (fun _ _ => by kernel_rfl) Try.func3 rfl Try.ntmps3 Try.results3 (Nat.le_of_ble_eq_true rfl) (fun hok M0 w0 hnl => ?_)
  have hfi := gfine_a e (by omega)
  have hfs := G.fine_is e
  refine Aw_seq ?_
  refine Aw_region ?_
  refine Al_pu (Pu_move (.inr rfl) (by conv => lhs; whnf)) rfl rfl (by decide) (by kernel_rfl) ?_
  refine Al_nil ?_
  refine Aw_seq ?_
  refine Aw_region ?_
  refine Al_pu (Pu_call (gawake_a) rfl trivial) rfl rfl (by decide) (by kernel_rfl) ?_
  refine Al_pu (Pu_move (.inr rfl) (by conv => lhs; whnf)) rfl rfl (by decide) (by kernel_rfl) ?_
  refine Al_nil ?_
  refine Aw_seq ?_
  refine Aw_region ?_
  refine Al_pu (Pu_move (.inl rfl) (by conv => lhs; whnf)) rfl rfl (by decide) (by kernel_rfl) ?_
  refine Al_pu (Pu_call (hmd) rfl ⟨Sub.rfl, trivial⟩) rfl rfl (by decide) (by kernel_rfl) ?_
  refine Al_pu (Pu_move (.inr rfl) (by conv => lhs; whnf)) rfl rfl (by decide) (by kernel_rfl) ?_
  refine Al_nil ?_
  refine Aw_seq ?_
  refine Aw_region ?_
  refine Al_pu (Pu_move (.inl rfl) (by conv => lhs; whnf)) rfl rfl (by decide) (by kernel_rfl) ?_
  refine Al_pu (Pu_call (hfi) rfl ⟨Sub.rfl, trivial⟩) rfl rfl (by decide) (by kernel_rfl) ?_
  refine Al_pu (Pu_move (.inr rfl) (by conv => lhs; whnf)) rfl rfl (by decide) (by kernel_rfl) ?_
  refine Al_nil ?_
  refine Aw_seq ?_
  refine Aw_seq ?_
  refine Aw_region ?_
  refine Al_pu (Pu_move (.inl rfl) (by conv => lhs; whnf)) rfl rfl (by decide) (by kernel_rfl) ?_
  refine Al_pu (Pu_cmp rfl rfl rfl rfl) rfl rfl (by decide) (by kernel_rfl) ?_
  refine Al_pu (Pu_move (.inl rfl) (by conv => lhs; whnf)) rfl rfl (by decide) (by kernel_rfl) ?_
  refine Al_st (St_gd [] rfl rfl rfl rfl trivial (fun hg22 => by exact Pu_move (.inl rfl) (by conv => lhs; whnf))) rfl (by decide) (by kernel_rfl) (by intro j b oj dj h1 h2 h3; cases h1; cases h2; cases h3; decide) ?_
  refine Al_st (St_gd [] rfl rfl rfl rfl trivial (fun hg23 => by exact Pu_move (.inl rfl) (by conv => lhs; whnf))) rfl (by decide) (by kernel_rfl) (by intro j b oj dj h1 h2 h3; cases h1; cases h2; cases h3; decide) ?_
  refine Al_st (St_gd [23] rfl rfl rfl rfl ⟨⟨_, rfl⟩, trivial⟩ (fun hg24 => by exact Pu_len rfl Try.underlying24 rfl (by first | exact List.length_map .. | exact rfl))) rfl (by decide) (by kernel_rfl) (by intro j b oj dj h1 h2 h3; cases h1; cases h2; cases h3; decide) ?_
  refine Al_st (St_gd [22, 24] rfl rfl rfl rfl ⟨⟨_, rfl⟩, ⟨_, rfl⟩, trivial⟩ (fun hg25 => Pu_cmp rfl rfl rfl rfl)) rfl (by decide) (by kernel_rfl) (by intro j b oj dj h1 h2 h3; cases h1; cases h2; cases h3; decide) ?_
  refine Al_pu (Pu_or rfl rfl rfl rfl) rfl rfl (by decide) (by kernel_rfl) ?_
  refine Al_nil ?_
  refine Aw_cond rfl (fun h26 => ?_) (fun h26 => ?_)
  · (try simp only [decide_eq_true_eq, decide_eq_false_iff_not, Bool.and_eq_true, Bool.or_eq_true, Bool.and_eq_false_iff, Bool.or_eq_false_iff, Bool.not_eq_true', Bool.not_eq_false', beq_iff_eq, Bool.not_eq_eq_eq_not, Bool.not_true, Bool.not_false, List.length_map, Bool.and_true, Bool.and_false, Bool.false_and, Bool.true_and, Bool.or_false, Bool.false_or] at h26)
    exfalso; rcases hfs with ⟨h, _⟩ | ⟨k, h1, h2, _⟩ <;> omega
  · (try simp only [decide_eq_true_eq, decide_eq_false_iff_not, Bool.and_eq_true, Bool.or_eq_true, Bool.and_eq_false_iff, Bool.or_eq_false_iff, Bool.not_eq_true', Bool.not_eq_false', beq_iff_eq, Bool.not_eq_eq_eq_not, Bool.not_true, Bool.not_false, List.length_map, Bool.and_true, Bool.and_false, Bool.false_and, Bool.true_and, Bool.or_false, Bool.false_or] at h26)
    refine Aw_skip ?_
    -- join 0: live [3], turned []
    refine Aw_seq ?_
    refine Aw_seq ?_
    refine Aw_region ?_
    refine Al_pu (Pu_move (.inr rfl) (by conv => lhs; whnf)) rfl rfl (by decide) (by kernel_rfl) ?_
    refine Al_nil ?_
    refine Aw_block ?_
    refine Aw_loopk (ι := Nat) [3, 4, 5] [] (fun i => [(6, .d (iv i))]) (fun i => []) (fun i => i ≤ e.length) (fun i => e.length - i) (0) (Nat.zero_le _) ⟨Sub.rfl, trivial⟩ trivial ?_
    rintro i hk0
    refine Aw_seq ?_
    refine Aw_seq ?_
    refine Aw_region ?_
    refine Al_pu (Pu_move (.inl rfl) (by conv => lhs; whnf)) rfl rfl (by decide) (by kernel_rfl) ?_
    refine Al_pu (Pu_move (.inl rfl) (by conv => lhs; whnf)) rfl rfl (by decide) (by kernel_rfl) ?_
    refine Al_pu (Pu_len rfl Try.underlying24 rfl (by first | exact List.length_map .. | exact rfl)) rfl rfl (by decide) (by kernel_rfl) ?_
    refine Al_pu (Pu_cmp rfl rfl rfl rfl) rfl rfl (by decide) (by kernel_rfl) ?_
    refine Al_nil ?_
    refine Aw_cond rfl (fun h30 => ?_) (fun h30 => ?_)
    · (try simp only [decide_eq_true_eq, decide_eq_false_iff_not, Bool.and_eq_true, Bool.or_eq_true, Bool.and_eq_false_iff, Bool.or_eq_false_iff, Bool.not_eq_true', Bool.not_eq_false', beq_iff_eq, Bool.not_eq_eq_eq_not, Bool.not_true, Bool.not_false, List.length_map, Bool.and_true, Bool.and_false, Bool.false_and, Bool.true_and, Bool.or_false, Bool.false_or] at h30)
      have hi : i < e.length := by omega
      have hA := gahead_a e (by omega) i
      have hal := G.aheadI_len e i
      have hbe := G.bad_eq hmm hi
      refine Aw_skip ?_
      refine Aw_seq ?_
      refine Aw_block ?_
      refine Aw_seq ?_
      refine Aw_seq ?_
      refine Aw_region ?_
      refine Al_pu (Pu_move (.inl rfl) (by conv => lhs; whnf)) rfl rfl (by decide) (by kernel_rfl) ?_
      refine Al_pu (Pu_cmp rfl rfl rfl rfl) rfl rfl (by decide) (by kernel_rfl) ?_
      refine Al_pu (Pu_move (.inl rfl) (by conv => lhs; whnf)) rfl rfl (by decide) (by kernel_rfl) ?_
      refine Al_st (St_gd [] rfl rfl rfl rfl trivial (fun hg36 => by exact Pu_move (.inl rfl) (by conv => lhs; whnf))) rfl (by decide) (by kernel_rfl) (by intro j b oj dj h1 h2 h3; cases h1; cases h2; cases h3; decide) ?_
      refine Al_st (St_gd [] rfl rfl rfl rfl trivial (fun hg37 => by exact Pu_move (.inl rfl) (by conv => lhs; whnf))) rfl (by decide) (by kernel_rfl) (by intro j b oj dj h1 h2 h3; cases h1; cases h2; cases h3; decide) ?_
      refine Al_st (St_gd [36, 37] rfl rfl rfl rfl ⟨⟨_, rfl⟩, ⟨_, rfl⟩, trivial⟩ (fun hg38 => Pu_cmp rfl rfl rfl rfl)) rfl (by decide) (by kernel_rfl) (by intro j b oj dj h1 h2 h3; cases h1; cases h2; cases h3; decide) ?_
      refine Al_pu (Pu_and rfl rfl rfl rfl) rfl rfl (by decide) (by kernel_rfl) ?_
      refine Al_nil ?_
      refine Aw_cond rfl (fun h39 => ?_) (fun h39 => ?_)
      · skip
        refine Aw_exit ?_
        refine Aw_seq ?_
        refine Aw_region ?_
        refine Al_pu (Pu_move (.inl rfl) (by conv => lhs; whnf)) rfl rfl (by decide) (by kernel_rfl) ?_
        refine Al_pu (Pu_move (.inr rfl) (by conv => lhs; whnf)) rfl rfl (by decide) (by kernel_rfl) ?_
        refine Al_nil ?_
        refine Aw_ret ?_
        exact Sub.rfl -- ret 0
      · skip
        have hbad : G.badL e i = decide ((i : Int) = G.fine e) := by
          rw [← hbe]
          simp only [Bool.and_eq_false_iff, decide_eq_false_iff_not] at h39
          rcases hfs with ⟨h1, h2⟩ | ⟨k, h1, h2, h3, h4⟩
          · rw [h2 i hi, decide_eq_false (by omega)]
          · by_cases hk : i = k
            · subst hk; rw [h3, decide_eq_true (by omega)]
            · rw [h4 i (by omega), decide_eq_false (by omega)]
        refine Aw_skip ?_
        refine Aw_seq ?_
        refine Aw_region ?_
        refine Al_pu (Pu_move (.inr rfl) (by conv => lhs; whnf)) rfl rfl (by decide) (by kernel_rfl) ?_
        refine Al_nil ?_
        refine Aw_seq ?_
        refine Aw_region ?_
        refine Al_pu (Pu_move (.inl rfl) (by conv => lhs; whnf)) rfl rfl (by decide) (by kernel_rfl) ?_
        refine Al_pu (Pu_move (.inl rfl) (by conv => lhs; whnf)) rfl rfl (by decide) (by kernel_rfl) ?_
        refine Al_pu (Pu_call (hA) rfl ⟨Sub.rfl, Sub.rfl, trivial⟩) rfl rfl (by decide) (by kernel_rfl) ?_
        refine Al_pu (Pu_move (.inr rfl) (by conv => lhs; whnf)) rfl rfl (by decide) (by kernel_rfl) ?_
        refine Al_nil ?_
        refine Aw_seq ?_
        refine Aw_seq ?_
        refine Aw_region ?_
        refine Al_pu (Pu_move (.inr rfl) (by conv => lhs; whnf)) rfl rfl (by decide) (by kernel_rfl) ?_
        refine Al_nil ?_
        refine Aw_block ?_
        refine Aw_loopk (ι := Nat) [3, 4, 5, 6, 8] [] (fun k => [(9, .d (iv k)), (7, .d (bv (G.oldTo e i k)))]) (fun k => []) (fun k => k ≤ (G.aheadI e i).length) (fun k => (G.aheadI e i).length - k) (0) (Nat.zero_le _) ⟨Sub.rfl, Sub.rfl, trivial⟩ trivial ?_
        rintro k hk1
        refine Aw_seq ?_
        refine Aw_seq ?_
        refine Aw_region ?_
        refine Al_pu (Pu_move (.inl rfl) (by conv => lhs; whnf)) rfl rfl (by decide) (by kernel_rfl) ?_
        refine Al_pu (Pu_move (.inl rfl) (by conv => lhs; whnf)) rfl rfl (by decide) (by kernel_rfl) ?_
        refine Al_pu (Pu_len rfl Try.underlying27 rfl (by first | exact List.length_map .. | exact rfl)) rfl rfl (by decide) (by kernel_rfl) ?_
        refine Al_pu (Pu_cmp rfl rfl rfl rfl) rfl rfl (by decide) (by kernel_rfl) ?_
        refine Al_nil ?_
        refine Aw_cond rfl (fun h46 => ?_) (fun h46 => ?_)
        · (try simp only [decide_eq_true_eq, decide_eq_false_iff_not, Bool.and_eq_true, Bool.or_eq_true, Bool.and_eq_false_iff, Bool.or_eq_false_iff, Bool.not_eq_true', Bool.not_eq_false', beq_iff_eq, Bool.not_eq_eq_eq_not, Bool.not_true, Bool.not_false, List.length_map, Bool.and_true, Bool.and_false, Bool.false_and, Bool.true_and, Bool.or_false, Bool.false_or] at h46)
          have hk : k < (G.aheadI e i).length := by omega
          have hjl := G.aheadI_lt (List.getElem_mem hk)
          have hos := G.oldTo_succ e i hk
          refine Aw_skip ?_
          -- join 1: live [3, 4, 5, 6, 7, 8, 9], turned [7]
          refine Aw_seq ?_
          refine Aw_block ?_
          refine Aw_seq ?_
          refine Aw_region ?_
          refine Al_pu (Pu_move (.inl rfl) (by conv => lhs; whnf)) rfl rfl (by decide) (by kernel_rfl) ?_
          refine Al_pu (Pu_move (.inl rfl) (by conv => lhs; whnf)) rfl rfl (by decide) (by kernel_rfl) ?_
          refine Al_pu (Pu_move (.inl rfl) (by conv => lhs; whnf)) rfl rfl (by decide) (by kernel_rfl) ?_
          refine Al_pu (Pu_index rfl Try.underlying27 Try.sizeOf3 rfl rfl (rfl) (mapget hk)) rfl rfl (by decide) (by kernel_rfl) ?_
          refine Al_pu (Pu_load1 rfl Try.isAgg3 rfl rfl) rfl rfl (by decide) (by kernel_rfl) ?_
          refine Al_pu (Pu_index rfl Try.underlying24 Try.sizeOf33 rfl rfl (rfl) (mapgetD (d := default) hjl)) rfl rfl (by decide) (by kernel_rfl) ?_
          refine Al_pu (Pu_loadN rfl Try.isAgg33 Try.sizeOf33 rfl (Nat.le_of_ble_eq_true rfl)) rfl rfl (by decide) (by kernel_rfl) ?_
          refine Al_alloc rfl rfl rfl (by decide) Try.zeroValue33 rfl (by kernel_rfl) (fun g10 => ?_)
          refine Al_storeN rfl rfl rfl (by kernel_rfl) Try.isAgg33 Try.sizeOf33 rfl rfl rfl rfl (Nat.le_of_ble_eq_true rfl) ?_
          refine Al_nil ?_
          refine Aw_seq ?_
          refine Aw_draw 29 (by kernel_rfl) (by kernel_rfl) ?_
          refine Dr_pu (Pu_fieldb 0 rfl Try.underlying33 rfl rfl Try.sizeOf3 rfl) rfl rfl ?_
          refine Dr_pu (Pu_loadb rfl Try.isAgg3 rfl rfl rfl) rfl rfl ?_
          refine Dr_pu (Pu_cmp rfl rfl rfl rfl) rfl rfl ?_
          refine Dr_pu (Pu_move (.inl rfl) (by conv => lhs; whnf)) rfl rfl ?_
          refine Dr_st (St_gd [] rfl rfl rfl rfl trivial (fun hg60 => Pu_fieldb 2 rfl Try.underlying33 rfl rfl Try.sizeOf9 rfl)) rfl ?_
          refine Dr_st (St_gd [60] rfl rfl rfl rfl ⟨⟨_, rfl⟩, trivial⟩ (fun hg61 => Pu_loadb rfl Try.isAgg9 rfl rfl rfl)) rfl ?_
          refine Dr_st (St_gd [] rfl rfl rfl rfl trivial (fun hg62 => by exact Pu_move (.inl rfl) (by conv => lhs; whnf))) rfl ?_
          refine Dr_st (St_gd [] rfl rfl rfl rfl trivial (fun hg63 => by exact Pu_move (.inl rfl) (by conv => lhs; whnf))) rfl ?_
          refine Dr_st (St_gd [62, 63] rfl rfl rfl rfl ⟨⟨_, rfl⟩, ⟨_, rfl⟩, trivial⟩ (fun hg64 => Pu_index rfl Try.underlying24 Try.sizeOf33 rfl rfl (rfl) (mapgetD (d := default) hi))) rfl ?_
          refine Dr_st (St_gd [64] rfl rfl rfl rfl ⟨⟨_, rfl⟩, trivial⟩ (fun hg65 => Pu_field 2 rfl Try.underlying33 rfl rfl Try.sizeOf9 rfl)) rfl ?_
          refine Dr_st (St_gd [65] rfl rfl rfl rfl ⟨⟨_, rfl⟩, trivial⟩ (fun hg66 => Pu_load1 rfl Try.isAgg9 rfl rfl)) rfl ?_
          refine Dr_st (St_gd [61, 66] rfl rfl rfl rfl ⟨⟨_, rfl⟩, ⟨_, rfl⟩, trivial⟩ (fun hg67 => Pu_str rfl rfl rfl rfl)) rfl ?_
          refine Dr_pu (Pu_and rfl rfl rfl rfl) rfl rfl ?_
          refine Dr_pu (Pu_move (.inl rfl) (by conv => lhs; whnf)) rfl rfl ?_
          refine Dr_st (St_gd [] rfl rfl rfl rfl trivial (fun hg70 => Pu_fieldb 3 rfl Try.underlying33 rfl rfl Try.sizeOf30 rfl)) rfl ?_
          refine Dr_st (St_gd [70] rfl rfl rfl rfl ⟨⟨_, rfl⟩, trivial⟩ (fun hg71 => Pu_fieldb 0 rfl Try.underlying30 rfl rfl Try.sizeOf3 rfl)) rfl ?_
          refine Dr_st (St_gd [71] rfl rfl rfl rfl ⟨⟨_, rfl⟩, trivial⟩ (fun hg72 => Pu_loadb rfl Try.isAgg3 rfl rfl rfl)) rfl ?_
          refine Dr_st (St_gd [72] rfl rfl rfl rfl ⟨⟨_, rfl⟩, trivial⟩ (fun hg73 => Pu_cmp rfl rfl rfl rfl)) rfl ?_
          refine Dr_pu (Pu_and rfl rfl rfl rfl) rfl rfl ?_
          refine Dr_pu (Pu_move (.inl rfl) (by conv => lhs; whnf)) rfl rfl ?_
          refine Dr_st (St_gd [] rfl rfl rfl rfl trivial (fun hg76 => by exact Pu_move (.inl rfl) (by conv => lhs; whnf))) rfl ?_
          refine Dr_st (St_gd [] rfl rfl rfl rfl trivial (fun hg77 => by exact Pu_move (.inl rfl) (by conv => lhs; whnf))) rfl ?_
          refine Dr_st (St_gd [76, 77] rfl rfl rfl rfl ⟨⟨_, rfl⟩, ⟨_, rfl⟩, trivial⟩ (fun hg78 => Pu_index rfl Try.underlying24 Try.sizeOf33 rfl rfl (rfl) (mapgetD (d := default) hi))) rfl ?_
          refine Dr_st (St_gd [78] rfl rfl rfl rfl ⟨⟨_, rfl⟩, trivial⟩ (fun hg79 => Pu_field 3 rfl Try.underlying33 rfl rfl Try.sizeOf30 rfl)) rfl ?_
          refine Dr_st (St_gd [79] rfl rfl rfl rfl ⟨⟨_, rfl⟩, trivial⟩ (fun hg80 => Pu_loadN rfl Try.isAgg30 Try.sizeOf30 rfl (Nat.le_of_ble_eq_true rfl))) rfl ?_
          refine Dr_st (St_gd [] rfl rfl rfl rfl trivial (fun hg81 => Pu_fieldb 3 rfl Try.underlying33 rfl rfl Try.sizeOf30 rfl)) rfl ?_
          refine Dr_st (St_gd [81] rfl rfl rfl rfl ⟨⟨_, rfl⟩, trivial⟩ (fun hg82 => Pu_loadbN (r := [_, _]) rfl Try.isAgg30 Try.sizeOf30 rfl rfl rfl rfl)) rfl ?_
          refine Dr_st (St_gd [80, 82] rfl rfl rfl rfl ⟨⟨_, rfl⟩, ⟨_, rfl⟩, trivial⟩ (fun hg83 => Pu_call (rless_a _ _ _ _) rfl ⟨Sub.rfl, Sub.rfl, trivial⟩)) rfl ?_
          refine Dr_pu (Pu_and rfl rfl rfl rfl) rfl rfl ?_
          refine Dr_nil ?_
          refine Al_nil ?_
          refine Aw_cond rfl (fun h84 => ?_) (fun h84 => ?_)
          · skip
            have ho : G.oldB (e.getD i default) (e.getD ((G.aheadI e i)[k]'hk) default) = true := h84
            refine Aw_region ?_
            refine Al_pu (Pu_move (.inr rfl) (by conv => lhs; whnf)) rfl rfl (by decide) (by kernel_rfl) ?_
            refine Al_nil ?_
            refine Aw_region ?_
            refine Al_pu (Pu_move (.inl rfl) (by conv => lhs; whnf)) rfl rfl (by decide) (by kernel_rfl) ?_
            refine Al_pu (Pu_add rfl rfl rfl (fun h1 h2 => by simp only [A.inI, A.maxI] at *; omega)) rfl rfl (by decide) (by kernel_rfl) ?_
            refine Al_pu (Pu_move (.inr rfl) (by conv => lhs; whnf)) rfl rfl (by decide) (by kernel_rfl) ?_
            refine Al_nil ?_
            exact ⟨k + 1, by omega, by omega, Le.ov ⟨Sub.num (by omega), Sub.bool (by rw [hos, ho, Bool.or_true]), trivial⟩ ⟨Sub.rfl, Sub.rfl, Sub.rfl, Sub.rfl, Sub.rfl, trivial⟩ trivial trivial⟩ -- loop 1 next.0
          · skip
            have ho : G.oldB (e.getD i default) (e.getD ((G.aheadI e i)[k]'hk) default) = false := h84
            refine Aw_skip ?_
            refine Aw_region ?_
            refine Al_pu (Pu_move (.inl rfl) (by conv => lhs; whnf)) rfl rfl (by decide) (by kernel_rfl) ?_
            refine Al_pu (Pu_add rfl rfl rfl (fun h1 h2 => by simp only [A.inI, A.maxI] at *; omega)) rfl rfl (by decide) (by kernel_rfl) ?_
            refine Al_pu (Pu_move (.inr rfl) (by conv => lhs; whnf)) rfl rfl (by decide) (by kernel_rfl) ?_
            refine Al_nil ?_
            exact ⟨k + 1, by omega, by omega, Le.ov ⟨Sub.num (by omega), Sub.bool (by rw [hos, ho, Bool.or_false]), trivial⟩ ⟨Sub.rfl, Sub.rfl, Sub.rfl, Sub.rfl, Sub.rfl, trivial⟩ trivial trivial⟩ -- loop 1 next.1
        · (try simp only [decide_eq_true_eq, decide_eq_false_iff_not, Bool.and_eq_true, Bool.or_eq_true, Bool.and_eq_false_iff, Bool.or_eq_false_iff, Bool.not_eq_true', Bool.not_eq_false', beq_iff_eq, Bool.not_eq_eq_eq_not, Bool.not_true, Bool.not_false, List.length_map, Bool.and_true, Bool.and_false, Bool.false_and, Bool.true_and, Bool.or_false, Bool.false_or] at h46)
          have hkk : k = (G.aheadI e i).length := by omega
          refine Aw_exit ?_
          refine Aw_seq ?_
          refine Aw_region ?_
          refine Al_pu (Pu_move (.inl rfl) (by conv => lhs; whnf)) rfl rfl (by decide) (by kernel_rfl) ?_
          refine Al_pu (Pu_move (.inl rfl) (by conv => lhs; whnf)) rfl rfl (by decide) (by kernel_rfl) ?_
          refine Al_pu (Pu_index rfl Try.underlying24 Try.sizeOf33 rfl rfl (rfl) (mapgetD (d := default) hi)) rfl rfl (by decide) (by kernel_rfl) ?_
          refine Al_pu (Pu_field 3 rfl Try.underlying33 rfl rfl Try.sizeOf30 rfl) rfl rfl (by decide) (by kernel_rfl) ?_
          refine Al_pu (Pu_field 0 rfl Try.underlying30 rfl rfl Try.sizeOf3 rfl) rfl rfl (by decide) (by kernel_rfl) ?_
          refine Al_pu (Pu_load1 rfl Try.isAgg3 rfl rfl) rfl rfl (by decide) (by kernel_rfl) ?_
          refine Al_pu (Pu_cmp rfl rfl rfl rfl) rfl rfl (by decide) (by kernel_rfl) ?_
          refine Al_pu (Pu_move (.inr rfl) (by conv => lhs; whnf)) rfl rfl (by decide) (by kernel_rfl) ?_
          refine Al_nil ?_
          refine Aw_seq ?_
          refine Aw_seq ?_
          refine Aw_region ?_
          refine Al_pu (Pu_move (.inr rfl) (by conv => lhs; whnf)) rfl rfl (by decide) (by kernel_rfl) ?_
          refine Al_nil ?_
          refine Aw_block ?_
          refine Aw_loopk (ι := Nat) [3, 4, 5, 6, 7] [] (fun m => [(12, .d (iv m)), (11, .d (bv (G.thereB e i m)))]) (fun m => []) (fun m => m ≤ i) (fun m => i - m) (0) (Nat.zero_le _) ⟨Sub.rfl, Sub.bool (G.thereB_zero e i).symm, trivial⟩ trivial ?_
          rintro m hk2
          refine Aw_seq ?_
          refine Aw_seq ?_
          refine Aw_region ?_
          refine Al_pu (Pu_move (.inl rfl) (by conv => lhs; whnf)) rfl rfl (by decide) (by kernel_rfl) ?_
          refine Al_pu (Pu_move (.inl rfl) (by conv => lhs; whnf)) rfl rfl (by decide) (by kernel_rfl) ?_
          refine Al_pu (Pu_cmp rfl rfl rfl rfl) rfl rfl (by decide) (by kernel_rfl) ?_
          refine Al_nil ?_
          refine Aw_cond rfl (fun h94 => ?_) (fun h94 => ?_)
          · (try simp only [decide_eq_true_eq, decide_eq_false_iff_not, Bool.and_eq_true, Bool.or_eq_true, Bool.and_eq_false_iff, Bool.or_eq_false_iff, Bool.not_eq_true', Bool.not_eq_false', beq_iff_eq, Bool.not_eq_eq_eq_not, Bool.not_true, Bool.not_false, List.length_map, Bool.and_true, Bool.and_false, Bool.false_and, Bool.true_and, Bool.or_false, Bool.false_or] at h94)
            have hm : m < e.length := by omega
            have hts := G.thereB_succ e i hm
            refine Aw_skip ?_
            refine Aw_seq ?_
            refine Aw_block ?_
            refine Aw_draw 35 (by kernel_rfl) (by kernel_rfl) ?_
            refine Dr_pu (Pu_move (.inl rfl) (by conv => lhs; whnf)) rfl rfl ?_
            refine Dr_pu (Pu_move (.inl rfl) (by conv => lhs; whnf)) rfl rfl ?_
            refine Dr_st (St_gd [] rfl rfl rfl rfl trivial (fun hg99 => by exact Pu_move (.inl rfl) (by conv => lhs; whnf))) rfl ?_
            refine Dr_st (St_gd [] rfl rfl rfl rfl trivial (fun hg100 => by exact Pu_move (.inl rfl) (by conv => lhs; whnf))) rfl ?_
            refine Dr_st (St_gd [99, 100] rfl rfl rfl rfl ⟨⟨_, rfl⟩, ⟨_, rfl⟩, trivial⟩ (fun hg101 => Pu_index rfl Try.underlying24 Try.sizeOf33 rfl rfl (rfl) (mapgetD (d := default) hm))) rfl ?_
            refine Dr_st (St_gd [101] rfl rfl rfl rfl ⟨⟨_, rfl⟩, trivial⟩ (fun hg102 => Pu_field 0 rfl Try.underlying33 rfl rfl Try.sizeOf3 rfl)) rfl ?_
            refine Dr_st (St_gd [102] rfl rfl rfl rfl ⟨⟨_, rfl⟩, trivial⟩ (fun hg103 => Pu_load1 rfl Try.isAgg3 rfl rfl)) rfl ?_
            refine Dr_st (St_gd [103] rfl rfl rfl rfl ⟨⟨_, rfl⟩, trivial⟩ (fun hg104 => Pu_cmp rfl rfl rfl rfl)) rfl ?_
            refine Dr_st (St_gd [104] rfl rfl rfl rfl ⟨⟨_, rfl⟩, trivial⟩ (fun hg105 => by exact Pu_move (.inl rfl) (by conv => lhs; whnf))) rfl ?_
            refine Dr_st (St_gd2 [] rfl rfl rfl rfl trivial (fun hp106 hg106 => by exact Pu_move (.inl rfl) (by conv => lhs; whnf))) rfl ?_
            refine Dr_st (St_gd2 [] rfl rfl rfl rfl trivial (fun hp107 hg107 => by exact Pu_move (.inl rfl) (by conv => lhs; whnf))) rfl ?_
            refine Dr_st (St_gd2 [106, 107] rfl rfl rfl rfl ⟨⟨_, rfl⟩, ⟨_, rfl⟩, trivial⟩ (fun hp108 hg108 => Pu_index rfl Try.underlying24 Try.sizeOf33 rfl rfl (rfl) (mapgetD (d := default) hm))) rfl ?_
            refine Dr_st (St_gd2 [108] rfl rfl rfl rfl ⟨⟨_, rfl⟩, trivial⟩ (fun hp109 hg109 => Pu_field 2 rfl Try.underlying33 rfl rfl Try.sizeOf9 rfl)) rfl ?_
            refine Dr_st (St_gd2 [109] rfl rfl rfl rfl ⟨⟨_, rfl⟩, trivial⟩ (fun hp110 hg110 => Pu_load1 rfl Try.isAgg9 rfl rfl)) rfl ?_
            refine Dr_st (St_gd2 [] rfl rfl rfl rfl trivial (fun hp111 hg111 => by exact Pu_move (.inl rfl) (by conv => lhs; whnf))) rfl ?_
            refine Dr_st (St_gd2 [] rfl rfl rfl rfl trivial (fun hp112 hg112 => by exact Pu_move (.inl rfl) (by conv => lhs; whnf))) rfl ?_
            refine Dr_st (St_gd2 [111, 112] rfl rfl rfl rfl ⟨⟨_, rfl⟩, ⟨_, rfl⟩, trivial⟩ (fun hp113 hg113 => Pu_index rfl Try.underlying24 Try.sizeOf33 rfl rfl (rfl) (mapgetD (d := default) hi))) rfl ?_
            refine Dr_st (St_gd2 [113] rfl rfl rfl rfl ⟨⟨_, rfl⟩, trivial⟩ (fun hp114 hg114 => Pu_field 2 rfl Try.underlying33 rfl rfl Try.sizeOf9 rfl)) rfl ?_
            refine Dr_st (St_gd2 [114] rfl rfl rfl rfl ⟨⟨_, rfl⟩, trivial⟩ (fun hp115 hg115 => Pu_load1 rfl Try.isAgg9 rfl rfl)) rfl ?_
            refine Dr_st (St_gd2 [110, 115] rfl rfl rfl rfl ⟨⟨_, rfl⟩, ⟨_, rfl⟩, trivial⟩ (fun hp116 hg116 => Pu_str rfl rfl rfl rfl)) rfl ?_
            refine Dr_st (St_gd [105] rfl rfl rfl rfl ⟨⟨_, rfl⟩, trivial⟩ (fun hg117 => Pu_andG rfl rfl (fun h => ⟨hg117, h⟩) rfl rfl)) rfl ?_
            refine Dr_st (St_gd [117] rfl rfl rfl rfl ⟨⟨_, rfl⟩, trivial⟩ (fun hg118 => by exact Pu_move (.inl rfl) (by conv => lhs; whnf))) rfl ?_
            refine Dr_st (St_gd2 [] rfl rfl rfl rfl trivial (fun hp119 hg119 => by exact Pu_move (.inl rfl) (by conv => lhs; whnf))) rfl ?_
            refine Dr_st (St_gd2 [] rfl rfl rfl rfl trivial (fun hp120 hg120 => by exact Pu_move (.inl rfl) (by conv => lhs; whnf))) rfl ?_
            refine Dr_st (St_gd2 [119, 120] rfl rfl rfl rfl ⟨⟨_, rfl⟩, ⟨_, rfl⟩, trivial⟩ (fun hp121 hg121 => Pu_index rfl Try.underlying24 Try.sizeOf33 rfl rfl (rfl) (mapgetD (d := default) hm))) rfl ?_
            refine Dr_st (St_gd2 [121] rfl rfl rfl rfl ⟨⟨_, rfl⟩, trivial⟩ (fun hp122 hg122 => Pu_field 3 rfl Try.underlying33 rfl rfl Try.sizeOf30 rfl)) rfl ?_
            refine Dr_st (St_gd2 [122] rfl rfl rfl rfl ⟨⟨_, rfl⟩, trivial⟩ (fun hp123 hg123 => Pu_loadN rfl Try.isAgg30 Try.sizeOf30 rfl (Nat.le_of_ble_eq_true rfl))) rfl ?_
            refine Dr_st (St_gd2 [] rfl rfl rfl rfl trivial (fun hp124 hg124 => by exact Pu_move (.inl rfl) (by conv => lhs; whnf))) rfl ?_
            refine Dr_st (St_gd2 [] rfl rfl rfl rfl trivial (fun hp125 hg125 => by exact Pu_move (.inl rfl) (by conv => lhs; whnf))) rfl ?_
            refine Dr_st (St_gd2 [124, 125] rfl rfl rfl rfl ⟨⟨_, rfl⟩, ⟨_, rfl⟩, trivial⟩ (fun hp126 hg126 => Pu_index rfl Try.underlying24 Try.sizeOf33 rfl rfl (rfl) (mapgetD (d := default) hi))) rfl ?_
            refine Dr_st (St_gd2 [126] rfl rfl rfl rfl ⟨⟨_, rfl⟩, trivial⟩ (fun hp127 hg127 => Pu_field 3 rfl Try.underlying33 rfl rfl Try.sizeOf30 rfl)) rfl ?_
            refine Dr_st (St_gd2 [127] rfl rfl rfl rfl ⟨⟨_, rfl⟩, trivial⟩ (fun hp128 hg128 => Pu_loadN rfl Try.isAgg30 Try.sizeOf30 rfl (Nat.le_of_ble_eq_true rfl))) rfl ?_
            refine Dr_st (St_gd2 [123, 128] rfl rfl rfl rfl ⟨⟨_, rfl⟩, ⟨_, rfl⟩, trivial⟩ (fun hp129 hg129 => Pu_eqrow [.int .i64 _, .int .i64 _] [.int .i64 _, .int .i64 _] (fun w => eqv30 _ _ _ _ _ _ w) rfl rfl rfl)) rfl ?_
            refine Dr_st (St_gd [118] rfl rfl rfl rfl ⟨⟨_, rfl⟩, trivial⟩ (fun hg130 => Pu_andG rfl rfl (fun h => ⟨hg130, h⟩) rfl rfl)) rfl ?_
            refine Dr_pu (Pu_or rfl rfl rfl rfl) rfl rfl ?_
            refine Dr_nil ?_
            refine Al_pu (Pu_move (.inr rfl) (by conv => lhs; whnf)) rfl rfl (by decide) (by kernel_rfl) ?_
            refine Al_nil ?_
            refine Aw_region ?_
            refine Al_pu (Pu_move (.inl rfl) (by conv => lhs; whnf)) rfl rfl (by decide) (by kernel_rfl) ?_
            refine Al_pu (Pu_add rfl rfl rfl (fun h1 h2 => by simp only [A.inI, A.maxI] at *; omega)) rfl rfl (by decide) (by kernel_rfl) ?_
            refine Al_pu (Pu_move (.inr rfl) (by conv => lhs; whnf)) rfl rfl (by decide) (by kernel_rfl) ?_
            refine Al_nil ?_
            exact ⟨m + 1, by omega, by omega, Le.ov ⟨Sub.num (by omega), Sub.bool (by rw [hts]; rfl), trivial⟩ ⟨Sub.rfl, Sub.rfl, Sub.rfl, Sub.rfl, Sub.rfl, trivial⟩ trivial trivial⟩ -- loop 2 next.0
          · (try simp only [decide_eq_true_eq, decide_eq_false_iff_not, Bool.and_eq_true, Bool.or_eq_true, Bool.and_eq_false_iff, Bool.or_eq_false_iff, Bool.not_eq_true', Bool.not_eq_false', beq_iff_eq, Bool.not_eq_eq_eq_not, Bool.not_true, Bool.not_false, List.length_map, Bool.and_true, Bool.and_false, Bool.false_and, Bool.true_and, Bool.or_false, Bool.false_or] at h94)
            obtain rfl : i = m := by omega
            rw [G.badL_eq, ← hkk] at hbad
            refine Aw_exit ?_
            refine Aw_seq ?_
            refine Aw_region ?_
            refine Al_pu (Pu_move (.inl rfl) (by conv => lhs; whnf)) rfl rfl (by decide) (by kernel_rfl) ?_
            refine Al_pu (Pu_move (.inl rfl) (by conv => lhs; whnf)) rfl rfl (by decide) (by kernel_rfl) ?_
            refine Al_pu (Pu_index rfl Try.underlying24 Try.sizeOf33 rfl rfl (rfl) (mapgetD (d := default) hi)) rfl rfl (by decide) (by kernel_rfl) ?_
            refine Al_pu (Pu_field 0 rfl Try.underlying33 rfl rfl Try.sizeOf3 rfl) rfl rfl (by decide) (by kernel_rfl) ?_
            refine Al_pu (Pu_load1 rfl Try.isAgg3 rfl rfl) rfl rfl (by decide) (by kernel_rfl) ?_
            refine Al_pu (Pu_cmp rfl rfl rfl rfl) rfl rfl (by decide) (by kernel_rfl) ?_
            refine Al_pu (Pu_move (.inl rfl) (by conv => lhs; whnf)) rfl rfl (by decide) (by kernel_rfl) ?_
            refine Al_st (St_gd [] rfl rfl rfl rfl trivial (fun hg139 => by exact Pu_move (.inl rfl) (by conv => lhs; whnf))) rfl (by decide) (by kernel_rfl) (by intro j b oj dj h1 h2 h3; cases h1; cases h2; cases h3; decide) ?_
            refine Al_st (St_gd [139] rfl rfl rfl rfl ⟨⟨_, rfl⟩, trivial⟩ (fun hg140 => by exact Pu_move (.inl rfl) (by conv => lhs; whnf))) rfl (by decide) (by kernel_rfl) (by intro j b oj dj h1 h2 h3; cases h1; cases h2; cases h3; decide) ?_
            refine Al_st (St_gd2 [] rfl rfl rfl rfl trivial (fun hp141 hg141 => by exact Pu_move (.inl rfl) (by conv => lhs; whnf))) rfl (by decide) (by kernel_rfl) (by intro j b oj dj h1 h2 h3; cases h1; cases h2; cases h3; decide) ?_
            refine Al_st (St_gd2 [141] rfl rfl rfl rfl ⟨⟨_, rfl⟩, trivial⟩ (fun hp142 hg142 => Pu_not rfl rfl)) rfl (by decide) (by kernel_rfl) (by intro j b oj dj h1 h2 h3; cases h1; cases h2; cases h3; decide) ?_
            refine Al_st (St_gd [140] rfl rfl rfl rfl ⟨⟨_, rfl⟩, trivial⟩ (fun hg143 => Pu_orG rfl rfl rfl (fun h => ⟨hg143, h⟩) rfl)) rfl (by decide) (by kernel_rfl) (by intro j b oj dj h1 h2 h3; cases h1; cases h2; cases h3; decide) ?_
            refine Al_pu (Pu_and rfl rfl rfl rfl) rfl rfl (by decide) (by kernel_rfl) ?_
            refine Al_pu (Pu_move (.inr rfl) (by conv => lhs; whnf)) rfl rfl (by decide) (by kernel_rfl) ?_
            refine Al_nil ?_
            refine Aw_seq ?_
            refine Aw_region ?_
            refine Al_pu (Pu_move (.inl rfl) (by conv => lhs; whnf)) rfl rfl (by decide) (by kernel_rfl) ?_
            refine Al_pu (Pu_move (.inl rfl) (by conv => lhs; whnf)) rfl rfl (by decide) (by kernel_rfl) ?_
            refine Al_pu (Pu_move (.inl rfl) (by conv => lhs; whnf)) rfl rfl (by decide) (by kernel_rfl) ?_
            refine Al_pu (Pu_cmp rfl rfl rfl rfl) rfl rfl (by decide) (by kernel_rfl) ?_
            refine Al_pu (Pu_bool rfl Try.underlying4 rfl rfl rfl) rfl rfl (by decide) (by kernel_rfl) ?_
            refine Al_nil ?_
            refine Aw_cond rfl (fun h149 => ?_) (fun h149 => ?_)
            · skip
              exfalso; rw [hbad] at h149; simp at h149
            · skip
              refine Aw_skip ?_
              refine Aw_region ?_
              refine Al_pu (Pu_move (.inl rfl) (by conv => lhs; whnf)) rfl rfl (by decide) (by kernel_rfl) ?_
              refine Al_pu (Pu_add rfl rfl rfl (fun h1 h2 => by simp only [A.inI, A.maxI] at *; omega)) rfl rfl (by decide) (by kernel_rfl) ?_
              refine Al_pu (Pu_move (.inr rfl) (by conv => lhs; whnf)) rfl rfl (by decide) (by kernel_rfl) ?_
              refine Al_nil ?_
              exact ⟨i + 1, by omega, by omega, Le.ov ⟨Sub.num (by omega), trivial⟩ ⟨Sub.rfl, Sub.rfl, Sub.rfl, trivial⟩ trivial trivial⟩ -- loop 0 next.0
    · (try simp only [decide_eq_true_eq, decide_eq_false_iff_not, Bool.and_eq_true, Bool.or_eq_true, Bool.and_eq_false_iff, Bool.or_eq_false_iff, Bool.not_eq_true', Bool.not_eq_false', beq_iff_eq, Bool.not_eq_eq_eq_not, Bool.not_true, Bool.not_false, List.length_map, Bool.and_true, Bool.and_false, Bool.false_and, Bool.true_and, Bool.or_false, Bool.false_or] at h30)
      refine Aw_exit ?_
      refine Aw_seq ?_
      refine Aw_region ?_
      refine Al_pu (Pu_move (.inl rfl) (by conv => lhs; whnf)) rfl rfl (by decide) (by kernel_rfl) ?_
      refine Al_pu (Pu_move (.inr rfl) (by conv => lhs; whnf)) rfl rfl (by decide) (by kernel_rfl) ?_
      refine Al_nil ?_
      refine Aw_ret ?_
      exact Sub.rfl -- ret 1
end Go.Proofs.Ytgoncpjgpkoacaa
