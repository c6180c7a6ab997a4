/- What the proofs need in common, laid together (3 of 4): no condition. -/
import Derived.Test.YtmbaeloiepjakaaGreatB2
import Derived.Laws.OwnMore
import Derived.Shelf.Sort.Plain
import Derived.Shelf.Slices.In.SortNone
import Derived.Shelf.SlIter.Sorted
set_option linter.unusedSimpArgs false
set_option linter.unusedVariables false
set_option linter.constructorNameAsVariable false

section
namespace Go.Proofs.YtmbaeloiepjakaaGreat
open Go.RowKit A R
open A.RowT
namespace D
def cmpS (a b : ByteArray) : Int := if Op.bytesLess a.toList b.toList then -1 else if Op.bytesLess b.toList a.toList then 1 else 0
theorem cmp_lt {a b : ByteArray} : cmpS a b < 0 ↔ Op.bytesLess a.toList b.toList = true := by
  unfold cmpS
  cases h : Op.bytesLess a.toList b.toList <;> cases Op.bytesLess b.toList a.toList <;> simp
theorem cmp_ge {a b : ByteArray} (h : Op.bytesLess a.toList b.toList = false) : 0 ≤ cmpS a b := Int.not_lt.1 fun e => by rw [cmp_lt.1 e] at h; cases h
theorem cmp_eq {a b : ByteArray} : cmpS a b = 0 ↔ a.toList = b.toList := by
  unfold cmpS
  cases h : Op.bytesLess a.toList b.toList <;> cases h2 : Op.bytesLess b.toList a.toList <;> simp
  · exact K.bl_tri _ _ h h2
  · intro e; rw [e, K.bl_irrefl] at h2; cases h2
  · intro e; rw [e, K.bl_irrefl] at h; cases h
  · intro e; rw [e, K.bl_irrefl] at h; cases h
/-- A row of deps that rises. -/
def Srt (p : List Dep) : Prop := p.Pairwise fun x y => Op.bytesLess x.key.toList y.key.toList = true
/-- And all of which may be. -/
structure Good (p : List Dep) : Prop where
  srt : Srt p
  ok : ∀ x ∈ p, okB x = true
/-- Where a key is, or would be. -/
def pos : List Dep → ByteArray → Nat
  | [], _ => 0
  | x :: r, k => if Op.bytesLess x.key.toList k.toList then pos r k + 1 else 0
theorem pos_le : ∀ (p : List Dep) (k : ByteArray), pos p k ≤ p.length
  | [], _ => Nat.le_refl _
  | x :: r, k => by
    unfold pos
    have := pos_le r k
    split
    · simp; omega
    · simp
theorem pos_lo : ∀ (p : List Dep) (k : ByteArray) (j : Nat) (hj : j < p.length), j < pos p k → Op.bytesLess p[j].key.toList k.toList = true
  | [], _, j, hj, _ => by cases hj
  | x :: r, k, j, hj, h => by
    unfold pos at h
    split at h
    · rename_i hx
      cases j with
      | zero => exact hx
      | succ j => exact pos_lo r k j (by simpa using hj) (by omega)
    · omega
theorem pos_hi : ∀ (p : List Dep) (k : ByteArray), Srt p → ∀ (j : Nat) (hj : j < p.length), pos p k ≤ j → Op.bytesLess p[j].key.toList k.toList = false
  | [], _, _, j, hj, _ => by cases hj
  | x :: r, k, hs, j, hj, h => by
    have hc := List.pairwise_cons.1 hs
    unfold pos at h
    split at h
    · cases j with
      | zero => omega
      | succ j => exact pos_hi r k hc.2 j (by simpa using hj) (by omega)
    · rename_i hx
      have hx : Op.bytesLess x.key.toList k.toList = false := by simpa using hx
      cases j with
      | zero => exact hx
      | succ j =>
        cases h2 : Op.bytesLess (x :: r)[j + 1].key.toList k.toList with
        | false => rfl
        | true =>
          have h3 := hc.1 _ (List.getElem_mem (by simpa using hj : j < r.length))
          have := K.bl_trans _ _ _ h3 h2
          rw [hx] at this; cases this
def hasK (p : List Dep) (k : ByteArray) : Bool := p.any fun x => x.key.toList == k.toList
theorem pos_has {p : List Dep} {k : ByteArray} (hs : Srt p) : (decide (pos p k < p.length) && decide (cmpS (p.getD (pos p k) default).key k = 0)) = hasK p k := by
  unfold hasK
  cases h : p.any fun x => x.key.toList == k.toList with
  | true =>
    obtain ⟨x, hx, he⟩ := List.any_eq_true.1 h
    obtain ⟨j, hj, rfl⟩ := List.getElem_of_mem hx
    have he : p[j].key.toList = k.toList := by simpa using he
    have h1 : pos p k = j := by
      rcases Nat.lt_trichotomy (pos p k) j with h2 | h2 | h2
      · have h3 := pos_hi p k hs (pos p k) (by omega) (Nat.le_refl _)
        have h4 := List.pairwise_iff_getElem.1 hs (pos p k) j (by omega) hj h2
        rw [he] at h4; rw [h4] at h3; cases h3
      · exact h2
      · have h3 := pos_lo p k j hj h2
        rw [he, K.bl_irrefl] at h3; cases h3
    rw [h1]
    simp [hj, cmp_eq.2 he]
  | false =>
    by_cases h1 : pos p k < p.length
    · have h2 : ¬ cmpS (p.getD (pos p k) default).key k = 0 := fun e => by
        have e := cmp_eq.1 e
        rw [List.any_eq_false] at h
        exact h p[pos p k] (List.getElem_mem h1) (by simpa [h1] using e)
      simp only [h2, decide_false, Bool.and_false]
    · simp [h1]
theorem byte_inj {a b : ByteArray} (h : a.toList = b.toList) : a = b := by
  rw [ByteArray.toList_eq, ByteArray.toList_eq] at h
  exact ByteArray.ext (Array.toList_inj.1 h)
theorem pos_at {p : List Dep} {k : ByteArray} (hs : Srt p) (h : hasK p k = true) : ∃ hj : pos p k < p.length, p[pos p k].key = k := by
  rw [← pos_has hs] at h
  simp only [Bool.and_eq_true, decide_eq_true_eq] at h
  refine ⟨h.1, ?_⟩
  have := cmp_eq.1 h.2
  simp only [List.getD_eq_getElem?_getD, h.1, List.getElem?_eq_getElem, Option.getD_some] at this
  exact byte_inj this
/-- A key's stamp. -/
def get (p : List Dep) (k : ByteArray) : Int × Int := match p.find? fun x => x.key.toList == k.toList with
  | some x => (x.n, x.s)
  | none => (0, 0)
theorem get_no {p : List Dep} {k : ByteArray} (h : hasK p k = false) : get p k = (0, 0) := by
  unfold get
  have : p.find? (fun x => x.key.toList == k.toList) = none := by
    rw [List.find?_eq_none]
    intro x hx
    have := List.any_eq_false.1 h x hx
    simpa using this
  rw [this]
theorem get_first : ∀ {p : List Dep} {k : ByteArray} {j : Nat} (hj : j < p.length), p[j].key.toList = k.toList → (∀ (i : Nat) (hi : i < p.length), i < j → ¬ p[i].key.toList = k.toList) → get p k = (p[j].n, p[j].s)
  | [], _, j, hj, _, _ => by cases hj
  | x :: r, k, 0, _, h, _ => by
    unfold get
    rw [List.find?_cons_of_pos (by simpa using h)]; rfl
  | x :: r, k, j + 1, hj, h, hn => by
    have h0 := hn 0 (by simp) (by omega)
    have ih := get_first (p := r) (k := k) (j := j) (by simpa using hj) (by simpa using h) (fun i hi hij => by have := hn (i + 1) (by simpa using hi) (by omega); rwa [List.getElem_cons_succ] at this)
    unfold get at *
    rw [List.find?_cons_of_neg (by simpa using h0), ih]; rfl
theorem get_pos {p : List Dep} {k : ByteArray} (hs : Srt p) (h : hasK p k = true) {x : Dep} (hx : p.getD (pos p k) default = x) : get p k = (x.n, x.s) := by
  obtain ⟨hj, he⟩ := pos_at hs h
  have : p[pos p k] = x := by rw [← hx]; simp [hj]
  rw [← this]
  refine get_first hj (by rw [he]) fun i hi hij e => ?_
  have := pos_lo p k i hi hij
  rw [e, K.bl_irrefl] at this; cases this
theorem addF_true : ∀ (r : List Dep) (d : Dep), (∀ x ∈ r, eqB x d = false) → addF r d true = r
  | [], d, _ => by simp [addF]
  | x :: r, d, h => by
    rw [addF, if_neg (by simp [h x (by simp)]), if_pos rfl, addF_true r d fun y hy => h y (by simp [hy])]
theorem eq_toList {x d : Dep} : eqB x d = true ↔ x.key.toList = d.key.toList := by unfold eqB; simp
theorem add_no {p : List Dep} {d : Dep} (h : okB d = false) : add p d = p := by unfold add; rw [h]; rfl
theorem less_irrefl (n s : Int) : lessB n s n s = false := by unfold lessB; simp
theorem add_good {p : List Dep} (hp : Good p) (d : Dep) : Good (add p d) := by
  cases hd : okB d with
  | false => rw [add_no hd]; exact hp
  | true =>
    refine ⟨?_, fun x hx => ?_⟩
    · have key : ∀ (p : List Dep), Srt p → (∀ x : Dep, (∀ y ∈ p, Op.bytesLess x.key.toList y.key.toList = true) → Op.bytesLess x.key.toList d.key.toList = true → ∀ y ∈ addF p d false, Op.bytesLess x.key.toList y.key.toList = true) ∧ Srt (addF p d false) := by
        intro p
        induction p with
        | nil => intro _; exact ⟨fun x _ h y hy => by simp [addF] at hy; subst hy; exact h, by simp [addF, Srt]⟩
        | cons z r ih =>
          intro hs
          have hc := List.pairwise_cons.1 hs
          have hmem : ∀ (q : List Dep) (put : Bool) (y : Dep), y ∈ addF q d put → y ∈ q ∨ y = d := fun q put y => addF_mem q d put y
          refine ⟨fun x h1 h2 y hy => ?_, ?_⟩
          · rcases hmem _ _ _ hy with h | rfl
            · exact h1 y h
            · exact h2
          · rw [addF]
            split
            · rename_i he
              have he' := eq_toList.1 he
              have hr : addF r d true = r := addF_true r d fun y hy => by
                cases h : eqB y d with
                | false => rfl
                | true =>
                  have := hc.1 y hy
                  rw [eq_toList.1 h, he', K.bl_irrefl] at this; cases this
              rw [hr]
              refine List.pairwise_cons.2 ⟨fun y hy => ?_, hc.2⟩
              have h3 := hc.1 y hy
              split
              · rw [← he']; exact h3
              · exact h3
            · rename_i he
              have hne : ¬ z.key.toList = d.key.toList := fun e => he (eq_toList.2 e)
              rw [if_neg (by simp)]
              split
              · rename_i hl
                exact List.pairwise_cons.2 ⟨(ih hc.2).1 z hc.1 hl, (ih hc.2).2⟩
              · rename_i hl
                have hl' : Op.bytesLess z.key.toList d.key.toList = false := by unfold ltB at hl; simpa using hl
                have hlt : Op.bytesLess d.key.toList z.key.toList = true := by
                  cases h : Op.bytesLess d.key.toList z.key.toList with
                  | true => rfl
                  | false => exact absurd (K.bl_tri _ _ hl' h) hne
                have hno : ∀ y ∈ r, eqB y d = false := fun y hy => by
                  cases h : eqB y d with
                  | false => rfl
                  | true =>
                    have := K.bl_trans _ _ _ hlt (hc.1 y hy)
                    rw [eq_toList.1 h, K.bl_irrefl] at this; cases this
                rw [addF_true r d hno]
                refine List.pairwise_cons.2 ⟨fun y hy => ?_, hs⟩
                rcases List.mem_cons.1 hy with rfl | hy
                · exact hlt
                · exact K.bl_trans _ _ _ hlt (hc.1 y hy)
      have := (key p hp.srt).2
      unfold add
      rw [if_pos hd]
      exact this
    · rcases add_mem p d x hx with h | rfl
      · exact hp.ok x h
      · exact hd
theorem less_eq (a b c d : Int) : (!(a == c && b == d) && (decide (a < c) || decide (a = c) && decide (b ≤ d))) = lessB a b c d := by
  unfold lessB
  by_cases h : a = c <;> by_cases h2 : b = d <;> simp [h, h2] <;> first | omega | (rw [Bool.eq_iff_iff]; simp; omega)
theorem good_nil : Good [] := ⟨.nil, fun x hx => by cases hx⟩
theorem ok_stamp {d : Dep} (h : okB d = true) : 1 ≤ d.n ∧ d.n ≤ 1099511627776 ∧ 0 ≤ d.s ∧ d.s < 6 := by
  unfold okB V.stampB at h
  simp only [Bool.and_eq_true, decide_eq_true_eq] at h
  obtain ⟨_, h⟩ := h
  refine ⟨?_, ?_, ?_, ?_⟩ <;> omega
end D
theorem check_a (s : ByteArray) : ACall Tryz.prog 76 [tv s] (bv (K.checkB s)) := A.ofv (fun _ _ => by kernel_rfl) trivial fun M w vs ha => by
  obtain ⟨rfl, h⟩ := A.all1 ha
  exact check_any s h w
set_option maxRecDepth 100000 in
theorem stcheck_a (n s : Int) : ACall Tryz.prog 77 [.row [iv n, iv s]] (bv (V.stampB n s)) := by
  refine ACall_enter (fun _ _ => by kernel_rfl) Tryz.func77 rfl Tryz.ntmps77 Tryz.results77 (Nat.le_of_ble_eq_true rfl) (fun hok M0 w0 hnl => ?_)
  refine Aw_seq (Aw_region ?_)
  refine Al_p (Pu_boxN rfl rfl) ?_
  refine Al_p Pu_mvr ?_
  refine Al_nil (Aw_seq (Aw_region ?_))
  refine Al_p (Pu_field 0 rfl Tryz.underlying31 rfl rfl Tryz.sizeOf3 rfl) ?_
  refine Al_p (Pu_load1 rfl Tryz.isAgg3 rfl rfl) ?_
  refine Al_p (Pu_cmp rfl rfl rfl rfl) ?_
  refine Al_p Pu_mvl ?_
  refine Al_st (St_gd [] rfl rfl rfl rfl trivial (fun hg7 => Pu_field 0 rfl Tryz.underlying31 rfl rfl Tryz.sizeOf3 rfl)) rfl (by decide) (by kernel_rfl) (by intro j b oj dj h1 h2 h3; cases h1; cases h2; cases h3; decide) ?_
  refine Al_st (St_gd [7] rfl rfl rfl rfl ⟨⟨_, rfl⟩, trivial⟩ (fun hg8 => Pu_load1 rfl Tryz.isAgg3 rfl rfl)) rfl (by decide) (by kernel_rfl) (by intro j b oj dj h1 h2 h3; cases h1; cases h2; cases h3; decide) ?_
  refine Al_st (St_gd [8] rfl rfl rfl rfl ⟨⟨_, rfl⟩, trivial⟩ (fun hg9 => Pu_cmp rfl rfl rfl rfl)) rfl (by decide) (by kernel_rfl) (by intro j b oj dj h1 h2 h3; cases h1; cases h2; cases h3; decide) ?_
  refine Al_p (Pu_and rfl rfl rfl rfl) ?_
  refine Al_p Pu_mvl ?_
  refine Al_st (St_gd [] rfl rfl rfl rfl trivial (fun hg12 => Pu_field 1 rfl Tryz.underlying31 rfl rfl Tryz.sizeOf3 rfl)) rfl (by decide) (by kernel_rfl) (by intro j b oj dj h1 h2 h3; cases h1; cases h2; cases h3; decide) ?_
  refine Al_st (St_gd [12] rfl rfl rfl rfl ⟨⟨_, rfl⟩, trivial⟩ (fun hg13 => Pu_load1 rfl Tryz.isAgg3 rfl rfl)) rfl (by decide) (by kernel_rfl) (by intro j b oj dj h1 h2 h3; cases h1; cases h2; cases h3; decide) ?_
  refine Al_st (St_gd [13] rfl rfl rfl rfl ⟨⟨_, rfl⟩, trivial⟩ (fun hg14 => Pu_cmp rfl rfl rfl rfl)) rfl (by decide) (by kernel_rfl) (by intro j b oj dj h1 h2 h3; cases h1; cases h2; cases h3; decide) ?_
  refine Al_p (Pu_and rfl rfl rfl rfl) ?_
  refine Al_p Pu_mvl ?_
  refine Al_st (St_gd [] rfl rfl rfl rfl trivial (fun hg17 => Pu_field 1 rfl Tryz.underlying31 rfl rfl Tryz.sizeOf3 rfl)) rfl (by decide) (by kernel_rfl) (by intro j b oj dj h1 h2 h3; cases h1; cases h2; cases h3; decide) ?_
  refine Al_st (St_gd [17] rfl rfl rfl rfl ⟨⟨_, rfl⟩, trivial⟩ (fun hg18 => Pu_load1 rfl Tryz.isAgg3 rfl rfl)) rfl (by decide) (by kernel_rfl) (by intro j b oj dj h1 h2 h3; cases h1; cases h2; cases h3; decide) ?_
  refine Al_st (St_gd [18] rfl rfl rfl rfl ⟨⟨_, rfl⟩, trivial⟩ (fun hg19 => Pu_cmp rfl rfl rfl rfl)) rfl (by decide) (by kernel_rfl) (by intro j b oj dj h1 h2 h3; cases h1; cases h2; cases h3; decide) ?_
  refine Al_p (Pu_and rfl rfl rfl rfl) ?_
  refine Al_p Pu_mvr ?_
  refine Al_nil ?_
  refine Aw_ret ?_
  exact Sub.bool (by unfold V.stampB; simp [Bool.and_assoc]) -- ret 0
set_option maxRecDepth 100000 in
theorem less_a (a b c d : Int) : ACall Tryz.prog 83 [.row [iv a, iv b], .row [iv c, iv d]] (bv (D.lessB a b c d)) := by
  refine ACall_enter (fun _ _ => by kernel_rfl) Tryz.func83 rfl Tryz.ntmps83 Tryz.results83 (Nat.le_of_ble_eq_true rfl) (fun hok M0 w0 hnl => ?_)
  refine Aw_seq (Aw_region ?_)
  refine Al_p (Pu_boxN rfl rfl) ?_
  refine Al_p (Pu_boxN rfl rfl) ?_
  refine Al_p Pu_mvr ?_
  refine Al_nil (Aw_seq (Aw_region ?_))
  refine Al_p (Pu_loadN rfl Tryz.isAgg31 Tryz.sizeOf31 rfl (Nat.le_of_ble_eq_true rfl)) ?_
  refine Al_p (Pu_loadN rfl Tryz.isAgg31 Tryz.sizeOf31 rfl (Nat.le_of_ble_eq_true rfl)) ?_
  refine Al_p (Pu_eqrow [.int .i64 _, .int .i64 _] [.int .i64 _, .int .i64 _] (fun w => nev31 _ _ _ _ _ _ w) rfl rfl rfl) ?_
  refine Al_p Pu_mvl ?_
  refine Al_st (St_gd [] rfl rfl rfl rfl trivial (fun hg9 => Pu_field 0 rfl Tryz.underlying31 rfl rfl Tryz.sizeOf3 rfl)) rfl (by decide) (by kernel_rfl) (by intro j b oj dj h1 h2 h3; cases h1; cases h2; cases h3; decide) ?_
  refine Al_st (St_gd [9] rfl rfl rfl rfl ⟨⟨_, rfl⟩, trivial⟩ (fun hg10 => Pu_load1 rfl Tryz.isAgg3 rfl rfl)) rfl (by decide) (by kernel_rfl) (by intro j b oj dj h1 h2 h3; cases h1; cases h2; cases h3; decide) ?_
  refine Al_st (St_gd [] rfl rfl rfl rfl trivial (fun hg11 => Pu_field 0 rfl Tryz.underlying31 rfl rfl Tryz.sizeOf3 rfl)) rfl (by decide) (by kernel_rfl) (by intro j b oj dj h1 h2 h3; cases h1; cases h2; cases h3; decide) ?_
  refine Al_st (St_gd [11] rfl rfl rfl rfl ⟨⟨_, rfl⟩, trivial⟩ (fun hg12 => Pu_load1 rfl Tryz.isAgg3 rfl rfl)) rfl (by decide) (by kernel_rfl) (by intro j b oj dj h1 h2 h3; cases h1; cases h2; cases h3; decide) ?_
  refine Al_st (St_gd [10, 12] rfl rfl rfl rfl ⟨⟨_, rfl⟩, ⟨_, rfl⟩, trivial⟩ (fun hg13 => Pu_cmp rfl rfl rfl rfl)) rfl (by decide) (by kernel_rfl) (by intro j b oj dj h1 h2 h3; cases h1; cases h2; cases h3; decide) ?_
  refine Al_st (St_gd [13] rfl rfl rfl rfl ⟨⟨_, rfl⟩, trivial⟩ (fun hg14 => by exact Pu_move (.inl rfl) (by conv => lhs; whnf))) rfl (by decide) (by kernel_rfl) (by intro j b oj dj h1 h2 h3; cases h1; cases h2; cases h3; decide) ?_
  refine Al_st (St_gd2 [] rfl rfl rfl rfl trivial (fun hp15 hg15 => Pu_field 0 rfl Tryz.underlying31 rfl rfl Tryz.sizeOf3 rfl)) rfl (by decide) (by kernel_rfl) (by intro j b oj dj h1 h2 h3; cases h1; cases h2; cases h3; decide) ?_
  refine Al_st (St_gd2 [15] rfl rfl rfl rfl ⟨⟨_, rfl⟩, trivial⟩ (fun hp16 hg16 => Pu_load1 rfl Tryz.isAgg3 rfl rfl)) rfl (by decide) (by kernel_rfl) (by intro j b oj dj h1 h2 h3; cases h1; cases h2; cases h3; decide) ?_
  refine Al_st (St_gd2 [] rfl rfl rfl rfl trivial (fun hp17 hg17 => Pu_field 0 rfl Tryz.underlying31 rfl rfl Tryz.sizeOf3 rfl)) rfl (by decide) (by kernel_rfl) (by intro j b oj dj h1 h2 h3; cases h1; cases h2; cases h3; decide) ?_
  refine Al_st (St_gd2 [17] rfl rfl rfl rfl ⟨⟨_, rfl⟩, trivial⟩ (fun hp18 hg18 => Pu_load1 rfl Tryz.isAgg3 rfl rfl)) rfl (by decide) (by kernel_rfl) (by intro j b oj dj h1 h2 h3; cases h1; cases h2; cases h3; decide) ?_
  refine Al_st (St_gd2 [16, 18] rfl rfl rfl rfl ⟨⟨_, rfl⟩, ⟨_, rfl⟩, trivial⟩ (fun hp19 hg19 => Pu_cmp rfl rfl rfl rfl)) rfl (by decide) (by kernel_rfl) (by intro j b oj dj h1 h2 h3; cases h1; cases h2; cases h3; decide) ?_
  refine Al_st (St_gd2 [19] rfl rfl rfl rfl ⟨⟨_, rfl⟩, trivial⟩ (fun hp20 hg20 => by exact Pu_move (.inl rfl) (by conv => lhs; whnf))) rfl (by decide) (by kernel_rfl) (by intro j b oj dj h1 h2 h3; cases h1; cases h2; cases h3; decide) ?_
  refine Al_st (St_gd2 [] rfl rfl rfl rfl trivial (fun hp21 hg21 => Pu_field 1 rfl Tryz.underlying31 rfl rfl Tryz.sizeOf3 rfl)) rfl (by decide) (by kernel_rfl) (by intro j b oj dj h1 h2 h3; cases h1; cases h2; cases h3; decide) ?_
  refine Al_st (St_gd2 [21] rfl rfl rfl rfl ⟨⟨_, rfl⟩, trivial⟩ (fun hp22 hg22 => Pu_load1 rfl Tryz.isAgg3 rfl rfl)) rfl (by decide) (by kernel_rfl) (by intro j b oj dj h1 h2 h3; cases h1; cases h2; cases h3; decide) ?_
  refine Al_st (St_gd2 [] rfl rfl rfl rfl trivial (fun hp23 hg23 => Pu_field 1 rfl Tryz.underlying31 rfl rfl Tryz.sizeOf3 rfl)) rfl (by decide) (by kernel_rfl) (by intro j b oj dj h1 h2 h3; cases h1; cases h2; cases h3; decide) ?_
  refine Al_st (St_gd2 [23] rfl rfl rfl rfl ⟨⟨_, rfl⟩, trivial⟩ (fun hp24 hg24 => Pu_load1 rfl Tryz.isAgg3 rfl rfl)) rfl (by decide) (by kernel_rfl) (by intro j b oj dj h1 h2 h3; cases h1; cases h2; cases h3; decide) ?_
  refine Al_st (St_gd2 [22, 24] rfl rfl rfl rfl ⟨⟨_, rfl⟩, ⟨_, rfl⟩, trivial⟩ (fun hp25 hg25 => Pu_cmp rfl rfl rfl rfl)) rfl (by decide) (by kernel_rfl) (by intro j b oj dj h1 h2 h3; cases h1; cases h2; cases h3; decide) ?_
  refine Al_st (St_gd2 [20] rfl rfl rfl rfl ⟨⟨_, rfl⟩, trivial⟩ (fun hp26 hg26 => Pu_andG rfl rfl (fun h => ⟨⟨hp26, hg26⟩, h⟩) rfl rfl)) rfl (by decide) (by kernel_rfl) (by intro j b oj dj h1 h2 h3; cases h1; cases h2; cases h3; decide) ?_
  refine Al_st (St_gd [14] rfl rfl rfl rfl ⟨⟨_, rfl⟩, trivial⟩ (fun hg27 => Pu_orG rfl rfl rfl (fun h => ⟨hg27, h⟩) rfl)) rfl (by decide) (by kernel_rfl) (by intro j b oj dj h1 h2 h3; cases h1; cases h2; cases h3; decide) ?_
  refine Al_p (Pu_and rfl rfl rfl rfl) ?_
  refine Al_p Pu_mvr ?_
  refine Al_nil ?_
  refine Aw_ret ?_
  exact Sub.bool (D.less_eq a b c d) -- ret 0
theorem isnan_a (s : ByteArray) : ACall Tryz.prog 167 [tv s] (bv false) := by
  refine ACall_enter (fun _ _ => by kernel_rfl) Tryz.func167 rfl Tryz.ntmps167 Tryz.results167 (Nat.le_of_ble_eq_true rfl) (fun hok M0 w0 hnl => ?_)
  refine Aw_seq (Aw_region ?_)
  refine Al_p Pu_mvr ?_
  refine Al_nil (Aw_seq (Aw_region ?_))
  refine Al_p Pu_mvl ?_
  refine Al_p Pu_mvl ?_
  refine Al_p (Pu_str rfl rfl rfl rfl) ?_
  refine Al_p Pu_mvr ?_
  refine Al_nil ?_
  refine Aw_ret ?_
  exact Sub.bool (by simp) -- ret 0
set_option maxRecDepth 100000 in
theorem cmps_a (s t : ByteArray) : ACall Tryz.prog 159 [tv s, tv t] (iv (D.cmpS s t)) := by
  refine ACall_enter (fun _ _ => by kernel_rfl) Tryz.func159 rfl Tryz.ntmps159 Tryz.results159 (Nat.le_of_ble_eq_true rfl) (fun hok M0 w0 hnl => ?_)
  refine Aw_seq (Aw_region ?_)
  refine Al_p Pu_mvr ?_
  refine Al_nil (Aw_seq (Aw_region ?_))
  refine Al_p Pu_mvl ?_
  refine Al_p (Pu_call (isnan_a s) rfl ⟨Sub.rfl, trivial⟩) ?_
  refine Al_p Pu_mvr ?_
  refine Al_nil (Aw_seq (Aw_region ?_))
  refine Al_p Pu_mvl ?_
  refine Al_p (Pu_call (isnan_a t) rfl ⟨Sub.rfl, trivial⟩) ?_
  refine Al_p Pu_mvr ?_
  refine Al_nil (Aw_seq (Aw_seq (Aw_region ?_)))
  refine Al_p Pu_mvl ?_
  refine Al_nil ?_
  refine Aw_condF rfl (rfl) ?_
  refine Aw_skip (Aw_seq (Aw_seq (Aw_region ?_)))
  refine Al_p Pu_mvl ?_
  refine Al_nil ?_
  refine Aw_condF rfl (rfl) ?_
  refine Aw_skip (Aw_seq (Aw_seq (Aw_region ?_)))
  refine Al_p Pu_mvl ?_
  refine Al_p Pu_mvl ?_
  refine Al_p (Pu_str rfl rfl rfl rfl) ?_
  refine Al_nil ?_
  refine Aw_cond rfl (fun h16 => ?_) (fun h16 => ?_)
  · (try simp only [decide_eq_true_eq, decide_eq_false_iff_not, Bool.and_eq_true, Bool.or_eq_true, Bool.and_eq_false_iff, Bool.or_eq_false_iff, Bool.not_eq_true', Bool.not_eq_false', beq_iff_eq, Bool.not_eq_eq_eq_not, Bool.not_true, Bool.not_false, List.length_map, Bool.and_true, Bool.and_false, Bool.false_and, Bool.true_and, Bool.or_false, Bool.false_or] at h16)
    refine Aw_seq (Aw_region ?_)
    refine Al_p Pu_mvr ?_
    refine Al_nil ?_
    refine Aw_ret ?_
    exact Sub.num (by unfold D.cmpS; simp_all) -- ret 0
  · (try simp only [decide_eq_true_eq, decide_eq_false_iff_not, Bool.and_eq_true, Bool.or_eq_true, Bool.and_eq_false_iff, Bool.or_eq_false_iff, Bool.not_eq_true', Bool.not_eq_false', beq_iff_eq, Bool.not_eq_eq_eq_not, Bool.not_true, Bool.not_false, List.length_map, Bool.and_true, Bool.and_false, Bool.false_and, Bool.true_and, Bool.or_false, Bool.false_or] at h16)
    refine Aw_skip (Aw_seq (Aw_seq (Aw_region ?_)))
    refine Al_p Pu_mvl ?_
    refine Al_p Pu_mvl ?_
    refine Al_p (Pu_str rfl rfl rfl rfl) ?_
    refine Al_nil ?_
    refine Aw_cond rfl (fun h19 => ?_) (fun h19 => ?_)
    · (try simp only [decide_eq_true_eq, decide_eq_false_iff_not, Bool.and_eq_true, Bool.or_eq_true, Bool.and_eq_false_iff, Bool.or_eq_false_iff, Bool.not_eq_true', Bool.not_eq_false', beq_iff_eq, Bool.not_eq_eq_eq_not, Bool.not_true, Bool.not_false, List.length_map, Bool.and_true, Bool.and_false, Bool.false_and, Bool.true_and, Bool.or_false, Bool.false_or] at h19)
      have hlt : Op.bytesLess t.toList s.toList = true := by
        cases h : Op.bytesLess t.toList s.toList with
        | true => rfl
        | false => have := K.bl_tri _ _ (by simpa using h16) h; simp_all
      refine Aw_seq (Aw_region ?_)
      refine Al_p Pu_mvr ?_
      refine Al_nil ?_
      refine Aw_ret ?_
      exact Sub.num (by unfold D.cmpS; simp_all) -- ret 1
    · (try simp only [decide_eq_true_eq, decide_eq_false_iff_not, Bool.and_eq_true, Bool.or_eq_true, Bool.and_eq_false_iff, Bool.or_eq_false_iff, Bool.not_eq_true', Bool.not_eq_false', beq_iff_eq, Bool.not_eq_eq_eq_not, Bool.not_true, Bool.not_false, List.length_map, Bool.and_true, Bool.and_false, Bool.false_and, Bool.true_and, Bool.or_false, Bool.false_or] at h19)
      refine Aw_skip (Aw_seq (Aw_region ?_))
      refine Al_p Pu_mvr ?_
      refine Al_nil ?_
      refine Aw_ret ?_
      exact Sub.num (by unfold D.cmpS; simp_all) -- ret 2
set_option maxRecDepth 100000 in
theorem pfindc_a (d : Dep) (k : ByteArray) : ACall Tryz.prog 158 [.row d.row, tv k] (iv (D.cmpS d.key k)) := by
  refine ACall_enter (fun _ _ => by kernel_rfl) Tryz.func158 rfl Tryz.ntmps158 Tryz.results158 (Nat.le_of_ble_eq_true rfl) (fun hok M0 w0 hnl => ?_)
  refine Aw_seq (Aw_region ?_)
  refine Al_p (Pu_boxN rfl rfl) ?_
  refine Al_p Pu_mvr ?_
  refine Al_nil (Aw_seq (Aw_region ?_))
  refine Al_p (Pu_field 0 rfl Tryz.underlying59 rfl rfl Tryz.sizeOf9 rfl) ?_
  refine Al_p (Pu_load1 rfl Tryz.isAgg9 rfl rfl) ?_
  refine Al_p Pu_mvl ?_
  refine Al_p (Pu_call (cmps_a d.key k) rfl ⟨Sub.rfl, Sub.rfl, trivial⟩) ?_
  refine Al_p Pu_mvr ?_
  refine Al_nil ?_
  refine Aw_ret ?_
  exact Sub.rfl -- ret 0
set_option maxRecDepth 100000 in
theorem pfind_a (p : List Dep) (k : ByteArray) (hs : D.Srt p) (hl : p.length ≤ 1000000) : ACall Tryz.prog 140 [.sl 3 (p.map Dep.row), tv k] (.tup [iv (D.pos p k), bv (D.hasK p k)]) := by
  refine ACall_enter2 (fun _ _ => by kernel_rfl) Tryz.func140 rfl Tryz.ntmps140 Tryz.results140 (Nat.le_of_ble_eq_true rfl) (fun hok M0 w0 hnl => ?_)
  refine Aw_seq (Aw_region ?_)
  refine Al_p Pu_mvr ?_
  refine Al_p Pu_mvr ?_
  refine Al_nil (Aw_seq (Aw_region ?_))
  refine Al_p Pu_mvl ?_
  refine Al_p Pu_mvl ?_
  refine Al_p (Pu_call (bsearchD_a p (tv k) _ (fun x => D.cmpS x.key k) (D.pos p k) (fun x => pfindc_a x k) hl (D.pos_le p k) (fun j hj h => D.cmp_lt.2 (D.pos_lo p k j hj h)) (fun j hj h => D.cmp_ge (D.pos_hi p k hs j hj h))) rfl ⟨Sub.rfl, Sub.rfl, Sub.rfl, trivial⟩) ?_
  refine Al_p (Pu_extract rfl rfl rfl) ?_
  refine Al_p (Pu_extract rfl rfl rfl) ?_
  refine Al_p Pu_mvr ?_
  refine Al_p Pu_mvr ?_
  refine Al_nil ?_
  refine Aw_ret ?_
  exact ⟨Sub.rfl, Sub.bool (D.pos_has hs)⟩ -- ret 0
set_option maxRecDepth 100000 in
theorem pget_a (p : List Dep) (k : ByteArray) (hs : D.Srt p) (hl : p.length ≤ 1000000) : ACall Tryz.prog 126 [.sl 3 (p.map Dep.row), tv k] (.row [iv (D.get p k).1, iv (D.get p k).2]) := by
  refine ACall_enterG (fun _ _ => by kernel_rfl) Tryz.func126 rfl Tryz.ntmps126 (Reads.cN Tryz.results126 Tryz.isAgg31 Tryz.sizeOf31) (Nat.le_of_ble_eq_true rfl) (fun hok M0 w0 hnl => ?_)
  refine Aw_seq (Aw_region ?_)
  refine Al_alloc rfl rfl rfl (by decide) Tryz.zeroValue31 rfl (by kernel_rfl) (fun g4 => ?_)
  refine Al_nil (Aw_seq (Aw_region ?_))
  refine Al_p Pu_mvl ?_
  refine Al_p Pu_mvl ?_
  refine Al_p (Pu_call (pfind_a p k hs hl) rfl ⟨Sub.rfl, Sub.rfl, trivial⟩) ?_
  refine Al_p Pu_mvl ?_
  refine Al_p (Pu_extract rfl rfl rfl) ?_
  refine Al_p (Pu_extract rfl rfl rfl) ?_
  refine Al_p Pu_mvr ?_
  refine Al_p Pu_mvr ?_
  refine Al_nil (Aw_seq (Aw_seq (Aw_region ?_)))
  refine Al_p Pu_mvl ?_
  refine Al_p (Pu_not rfl rfl) ?_
  refine Al_nil ?_
  refine Aw_cond rfl (fun h14 => ?_) (fun h14 => ?_)
  · skip
    have hk : D.hasK p k = false := by simpa using h14
    refine Aw_seq (Aw_region ?_)
    refine Al_p (Pu_build (aa := []) rfl Tryz.underlying31 Tryz.zeroValue31 (places31 Tryz.underlying31) (by kernel_rfl) trivial rfl) ?_
    refine Al_storeN rfl rfl rfl (by kernel_rfl) Tryz.isAgg31 Tryz.sizeOf31 rfl rfl rfl rfl (Nat.le_of_ble_eq_true rfl) ?_
    refine Al_nil ?_
    refine Aw_ret ?_
    rw [D.get_no hk]; exact ⟨_, _, _, _, _, [_, _], rfl, rfl, rfl, rfl, rfl⟩ -- ret 0
  · skip
    have hk : D.hasK p k = true := by simpa using h14
    obtain ⟨hj, he⟩ := D.pos_at hs hk
    have hg : D.get p k = ((p.getD (D.pos p k) default).n, (p.getD (D.pos p k) default).s) := D.get_pos hs hk rfl
    refine Aw_skip (Aw_seq (Aw_region ?_))
    refine Al_p Pu_mvl ?_
    refine Al_p Pu_mvl ?_
    refine Al_p (Pu_index rfl Tryz.underlying32 Tryz.sizeOf59 rfl rfl (rfl) (mapgetD (d := default) hj)) ?_
    refine Al_p (Pu_field 1 rfl Tryz.underlying59 rfl rfl Tryz.sizeOf31 rfl) ?_
    refine Al_p (Pu_loadN rfl Tryz.isAgg31 Tryz.sizeOf31 rfl (Nat.le_of_ble_eq_true rfl)) ?_
    refine Al_storeN rfl rfl rfl (by kernel_rfl) Tryz.isAgg31 Tryz.sizeOf31 rfl rfl rfl rfl (Nat.le_of_ble_eq_true rfl) ?_
    refine Al_nil ?_
    refine Aw_ret ?_
    rw [hg]; exact ⟨_, _, _, _, _, [_, _], rfl, rfl, rfl, rfl, rfl⟩ -- ret 1
set_option maxRecDepth 100000 in
theorem pmay_a (d : Dep) : ACall Tryz.prog 101 [.row d.row] (bv (D.okB d)) := by
  refine ACall_enter (fun _ _ => by kernel_rfl) Tryz.func101 rfl Tryz.ntmps101 Tryz.results101 (Nat.le_of_ble_eq_true rfl) (fun hok M0 w0 hnl => ?_)
  refine Aw_seq (Aw_region ?_)
  refine Al_p (Pu_boxN rfl rfl) ?_
  refine Al_p Pu_mvr ?_
  refine Al_nil (Aw_seq (Aw_region ?_))
  refine Al_p (Pu_field 0 rfl Tryz.underlying59 rfl rfl Tryz.sizeOf9 rfl) ?_
  refine Al_p (Pu_load1 rfl Tryz.isAgg9 rfl rfl) ?_
  refine Al_p (Pu_call (check_a d.key) rfl ⟨Sub.rfl, trivial⟩) ?_
  refine Al_p Pu_mvl ?_
  refine Al_st (St_gd [] rfl rfl rfl rfl trivial (fun hg7 => Pu_field 1 rfl Tryz.underlying59 rfl rfl Tryz.sizeOf31 rfl)) rfl (by decide) (by kernel_rfl) (by intro j b oj dj h1 h2 h3; cases h1; cases h2; cases h3; decide) ?_
  refine Al_st (St_gd [7] rfl rfl rfl rfl ⟨⟨_, rfl⟩, trivial⟩ (fun hg8 => Pu_loadN rfl Tryz.isAgg31 Tryz.sizeOf31 rfl (Nat.le_of_ble_eq_true rfl))) rfl (by decide) (by kernel_rfl) (by intro j b oj dj h1 h2 h3; cases h1; cases h2; cases h3; decide) ?_
  refine Al_st (St_gd [8] rfl rfl rfl rfl ⟨⟨_, rfl⟩, trivial⟩ (fun hg9 => Pu_call (stcheck_a d.n d.s) rfl ⟨Sub.rfl, trivial⟩)) rfl (by decide) (by kernel_rfl) (by intro j b oj dj h1 h2 h3; cases h1; cases h2; cases h3; decide) ?_
  refine Al_p (Pu_and rfl rfl rfl rfl) ?_
  refine Al_p Pu_mvr ?_
  refine Al_nil ?_
  refine Aw_ret ?_
  exact Sub.rfl -- ret 0
def D.maxS (l : List (Int × Int)) : Int × Int := l.foldl (fun m s => if D.lessB m.1 m.2 s.1 s.2 then s else m) (0, 0)
theorem D.maxS_take (l : List (Int × Int)) {k : Nat} (hk : k < l.length) : D.maxS (l.take (k + 1)) = if D.lessB (D.maxS (l.take k)).1 (D.maxS (l.take k)).2 l[k].1 l[k].2 then l[k] else D.maxS (l.take k) := by
  rw [List.take_succ_eq_append_getElem hk]; unfold D.maxS; rw [List.foldl_append]; rfl
set_option maxRecDepth 100000 in
theorem smax_a (l : List (Int × Int)) : ACall Tryz.prog 48 [.sl 2 (l.map fun s => [iv s.1, iv s.2])] (.row [iv (D.maxS l).1, iv (D.maxS l).2]) := by
  refine ACall_enterG (fun _ _ => by kernel_rfl) Tryz.func48 rfl Tryz.ntmps48 (Reads.cN Tryz.results48 Tryz.isAgg31 Tryz.sizeOf31) (Nat.le_of_ble_eq_true rfl) (fun hok M0 w0 hnl => ?_)
  have hlen := (hok _ (List.mem_cons_self ..)).len
  rw [List.length_map] at hlen
  refine Aw_seq (Aw_region ?_)
  refine Al_alloc rfl rfl rfl (by decide) Tryz.zeroValue31 rfl (by kernel_rfl) (fun g2 => ?_)
  refine Al_nil (Aw_seq (Aw_region ?_))
  refine Al_alloc rfl rfl rfl (by decide) Tryz.zeroValue31 rfl (by kernel_rfl) (fun g3 => ?_)
  refine Al_nil (Aw_seq (Aw_seq (Aw_region ?_)))
  refine Al_p Pu_mvl ?_
  refine Al_p (Pu_len rfl Tryz.underlying101 rfl (by first | exact List.length_map .. | exact rfl)) ?_
  refine Al_p Pu_mvl ?_
  refine Al_nil (Aw_block ?_)
  refine Aw_loopk (ι := Nat) [2, 3, 6, 7] [2] (fun k => [(8, .d (iv k))]) (fun k => [(3, g3, .box 31 [.d (iv (D.maxS (l.take k)).1), .d (iv (D.maxS (l.take k)).2)])]) (fun k => k ≤ l.length) (fun k => l.length - k) (0) (Nat.zero_le _) ⟨Sub.rfl, trivial⟩ ⟨rfl, trivial⟩ ?_
  rintro k hk0
  refine Aw_seq (Aw_region ?_)
  refine Al_p (Pu_cmp rfl rfl rfl rfl) ?_
  refine Al_nil (Aw_seq ?_)
  refine Aw_cond rfl (fun h9 => ?_) (fun h9 => ?_)
  · (try simp only [decide_eq_true_eq, decide_eq_false_iff_not, Bool.and_eq_true, Bool.or_eq_true, Bool.and_eq_false_iff, Bool.or_eq_false_iff, Bool.not_eq_true', Bool.not_eq_false', beq_iff_eq, Bool.not_eq_eq_eq_not, Bool.not_true, Bool.not_false, List.length_map, Bool.and_true, Bool.and_false, Bool.false_and, Bool.true_and, Bool.or_false, Bool.false_or] at h9)
    have hk : k < l.length := by omega
    have hmt := D.maxS_take l hk
    refine Aw_skip ?_
    -- join 0: live [2, 3, 6, 7, 8], turned []
    refine Aw_seq (Aw_block (Aw_seq (Aw_region ?_)))
    refine Al_p (Pu_index rfl Tryz.underlying101 Tryz.sizeOf31 rfl rfl (rfl) (mapget hk)) ?_
    refine Al_p (Pu_loadN rfl Tryz.isAgg31 Tryz.sizeOf31 rfl (Nat.le_of_ble_eq_true rfl)) ?_
    refine Al_alloc rfl rfl rfl (by decide) Tryz.zeroValue31 rfl (by kernel_rfl) (fun g5 => ?_)
    refine Al_storeN rfl rfl rfl (by kernel_rfl) Tryz.isAgg31 Tryz.sizeOf31 rfl rfl rfl rfl (Nat.le_of_ble_eq_true rfl) ?_
    refine Al_nil (Aw_seq (Aw_region ?_))
    refine Al_p (Pu_loadbN (r := [_, _]) rfl Tryz.isAgg31 Tryz.sizeOf31 rfl rfl rfl rfl) ?_
    refine Al_p (Pu_loadbN (r := [_, _]) rfl Tryz.isAgg31 Tryz.sizeOf31 rfl rfl rfl rfl) ?_
    refine Al_p (Pu_call (less_a (D.maxS (l.take k)).1 (D.maxS (l.take k)).2 (l[k]'hk).1 (l[k]'hk).2) rfl ⟨Sub.rfl, Sub.rfl, trivial⟩) ?_
    refine Al_nil ?_
    refine Aw_cond rfl (fun h14 => ?_) (fun h14 => ?_)
    · skip
      rw [if_pos h14] at hmt
      refine Aw_region ?_
      refine Al_p (Pu_loadbN (r := [_, _]) rfl Tryz.isAgg31 Tryz.sizeOf31 rfl rfl rfl rfl) ?_
      refine Al_storeN rfl rfl rfl (by kernel_rfl) Tryz.isAgg31 Tryz.sizeOf31 rfl rfl rfl rfl (Nat.le_of_ble_eq_true rfl) ?_
      refine Al_nil (Aw_region ?_)
      refine Al_p (Pu_add rfl rfl rfl (fun h1 h2 => by simp only [A.inI, A.maxI] at *; omega)) ?_
      refine Al_p Pu_mvl ?_
      refine Al_nil ?_
      exact ⟨k + 1, by omega, by omega, Le.ov ⟨Sub.num (by omega), trivial⟩ ⟨Sub.rfl, Sub.rfl, Sub.rfl, Sub.rfl, trivial⟩ ⟨by rw [hmt]; rfl, trivial⟩ ⟨rfl, trivial⟩⟩ -- loop 0 next.0
    · skip
      rw [if_neg (by rw [h14]; decide)] at hmt
      refine Aw_skip (Aw_region ?_)
      refine Al_p (Pu_add rfl rfl rfl (fun h1 h2 => by simp only [A.inI, A.maxI] at *; omega)) ?_
      refine Al_p Pu_mvl ?_
      refine Al_nil ?_
      exact ⟨k + 1, by omega, by omega, Le.ov ⟨Sub.num (by omega), trivial⟩ ⟨Sub.rfl, Sub.rfl, Sub.rfl, Sub.rfl, trivial⟩ ⟨by rw [hmt]; rfl, trivial⟩ ⟨rfl, trivial⟩⟩ -- loop 0 next.1
  · (try simp only [decide_eq_true_eq, decide_eq_false_iff_not, Bool.and_eq_true, Bool.or_eq_true, Bool.and_eq_false_iff, Bool.or_eq_false_iff, Bool.not_eq_true', Bool.not_eq_false', beq_iff_eq, Bool.not_eq_eq_eq_not, Bool.not_true, Bool.not_false, List.length_map, Bool.and_true, Bool.and_false, Bool.false_and, Bool.true_and, Bool.or_false, Bool.false_or] at h9)
    obtain rfl : k = l.length := by omega
    rw [List.take_length]
    refine Aw_exit (Aw_seq (Aw_region ?_))
    refine Al_p (Pu_loadbN (r := [_, _]) rfl Tryz.isAgg31 Tryz.sizeOf31 rfl rfl rfl rfl) ?_
    refine Al_storeN rfl rfl rfl (by kernel_rfl) Tryz.isAgg31 Tryz.sizeOf31 rfl rfl rfl rfl (Nat.le_of_ble_eq_true rfl) ?_
    refine Al_nil ?_
    refine Aw_ret ?_
    exact ⟨_, _, _, _, _, [_, _], rfl, rfl, rfl, rfl, rfl⟩ -- ret 0
namespace D
end D
end Go.Proofs.YtmbaeloiepjakaaGreat
end

section
namespace Go.Proofs.YtmbaeloiepjakaaGreat
open Go.RowKit A
theorem byte_beq (a b : ByteArray) : (a == b) = decide (a = b) := by
  rw [beq_toListBytes, Bool.eq_iff_iff]
  simp only [beq_iff_eq, decide_eq_true_eq]
  exact ⟨fun h => by rw [← V.ba_data a, ← V.ba_data b, ← ByteArray.toList_eq, ← ByteArray.toList_eq, h], fun h => h ▸ rfl⟩
theorem dep_eqB (x d : Dep) : ((x.key.toList == d.key.toList) && ((x.n == d.n) && (x.s == d.s))) = decide (x = d) := by
  have hk : (x.key.toList == d.key.toList) = decide (x.key = d.key) := by rw [← beq_toListBytes]; exact byte_beq _ _
  rw [hk]
  cases x; cases d
  rw [Bool.eq_iff_iff]
  simp only [Bool.and_eq_true, beq_iff_eq, decide_eq_true_eq, Dep.mk.injEq]
theorem str_eqB (a b : ByteArray) : (a.toList == b.toList) = decide (a = b) := by rw [← beq_toListBytes]; exact byte_beq _ _
namespace L
theorem same_step {α : Type} {l m : List α} {k : Nat} (h : l.take k = m.take k) (hl : k < l.length) (hm : k < m.length) (e : l[k] = m[k]) : l.take (k + 1) = m.take (k + 1) := by
  rw [List.take_succ_eq_append_getElem hl, List.take_succ_eq_append_getElem hm, h, e]
theorem same_end {α : Type} {l m : List α} {k : Nat} (h : l.take k = m.take k) (hk : ¬ k < l.length) (e : l.length = m.length) : l = m := by
  rwa [List.take_of_length_le (by omega), List.take_of_length_le (by omega)] at h
theorem same_ne {α : Type} [DecidableEq α] {l m : List α} {k : Nat} (hl : k < l.length) (hm : k < m.length) (e : l[k] ≠ m[k]) : decide (l = m) = false := by
  rw [decide_eq_false_iff_not]; rintro rfl; exact e rfl
theorem same_len {α : Type} [DecidableEq α] {l m : List α} (e : l.length ≠ m.length) : decide (l = m) = false := by
  rw [decide_eq_false_iff_not]; rintro rfl; exact e rfl
end L
set_option maxRecDepth 100000 in
theorem dsame_a (l m : List Dep) : ACall Tryz.prog 26 [.sl 3 (l.map Dep.row), .sl 3 (m.map Dep.row)] (bv (decide (l = m))) := by
  refine ACall_enter (fun _ _ => by kernel_rfl) Tryz.func26 rfl Tryz.ntmps26 Tryz.results26 (Nat.le_of_ble_eq_true rfl) (fun hok M0 w0 hnl => ?_)
  have hlen := (hok _ (List.mem_cons_self ..)).len
  rw [List.length_map] at hlen
  refine Aw_seq (Aw_region ?_)
  refine Al_p Pu_mvr ?_
  refine Al_nil (Aw_seq (Aw_seq (Aw_region ?_)))
  refine Al_p Pu_mvl ?_
  refine Al_p (Pu_len rfl Tryz.underlying32 rfl (by first | exact List.length_map .. | exact rfl)) ?_
  refine Al_p Pu_mvl ?_
  refine Al_p (Pu_len rfl Tryz.underlying32 rfl (by first | exact List.length_map .. | exact rfl)) ?_
  refine Al_p (Pu_cmp rfl rfl rfl rfl) ?_
  refine Al_nil ?_
  refine Aw_cond rfl (fun h10 => ?_) (fun h10 => ?_)
  · (try simp only [decide_eq_true_eq, decide_eq_false_iff_not, Bool.and_eq_true, Bool.or_eq_true, Bool.and_eq_false_iff, Bool.or_eq_false_iff, Bool.not_eq_true', Bool.not_eq_false', beq_iff_eq, Bool.not_eq_eq_eq_not, Bool.not_true, Bool.not_false, List.length_map, Bool.and_true, Bool.and_false, Bool.false_and, Bool.true_and, Bool.or_false, Bool.false_or] at h10)
    refine Aw_seq (Aw_region ?_)
    refine Al_p Pu_mvr ?_
    refine Al_nil ?_
    refine Aw_ret ?_
    exact Sub.bool (by rw [L.same_len (by omega)]) -- ret 0
  · (try simp only [decide_eq_true_eq, decide_eq_false_iff_not, Bool.and_eq_true, Bool.or_eq_true, Bool.and_eq_false_iff, Bool.or_eq_false_iff, Bool.not_eq_true', Bool.not_eq_false', beq_iff_eq, Bool.not_eq_eq_eq_not, Bool.not_true, Bool.not_false, List.length_map, Bool.and_true, Bool.and_false, Bool.false_and, Bool.true_and, Bool.or_false, Bool.false_or] at h10)
    refine Aw_skip (Aw_seq (Aw_seq (Aw_region ?_)))
    refine Al_p Pu_mvr ?_
    refine Al_nil (Aw_block ?_)
    refine Aw_loopk (ι := Nat) [0, 1] [] (fun k => [(5, .d (iv k))]) (fun k => []) (fun k => k ≤ l.length ∧ l.take k = m.take k) (fun k => l.length - k) (0) (⟨Nat.zero_le _, rfl⟩) ⟨Sub.rfl, trivial⟩ trivial ?_
    rintro k ⟨hk0, he⟩
    refine Aw_seq (Aw_seq (Aw_region ?_))
    refine Al_p Pu_mvl ?_
    refine Al_p Pu_mvl ?_
    refine Al_p (Pu_len rfl Tryz.underlying32 rfl (by first | exact List.length_map .. | exact rfl)) ?_
    refine Al_p (Pu_cmp rfl rfl rfl rfl) ?_
    refine Al_nil ?_
    refine Aw_cond rfl (fun h14 => ?_) (fun h14 => ?_)
    · (try simp only [decide_eq_true_eq, decide_eq_false_iff_not, Bool.and_eq_true, Bool.or_eq_true, Bool.and_eq_false_iff, Bool.or_eq_false_iff, Bool.not_eq_true', Bool.not_eq_false', beq_iff_eq, Bool.not_eq_eq_eq_not, Bool.not_true, Bool.not_false, List.length_map, Bool.and_true, Bool.and_false, Bool.false_and, Bool.true_and, Bool.or_false, Bool.false_or] at h14)
      have hkl : k < l.length := by omega
      have hkm : k < m.length := by omega
      refine Aw_skip (Aw_seq (Aw_block (Aw_seq ?_)))
      refine Aw_draw 9 (by kernel_rfl) (by kernel_rfl) ?_
      refine Dr_p Pu_mvl ?_
      refine Dr_p Pu_mvl ?_
      refine Dr_p (Pu_index rfl Tryz.underlying32 Tryz.sizeOf59 rfl rfl (rfl) (mapget hkl)) ?_
      refine Dr_p (Pu_loadN rfl Tryz.isAgg59 Tryz.sizeOf59 rfl (Nat.le_of_ble_eq_true rfl)) ?_
      refine Dr_p Pu_mvl ?_
      refine Dr_p Pu_mvl ?_
      refine Dr_p (Pu_index rfl Tryz.underlying32 Tryz.sizeOf59 rfl rfl (rfl) (mapget hkm)) ?_
      refine Dr_p (Pu_loadN rfl Tryz.isAgg59 Tryz.sizeOf59 rfl (Nat.le_of_ble_eq_true rfl)) ?_
      refine Dr_p (Pu_eqrow [.string _, .int .i64 _, .int .i64 _] [.string _, .int .i64 _, .int .i64 _] (fun w => nev59 _ _ _ _ _ _ _ _ w) rfl rfl rfl) ?_
      refine Dr_nil (Al_nil ?_)
      refine Aw_cond rfl (fun h25 => ?_) (fun h25 => ?_)
      · skip
        have hne : l[k] ≠ m[k] := of_decide_eq_false (by rw [← dep_eqB]; simpa only [Bool.not_eq_true'] using h25)
        refine Aw_seq (Aw_region ?_)
        refine Al_p Pu_mvr ?_
        refine Al_nil ?_
        refine Aw_ret ?_
        exact Sub.bool (by rw [L.same_ne hkl hkm hne]) -- ret 1
      · skip
        have heq : l[k] = m[k] := of_decide_eq_true (by rw [← dep_eqB]; simpa only [Bool.not_eq_false'] using h25)
        refine Aw_skip (Aw_region ?_)
        refine Al_p Pu_mvl ?_
        refine Al_p (Pu_add rfl rfl rfl (fun h1 h2 => by simp only [A.inI, A.maxI] at *; omega)) ?_
        refine Al_p Pu_mvr ?_
        refine Al_nil ?_
        exact ⟨k + 1, ⟨by omega, L.same_step he hkl hkm heq⟩, by omega, Le.ov ⟨Sub.num (by omega), trivial⟩ ⟨Sub.rfl, Sub.rfl, trivial⟩ trivial trivial⟩ -- loop 0 next.0
    · (try simp only [decide_eq_true_eq, decide_eq_false_iff_not, Bool.and_eq_true, Bool.or_eq_true, Bool.and_eq_false_iff, Bool.or_eq_false_iff, Bool.not_eq_true', Bool.not_eq_false', beq_iff_eq, Bool.not_eq_eq_eq_not, Bool.not_true, Bool.not_false, List.length_map, Bool.and_true, Bool.and_false, Bool.false_and, Bool.true_and, Bool.or_false, Bool.false_or] at h14)
      obtain rfl := L.same_end he (by omega) (by omega)
      refine Aw_exit (Aw_seq (Aw_region ?_))
      refine Al_p Pu_mvr ?_
      refine Al_nil ?_
      refine Aw_ret ?_
      exact Sub.bool (by simp) -- ret 2
set_option maxRecDepth 100000 in
theorem dequal_a (l m : List Dep) : ACall Tryz.prog 161 [.sl 3 (l.map Dep.row), .sl 3 (m.map Dep.row)] (bv (decide (l = m))) := by
  refine ACall_enter (fun _ _ => by kernel_rfl) Tryz.func161 rfl Tryz.ntmps161 Tryz.results161 (Nat.le_of_ble_eq_true rfl) (fun hok M0 w0 hnl => ?_)
  have hlen := (hok _ (List.mem_cons_self ..)).len
  rw [List.length_map] at hlen
  refine Aw_seq (Aw_region ?_)
  refine Al_p Pu_mvr ?_
  refine Al_nil (Aw_seq (Aw_seq (Aw_region ?_)))
  refine Al_p Pu_mvl ?_
  refine Al_p (Pu_len rfl Tryz.underlying32 rfl (by first | exact List.length_map .. | exact rfl)) ?_
  refine Al_p Pu_mvl ?_
  refine Al_p (Pu_len rfl Tryz.underlying32 rfl (by first | exact List.length_map .. | exact rfl)) ?_
  refine Al_p (Pu_cmp rfl rfl rfl rfl) ?_
  refine Al_nil ?_
  refine Aw_cond rfl (fun h10 => ?_) (fun h10 => ?_)
  · (try simp only [decide_eq_true_eq, decide_eq_false_iff_not, Bool.and_eq_true, Bool.or_eq_true, Bool.and_eq_false_iff, Bool.or_eq_false_iff, Bool.not_eq_true', Bool.not_eq_false', beq_iff_eq, Bool.not_eq_eq_eq_not, Bool.not_true, Bool.not_false, List.length_map, Bool.and_true, Bool.and_false, Bool.false_and, Bool.true_and, Bool.or_false, Bool.false_or] at h10)
    refine Aw_seq (Aw_region ?_)
    refine Al_p Pu_mvr ?_
    refine Al_nil ?_
    refine Aw_ret ?_
    exact Sub.bool (by rw [L.same_len (by omega)]) -- ret 0
  · (try simp only [decide_eq_true_eq, decide_eq_false_iff_not, Bool.and_eq_true, Bool.or_eq_true, Bool.and_eq_false_iff, Bool.or_eq_false_iff, Bool.not_eq_true', Bool.not_eq_false', beq_iff_eq, Bool.not_eq_eq_eq_not, Bool.not_true, Bool.not_false, List.length_map, Bool.and_true, Bool.and_false, Bool.false_and, Bool.true_and, Bool.or_false, Bool.false_or] at h10)
    refine Aw_skip (Aw_seq (Aw_seq (Aw_region ?_)))
    refine Al_p Pu_mvl ?_
    refine Al_p (Pu_len rfl Tryz.underlying32 rfl (by first | exact List.length_map .. | exact rfl)) ?_
    refine Al_p Pu_mvl ?_
    refine Al_nil (Aw_block ?_)
    refine Aw_loopk (ι := Nat) [0, 1, 12] [] (fun k => [(13, .d (iv k))]) (fun k => []) (fun k => k ≤ l.length ∧ l.take k = m.take k) (fun k => l.length - k) (0) (⟨Nat.zero_le _, rfl⟩) ⟨Sub.rfl, trivial⟩ trivial ?_
    rintro k ⟨hk0, he⟩
    refine Aw_seq (Aw_region ?_)
    refine Al_p (Pu_cmp rfl rfl rfl rfl) ?_
    refine Al_nil (Aw_seq ?_)
    refine Aw_cond rfl (fun h14 => ?_) (fun h14 => ?_)
    · (try simp only [decide_eq_true_eq, decide_eq_false_iff_not, Bool.and_eq_true, Bool.or_eq_true, Bool.and_eq_false_iff, Bool.or_eq_false_iff, Bool.not_eq_true', Bool.not_eq_false', beq_iff_eq, Bool.not_eq_eq_eq_not, Bool.not_true, Bool.not_false, List.length_map, Bool.and_true, Bool.and_false, Bool.false_and, Bool.true_and, Bool.or_false, Bool.false_or] at h14)
      have hkl : k < l.length := by omega
      have hkm : k < m.length := by omega
      refine Aw_skip (Aw_seq (Aw_block (Aw_seq (Aw_region ?_))))
      refine Al_p Pu_mvl ?_
      refine Al_p Pu_mvr ?_
      refine Al_nil (Aw_seq ?_)
      refine Aw_draw 9 (by kernel_rfl) (by kernel_rfl) ?_
      refine Dr_p Pu_mvl ?_
      refine Dr_p Pu_mvl ?_
      refine Dr_p (Pu_index rfl Tryz.underlying32 Tryz.sizeOf59 rfl rfl (rfl) (mapget hkl)) ?_
      refine Dr_p (Pu_loadN rfl Tryz.isAgg59 Tryz.sizeOf59 rfl (Nat.le_of_ble_eq_true rfl)) ?_
      refine Dr_p Pu_mvl ?_
      refine Dr_p Pu_mvl ?_
      refine Dr_p (Pu_index rfl Tryz.underlying32 Tryz.sizeOf59 rfl rfl (rfl) (mapget hkm)) ?_
      refine Dr_p (Pu_loadN rfl Tryz.isAgg59 Tryz.sizeOf59 rfl (Nat.le_of_ble_eq_true rfl)) ?_
      refine Dr_p (Pu_eqrow [.string _, .int .i64 _, .int .i64 _] [.string _, .int .i64 _, .int .i64 _] (fun w => nev59 _ _ _ _ _ _ _ _ w) rfl rfl rfl) ?_
      refine Dr_nil (Al_nil ?_)
      refine Aw_cond rfl (fun h24 => ?_) (fun h24 => ?_)
      · skip
        have hne : l[k] ≠ m[k] := of_decide_eq_false (by rw [← dep_eqB]; simpa only [Bool.not_eq_true'] using h24)
        refine Aw_seq (Aw_region ?_)
        refine Al_p Pu_mvr ?_
        refine Al_nil ?_
        refine Aw_ret ?_
        exact Sub.bool (by rw [L.same_ne hkl hkm hne]) -- ret 1
      · skip
        have heq : l[k] = m[k] := of_decide_eq_true (by rw [← dep_eqB]; simpa only [Bool.not_eq_false'] using h24)
        refine Aw_skip (Aw_region ?_)
        refine Al_p (Pu_add rfl rfl rfl (fun h1 h2 => by simp only [A.inI, A.maxI] at *; omega)) ?_
        refine Al_p Pu_mvl ?_
        refine Al_nil ?_
        exact ⟨k + 1, ⟨by omega, L.same_step he hkl hkm heq⟩, by omega, Le.ov ⟨Sub.num (by omega), trivial⟩ ⟨Sub.rfl, Sub.rfl, Sub.rfl, trivial⟩ trivial trivial⟩ -- loop 0 next.0
    · (try simp only [decide_eq_true_eq, decide_eq_false_iff_not, Bool.and_eq_true, Bool.or_eq_true, Bool.and_eq_false_iff, Bool.or_eq_false_iff, Bool.not_eq_true', Bool.not_eq_false', beq_iff_eq, Bool.not_eq_eq_eq_not, Bool.not_true, Bool.not_false, List.length_map, Bool.and_true, Bool.and_false, Bool.false_and, Bool.true_and, Bool.or_false, Bool.false_or] at h14)
      obtain rfl := L.same_end he (by omega) (by omega)
      refine Aw_exit (Aw_seq (Aw_region ?_))
      refine Al_p Pu_mvr ?_
      refine Al_nil ?_
      refine Aw_ret ?_
      exact Sub.bool (by simp) -- ret 2
end Go.Proofs.YtmbaeloiepjakaaGreat
end

section
namespace Go.Proofs.YtmbaeloiepjakaaGreat.A
open Go Go.RowKit
theorem find_congr {α : Type} {p q : α → Bool} : ∀ {l : List α}, (∀ x ∈ l, p x = q x) → l.find? p = l.find? q
  | [], _ => rfl
  | x :: l, h => by
    rw [List.find?_cons, List.find?_cons, h x (by simp), find_congr fun y hy => h y (by simp [hy])]
/-- Whatever of the operations is done: what they yield, in whichever order. -/
def stL (l : List Oper) (ss : Nat → SV) (L : Nat → Bool) (st : ASt) : ASt := { st with sl := fun t => match (List.range l.length).find? (fun i => L i && (l[i]?.bind (·.dst)) == some t) with | some i => ss i | none => st.sl t }
theorem stL_congr {l : List Oper} {ss ss' : Nat → SV} {L L' : Nat → Bool} {st : ASt} (hL : ∀ i, i < l.length → L i = L' i) (hs : ∀ i, i < l.length → L i = true → ss i = ss' i) : stL l ss L st = stL l ss' L' st := by
  unfold stL
  congr 1
  funext t
  have e : (List.range l.length).find? (fun i => L i && (l[i]?.bind (·.dst)) == some t) = (List.range l.length).find? (fun i => L' i && (l[i]?.bind (·.dst)) == some t) := by
    apply find_congr
    intro i hi
    rw [hL i (List.mem_range.1 hi)]
  rw [← e]
  cases h : (List.range l.length).find? (fun i => L i && (l[i]?.bind (·.dst)) == some t) with
  | none => rfl
  | some i =>
    have h1 := List.find?_some h
    have h2 := List.mem_range.1 (List.mem_of_find?_eq_some h)
    simp only [Bool.and_eq_true] at h1
    exact hs i h2 h1.1
theorem find_uniq {l : List Oper} {L : Nat → Bool} {i t : Nat} {o : Oper} (hd : Ev.distinct l = true) (hi : l[i]? = some o) (ho : o.dst = some t) (hL : L i = true) : (List.range l.length).find? (fun i => L i && (l[i]?.bind (·.dst)) == some t) = some i := by
  have hil : i < l.length := (List.getElem?_eq_some_iff.1 hi).1
  cases h : (List.range l.length).find? (fun i => L i && (l[i]?.bind (·.dst)) == some t) with
  | none =>
    have := List.find?_eq_none.1 h i (List.mem_range.2 hil)
    simp [hL, hi, ho] at this
  | some j =>
    have h1 := List.find?_some h
    simp only [Bool.and_eq_true, beq_iff_eq] at h1
    obtain ⟨oj, h2, h3⟩ := Option.bind_eq_some_iff.1 h1.2
    congr 1
    rcases Nat.lt_trichotomy i j with e | e | e
    · exact (dist_ne hd hi h2 e ho h3).elim
    · exact e.symm
    · exact (dist_ne hd h2 hi e h3 ho).elim
theorem stL_at {l : List Oper} {ss : Nat → SV} {L : Nat → Bool} {st : ASt} {i t : Nat} {o : Oper} (hd : Ev.distinct l = true) (hi : l[i]? = some o) (ho : o.dst = some t) (hL : L i = true) : (stL l ss L st).sl t = ss i := by
  unfold stL
  simp only [find_uniq hd hi ho hL]
theorem stL_out {l : List Oper} {ss : Nat → SV} {L : Nat → Bool} {st : ASt} {t : Nat} (h : ∀ (i : Nat) (o : Oper), l[i]? = some o → o.dst = some t → L i = false) : (stL l ss L st).sl t = st.sl t := by
  unfold stL
  have e : (List.range l.length).find? (fun i => L i && (l[i]?.bind (·.dst)) == some t) = none := by
    rw [List.find?_eq_none]
    intro i hi
    simp only [Bool.and_eq_true, beq_iff_eq, not_and]
    intro hL h2
    obtain ⟨o, h3, h4⟩ := Option.bind_eq_some_iff.1 h2
    rw [h i o h3 h4] at hL; cases hL
  simp only [e]
theorem stL_none {l : List Oper} {ss : Nat → SV} {st : ASt} : stL l ss (fun _ => false) st = st := by
  unfold stL
  have e : ∀ t, (List.range l.length).find? (fun i => false && (l[i]?.bind (·.dst)) == some t) = none := fun t => by
    rw [List.find?_eq_none]; intro i _; simp
  simp only [e]
/-- One more is done. -/
theorem stL_set {l : List Oper} {ss : Nat → SV} {L L' : Nat → Bool} {st : ASt} {j d : Nat} {o : Oper} (hd : Ev.distinct l = true) (hj : l[j]? = some o) (ho : o.dst = some d) (hL' : ∀ i, L' i = (L i || decide (i = j))) : (stL l ss L st).set d (ss j) = stL l ss L' st := by
  have hb : ∀ {s s' : ASt}, s.sl = s'.sl → s.ob = s'.ob → s = s' := fun {s s'} h1 h2 => by cases s; cases s'; simp_all
  refine hb (funext fun t => ?_) rfl
  show (bif Nat.beq t d then ss j else (stL l ss L st).sl t) = (stL l ss L' st).sl t
  cases ht : Nat.beq t d with
  | true =>
    have := Nat.eq_of_beq_eq_true ht
    subst this
    exact (stL_at hd hj ho (by rw [hL' j]; simp)).symm
  | false =>
    have hne : t ≠ d := fun e => by subst e; simp at ht
    show (stL l ss L st).sl t = (stL l ss L' st).sl t
    unfold stL
    have e : (List.range l.length).find? (fun i => L i && (l[i]?.bind (·.dst)) == some t) = (List.range l.length).find? (fun i => L' i && (l[i]?.bind (·.dst)) == some t) := by
      apply find_congr
      intro i _
      rw [hL' i]
      by_cases e : i = j
      · subst e
        have : ((l[i]?.bind (·.dst)) == some t) = false := by
          rw [hj]
          simp only [Option.bind_some, ho, beq_eq_false_iff_ne, ne_eq, Option.some.injEq]
          exact fun e => hne e.symm
        rw [this]; simp
      · simp [e]
    simp only [e]
theorem St_frame {P : Program} {ops : Array Oper} {st st' : ASt} {o : Oper} {s : SV} (h : St P ops st o s) (hx : ∀ x ∈ opsOf o, st'.ev x = st.ev x) (hg : ∀ j b oj dj, o.guard = some (j, b) → ops[j]? = some oj → oj.dst = some dj → st'.sl dj = st.sl dj) (hob : ∀ k g ob, st.ob k = some (g, ob) → st'.ob k = some (g, ob)) : St P ops st' o s := fun B M ρ w a h1 h2 h3 h4 hev => by
  have h5 := h B M ρ w a h1 (fun x hx' => by rw [← hx x hx']; exact h2 x hx') (fun j b oj dj k1 k2 k3 => by rw [← hg j b oj dj k1 k2 k3]; exact h3 j b oj dj k1 k2 k3) (fun k g ob hk => h4 k g ob (hob k g ob hk)) (hev.sub hob)
  split
  · rename_i hw
    rw [if_pos hw] at h5
    intro K hK
    exact h5 K fun v w' hk hv => hK v w' (hk.sup hev hob) hv
  · rename_i hw
    rw [if_neg hw] at h5
    exact h5
/-- What a walk of the operations, each behind those ahead of it, tells of each. -/
theorem dr_all {P : Program} {ops : Array Oper} {R : ASt → Prop} {l : List Oper} {st : ASt} (hd : Ev.distinct l = true) : ∀ (r : List Oper) (j : Nat) (ss0 : Nat → SV), l.drop j = r → Dr P ops R r (stL l ss0 (fun i => decide (i < j)) st) →
    ∃ ss : Nat → SV, (∀ i, i < j → ss i = ss0 i) ∧ (∀ i o, j ≤ i → l[i]? = some o → ∃ d, o.dst = some d ∧ St P ops (stL l ss (fun x => decide (x < i)) st) o (ss i)) ∧ R (stL l ss (fun _ => true) st)
  | [], j, ss0, hr, h => ⟨ss0, fun _ _ => rfl, fun i o h1 h2 => by
      have h3 := (List.getElem?_eq_some_iff.1 h2).1
      have h4 := congrArg List.length hr
      simp at h4; omega, by
      have h4 := congrArg List.length hr
      simp at h4
      have e : stL l ss0 (fun i => decide (i < j)) st = stL l ss0 (fun _ => true) st := stL_congr (fun i hi => by simp; omega) (fun _ _ _ => rfl)
      rw [← e]; exact h⟩
  | o :: r, j, ss0, hr, h => by
    obtain ⟨d, s, hdo, hst, hdr⟩ := h
    have hj : l[j]? = some o := by
      have : (l.drop j)[0]? = some o := by rw [hr]; rfl
      simpa using this
    let ss1 : Nat → SV := fun i => if i = j then s else ss0 i
    have e0 : stL l ss0 (fun i => decide (i < j)) st = stL l ss1 (fun i => decide (i < j)) st := stL_congr (fun _ _ => rfl) (fun i _ h => by
      have : i < j := by simpa using h
      simp [ss1, show i ≠ j by omega])
    have e1 : (stL l ss0 (fun i => decide (i < j)) st).set d s = stL l ss1 (fun i => decide (i < j + 1)) st := by
      rw [e0]
      have : s = ss1 j := by simp [ss1]
      rw [this]
      exact stL_set hd hj hdo fun i => by
        rw [Bool.eq_iff_iff]; simp; omega
    rw [e1] at hdr
    obtain ⟨ss, h1, h2, h3⟩ := dr_all hd r (j + 1) ss1 (by
      have : (l.drop j).drop 1 = r := by rw [hr]; rfl
      rwa [List.drop_drop] at this) hdr
    refine ⟨ss, fun i hi => by rw [h1 i (by omega)]; simp [ss1, show i ≠ j by omega], fun i o' hi ho' => ?_, h3⟩
    by_cases e : i = j
    · subst e
      rw [hj] at ho'; cases ho'
      refine ⟨d, hdo, ?_⟩
      have e2 : stL l ss0 (fun x => decide (x < i)) st = stL l ss (fun x => decide (x < i)) st := stL_congr (fun _ _ => rfl) (fun x _ hx => by
        have : x < i := by simpa using hx
        rw [h1 x (by omega)]; simp [ss1, show x ≠ i by omega])
      rw [← e2]
      have : ss i = s := by rw [h1 i (by omega)]; simp [ss1]
      rw [this]; exact hst
    · exact h2 i o' (by omega) ho'
/-- The variable is made. -/
def alcS (d g : Nat) (o : AO) (st : ASt) : ASt := (st.put d g o).set d (.bx d g 0)
def alcO (d : Nat) (o : AO) : Option Nat → ASt → ASt
  | none, st => st
  | some g, st => alcS d g o st
theorem alcS_set {d g e : Nat} {o : AO} {s : SV} {st : ASt} (h : e ≠ d) : (alcS d g o st).set e s = alcS d g o (st.set e s) := by
  have hb : ∀ {s s' : ASt}, s.sl = s'.sl → s.ob = s'.ob → s = s' := fun {s s'} h1 h2 => by cases s; cases s'; simp_all
  refine hb (funext fun t => ?_) rfl
  show (bif Nat.beq t e then s else bif Nat.beq t d then SV.bx d g 0 else st.sl t) = (bif Nat.beq t d then SV.bx d g 0 else bif Nat.beq t e then s else st.sl t)
  cases h1 : Nat.beq t e with
  | false => rfl
  | true =>
    cases h2 : Nat.beq t d with
    | false => rfl
    | true =>
      have e1 := Nat.eq_of_beq_eq_true h1
      have e2 := Nat.eq_of_beq_eq_true h2
      exact absurd (e1.symm.trans e2) h
def drawAB (N : Nat) (l : List Oper) (n dA : Nat) : Bool := Ev.distinct (l.take n) && Ev.backB l.toArray && Ev.tailB l.toArray (n + 1) && drB N l n && ((l.take n).all fun o => match o.dst with | some d => decide (d < N) && !Nat.beq d dA | none => false) && (l.take n).all fun o => ((opsOf o).all fun | .tmp t => !Nat.beq t dA | _ => true) && match o.guard with | some (j, _) => (match l[j]? with | some oj => (match oj.dst with | some dj => !Nat.beq dj dA | none => true) | none => true) | none => true
section
variable {P : Program} {N : Nat} {M0 : Nat → Prop} {w0 : Base} {Q : Exit → ASt → Prop} {st : ASt}
theorem drawA_go {l : List Oper} {n dA : Nat} {oA : Oper} {T : TypeId} {z : Value} {zs : List AV} {ss : Nat → SV} (hok : drawAB N l n dA = true) (hA : l[n]? = some oA) (ho : oA.op = .alloc T) (hgA : oA.guard = none) (hdA : oA.dst = some dA) (hNA : dA < N) (hz : ∀ w, (zeroValue T).run P w = .ok z w) (hzs : z.cells.toList.map AV.v = zs) (hv : z.cells.toList.all (fun z => decide (vok z)) = true) (hfree : st.ob dA = none)
    (hst : ∀ i o, (l.take n)[i]? = some o → ∃ d, o.dst = some d ∧ St P l.toArray (stL (l.take n) ss (fun x => decide (x < i)) st) o (ss i))
    (hfin : ∀ g, Al P N M0 w0 l.toArray Q (l.drop (n + 1)) (alcS dA g (.box T (zs.map .d)) (stL (l.take n) ss (fun _ => true) st))) :
    ∀ (fuel : Nat) (listed : Array Bool) (og : Option Nat), listed.size = l.length → Ev.Closed l.toArray listed → listed[n]? = some og.isSome → (∀ i, n < i → i < l.length → listed[i]? = some false) → listed.count false ≤ fuel →
      Ad P N M0 w0 l.toArray Q fuel listed (alcO dA (.box T (zs.map .d)) og (stL (l.take n) ss (fun i => listed.getD i false) st)) := by
  simp only [drawAB, Bool.and_eq_true] at hok
  obtain ⟨⟨⟨⟨⟨hd, hb⟩, ht⟩, hdr⟩, hds⟩, hdA2⟩ := hok
  have hnl : n < l.length := (List.getElem?_eq_some_iff.1 hA).1
  have hsz : l.toArray.size = l.length := by simp
  have hget : ∀ (j : Nat), l.toArray[j]? = l[j]? := fun j => by simp
  have htk : ∀ (j : Nat), j < n → (l.take n)[j]? = l[j]? := fun j hj => by rw [List.getElem?_take, if_pos hj]
  have hlen : (l.take n).length = n := by simp; omega
  have fin : ∀ (fuel : Nat) (listed : Array Bool) (og : Option Nat), listed.size = l.length → Ev.Closed l.toArray listed → listed[n]? = some og.isSome → (∀ i, n < i → i < l.length → listed[i]? = some false) → listed.count false ≤ fuel → (∀ i, i < n + 1 → listed[i]? = some true) →
      Ad P N M0 w0 l.toArray Q fuel listed (alcO dA (.box T (zs.map .d)) og (stL (l.take n) ss (fun i => listed.getD i false) st)) := by
    intro fuel listed og hs hcl hog hun hfu hall
    have h1 := hall n (by omega)
    rw [hog] at h1
    obtain ⟨g, rfl⟩ : ∃ g, og = some g := by
      cases og with
      | none => simp at h1
      | some g => exact ⟨g, rfl⟩
    have e : stL (l.take n) ss (fun i => listed.getD i false) st = stL (l.take n) ss (fun _ => true) st := stL_congr (fun i hi => by
      have := hall i (by omega)
      simp [Array.getD_eq_getD_getElem?, this]) (fun _ _ _ => rfl)
    rw [e]
    refine ⟨fun a w hs' => ?_⟩
    have hcnt : l.length - (n + 1) ≤ fuel := by
      have e : listed.toList = listed.toList.take (n + 1) ++ List.replicate (l.length - (n + 1)) false := by
        apply List.ext_getElem?
        intro i
        rcases Nat.lt_or_ge i (n + 1) with h | h
        · rw [List.getElem?_append_left (by simp; omega), List.getElem?_take_of_lt h]
        · rw [List.getElem?_append_right (by simp; omega)]
          rcases Nat.lt_or_ge i l.length with h2 | h2
          · have := hun i (by omega) h2
            have e1 : listed.toList[i]? = some false := by simpa using this
            rw [e1, List.getElem?_replicate, if_pos (by simp; omega)]
          · rw [List.getElem?_eq_none (by simp; omega), List.getElem?_eq_none (by simp; omega)]
      have h2 : listed.count false = listed.toList.count false := by rw [Array.count_toList]
      rw [h2, e, List.count_append] at hfu
      simp at hfu
      omega
    refine Ev.seq_any hb ht (l.length - (n + 1)) fuel (n + 1) listed a w (by simp; omega) hcnt (Nat.le_refl _) (by simpa using hs) (fun i hi => hall i hi) (fun i hi hi2 => hun i (by omega) (by simpa using hi2)) hcl ?_
    have h3 := wpOps_eq_wpList (P := P) (ops := l.toArray) (Q := QL N M0 w0 Q) (l.drop (n + 1)) (n + 1) (fun j => by simp)
    rw [List.length_drop] at h3
    rw [h3]
    exact (hfin g).out a w hs'
  intro fuel
  induction fuel with
  | zero =>
    intro listed og hs hcl hog hun hn
    refine fin 0 listed og hs hcl hog hun hn fun i hi => ?_
    cases hl : listed[i]? with
    | none => rw [Array.getElem?_eq_none_iff] at hl; omega
    | some b =>
      cases b with
      | true => rfl
      | false =>
        have : false ∈ listed := Array.mem_of_getElem? hl
        have := Array.count_pos_iff.2 this
        omega
  | succ fuel ih =>
    intro listed og hs hcl hog hun hn
    by_cases hall : ∀ (i : Nat), i < n + 1 → listed[i]? = some true
    · exact fin (fuel + 1) listed og hs hcl hog hun hn hall
    refine ⟨fun a w hsim => ⟨fun h0 => ?_, fun j hj => ?_⟩⟩
    · exfalso
      apply hall
      intro i
      induction i using Nat.strongRecOn with
      | _ i ih' =>
        intro hi
        cases hl : listed[i]? with
        | none => rw [Array.getElem?_eq_none_iff] at hl; omega
        | some b =>
          cases b with
          | true => rfl
          | false =>
            have := Ev.ready_of_least hb (by simpa using hs) (by simp; omega) hl (fun k hk => ih' k hk (by omega))
            rw [h0] at this
            cases this
    obtain ⟨hju, o, hoj, hdone⟩ := mem_ready.1 hj
    have hjo : j < l.length := by
      have := (Array.getElem?_eq_some_iff.1 hoj).1
      simpa using this
    have hlt : j < listed.size := by omega
    have hjl : listed[j]? = some false := by simp [Array.getD, hlt] at hju; simp [hlt, hju]
    have hj1 : j < n + 1 := by
      rcases Nat.lt_or_ge j (n + 1) with h | h
      · exact h
      · exact (hall fun i hi => Ev.ready_all ht hcl hj h i (by omega)).elim
    have hoj' : l[j]? = some o := by rw [← hget]; exact hoj
    have hdl : ∀ d ∈ Ev.depsOf o, listed[d]? = some true := Ev.deps_listed hdone
    have hold : ∀ (i : Nat), i ≠ j → (listed.setIfInBounds j true)[i]? = listed[i]? := fun i hij => by
      rw [Array.getElem?_setIfInBounds, if_neg (Ne.symm hij)]
    have hcl' : Ev.Closed l.toArray (listed.setIfInBounds j true) := fun i o' hi ho' d hd' => by
      have keep : ∀ (y : Nat), listed[y]? = some true → (listed.setIfInBounds j true)[y]? = some true := fun y hy => by
        by_cases e : y = j
        · subst e; simp [hlt]
        · rw [hold y e]; exact hy
      by_cases hij : i = j
      · subst hij
        rw [hoj] at ho'
        cases ho'
        exact keep d (hdl d hd')
      · rw [hold i hij] at hi
        exact keep d (hcl i o' hi ho' d hd')
    have hcnt : (listed.setIfInBounds j true).count false ≤ fuel := by
      have := Array.count_set (xs := listed) (i := j) (a := true) (b := false) hlt
      rw [Array.setIfInBounds, dif_pos hlt]
      have h3 : listed[j] = false := by simpa [hlt] using hjl
      have h4 : 0 < listed.count false := Array.count_pos_iff.2 (Array.mem_iff_getElem.2 ⟨j, hlt, h3⟩)
      rw [this]
      simp [h3]
      omega
    have hLL : ∀ i, (listed.setIfInBounds j true).getD i false = (listed.getD i false || decide (i = j)) := fun i => by
      by_cases e : i = j
      · subst e; simp [Array.getD_eq_getD_getElem?, hlt]
      · simp [Array.getD_eq_getD_getElem?, hold i e, e]
    have hun' : ∀ i, n < i → i < l.length → (listed.setIfInBounds j true)[i]? = some false := fun i h1 h2 => by
      rw [hold i (by omega)]; exact hun i h1 h2
    by_cases hjn : j = n
    · subst hjn
      rw [hA] at hoj'; cases hoj'
      have hog' : og = none := by
        rw [hjl] at hog
        cases og with
        | none => rfl
        | some g => simp at hog
      subst hog'
      refine wpOp_of_list hoj ((Al_alloc (l := []) (Q := Then (Ad P N M0 w0 l.toArray Q fuel (listed.setIfInBounds j true)) Q) ho hgA hdA hNA hz hzs hv (fun g => Al_nil ?_)).out a w hsim) (fun a' w' ⟨st', h1, h2⟩ => h1.out a' w' h2) (fun c a' w' h => h) (fun ⟨a', w', h⟩ => ⟨a', w', h⟩)
      have := ih (listed.setIfInBounds j true) (some g) (by simpa using hs) hcl' (by simp [hlt]) hun' hcnt
      have e : stL (l.take j) ss (fun i => (listed.setIfInBounds j true).getD i false) st = stL (l.take j) ss (fun i => listed.getD i false) st := stL_congr (fun i hi => by
        rw [hLL i]
        simp at hi
        simp [show i ≠ j by omega]) (fun _ _ _ => rfl)
      rw [e] at this
      exact this
    · have hjn' : j < n := by omega
      have hjt : (l.take n)[j]? = some o := by rw [htk j hjn']; exact hoj'
      obtain ⟨d, hdo, hS⟩ := hst j o hjt
      have hmem : o ∈ l.take n := List.mem_of_getElem? hjt
      have hdN := List.all_eq_true.1 hds o hmem
      rw [hdo] at hdN
      simp only [Bool.and_eq_true, decide_eq_true_eq, Bool.not_eq_true'] at hdN
      have hddA : d ≠ dA := fun e => by rw [e] at hdN; simp at hdN
      have hno := List.all_eq_true.1 hdA2 o hmem
      simp only [Bool.and_eq_true] at hno
      have hdrj := List.all_eq_true.1 hdr j (List.mem_range.2 hjn')
      rw [hoj'] at hdrj
      simp only [Bool.and_eq_true] at hdrj
      obtain ⟨⟨hops, hgd⟩, hconst⟩ := hdrj
      have hsl : ∀ t, opB (l.take n) j o t = true → t ≠ dA → (alcO dA (.box T (zs.map .d)) og (stL (l.take n) ss (fun i => listed.getD i false) st)).sl t = (stL (l.take n) ss (fun x => decide (x < j)) st).sl t := by
        intro t hop hne
        have e1 : (alcO dA (.box T (zs.map .d)) og (stL (l.take n) ss (fun i => listed.getD i false) st)).sl t = (stL (l.take n) ss (fun i => listed.getD i false) st).sl t := by
          cases og with
          | none => rfl
          | some g =>
            show (bif Nat.beq t dA then _ else _) = _
            have : Nat.beq t dA = false := by
              cases hb : Nat.beq t dA with
              | false => rfl
              | true => exact absurd (Nat.eq_of_beq_eq_true hb) hne
            rw [this]; rfl
        rw [e1]
        by_cases hin : inB (l.take n) t = true
        · simp only [opB, hin, Bool.not_true, Bool.false_or, List.any_eq_true, List.mem_range, Bool.and_eq_true, beq_iff_eq] at hop
          obtain ⟨i, hi, hid, hic⟩ := hop
          obtain ⟨oi, hoi, hoid⟩ := Option.bind_eq_some_iff.1 hid
          have hli := hdl i (by simpa using hic)
          rw [stL_at hd hoi hoid (by simp [Array.getD_eq_getD_getElem?, hli]), stL_at hd hoi hoid (by simpa using hi)]
        · have hout : ∀ (i : Nat) (o' : Oper), (l.take n)[i]? = some o' → o'.dst ≠ some t := fun i o' h1 h2 => hin (by
            simp only [inB, List.any_eq_true, beq_iff_eq]
            exact ⟨o', List.mem_of_getElem? h1, h2⟩)
          rw [stL_out fun i o' h1 h2 => absurd h2 (hout i o' h1), stL_out fun i o' h1 h2 => absurd h2 (hout i o' h1)]
      have hS2 : St P l.toArray (alcO dA (.box T (zs.map .d)) og (stL (l.take n) ss (fun i => listed.getD i false) st)) o (ss j) := by
        refine St_frame hS (fun x hx => ?_) (fun j' b oj dj h1 h2 h3 => ?_) (fun k g ob h => ?_)
        · cases x with
          | tmp t =>
            have h1 := List.all_eq_true.1 hops _ hx
            have h2 := List.all_eq_true.1 hno.1 _ hx
            exact hsl t h1 (fun e => by rw [e] at h2; simp at h2)
          | _ => rfl
        · rw [hget] at h2
          rw [h1] at hgd
          simp only [h2, h3, Bool.and_eq_true, decide_eq_true_eq] at hgd
          have h4 := hno.2
          rw [h1] at h4
          simp only [h2, h3, Bool.not_eq_true'] at h4
          exact hsl dj hgd.1 (fun e => by rw [e] at h4; simp at h4)
        · cases og with
          | none => exact h
          | some g' =>
            show (bif Nat.beq k dA then _ else st.ob k) = _
            have h' : st.ob k = some (g, ob) := h
            have : Nat.beq k dA = false := by
              cases hb : Nat.beq k dA with
              | false => rfl
              | true =>
                have := Nat.eq_of_beq_eq_true hb
                subst this
                rw [hfree] at h'; cases h'
            rw [this]; exact h'
      refine wpOp_of_list hoj ((Al_st (l := []) (Q := Then (Ad P N M0 w0 l.toArray Q fuel (listed.setIfInBounds j true)) Q) hS2 hdo hdN.1 hconst (fun j' b oj dj h1 h2 h3 => ?_) (Al_nil ?_)).out a w hsim) (fun a' w' ⟨st', h1, h2⟩ => h1.out a' w' h2) (fun c a' w' h => h) (fun ⟨a', w', h⟩ => ⟨a', w', h⟩)
      · rw [hget] at h2
        rw [h1] at hgd
        simp only [h2, h3, Bool.and_eq_true, decide_eq_true_eq] at hgd
        exact hgd.2
      · have := ih (listed.setIfInBounds j true) og (by simpa using hs) hcl' (by rw [hold n (by omega)]; exact hog) hun' hcnt
        have e : (alcO dA (.box T (zs.map .d)) og (stL (l.take n) ss (fun i => listed.getD i false) st)).set d (ss j) = alcO dA (.box T (zs.map .d)) og (stL (l.take n) ss (fun i => (listed.setIfInBounds j true).getD i false) st) := by
          have e2 : (stL (l.take n) ss (fun i => listed.getD i false) st).set d (ss j) = stL (l.take n) ss (fun i => (listed.setIfInBounds j true).getD i false) st := stL_set hd hjt hdo hLL
          cases og with
          | none => exact e2
          | some g => show (alcS _ _ _ _).set d (ss j) = alcS _ _ _ _; rw [alcS_set hddA, e2]
        show Ad P N M0 w0 l.toArray Q fuel (listed.setIfInBounds j true) _
        rw [e]
        exact this
/-- A region that draws its order: pure operations, a variable that is made, and what stands behind all of these. -/
theorem Aw_drawA {id : Nat} {l : List Oper} (n : Nat) {oA : Oper} {dA : Nat} {T : TypeId} {z : Value} {zs : List AV} (hm : P.follows .mixedOrders = true) (hok : drawAB N l n dA = true) (hA : l[n]? = some oA) (ho : oA.op = .alloc T) (hgA : oA.guard = none) (hdA : oA.dst = some dA) (hNA : dA < N) (hz : ∀ w, (zeroValue T).run P w = .ok z w) (hzs : z.cells.toList.map AV.v = zs) (hv : z.cells.toList.all (fun z => decide (vok z)) = true) (hfree : st.ob dA = none)
    (h : Dr P l.toArray (fun st' => ∀ g, Al P N M0 w0 l.toArray Q (l.drop (n + 1)) ((st'.put dA g (.box T (zs.map .d))).set dA (.bx dA g 0))) (l.take n) st) : Aw P N M0 w0 (.region id l.toArray true) Q st := by
  have hd : Ev.distinct (l.take n) = true := by
    simp only [drawAB, Bool.and_eq_true] at hok
    exact hok.1.1.1.1.1
  have hnl : n < l.length := (List.getElem?_eq_some_iff.1 hA).1
  have h0 : stL (l.take n) (fun _ => .any) (fun i => decide (i < 0)) st = st := by
    refine Eq.trans (stL_congr (fun i _ => ?_) (fun _ _ _ => rfl)) (stL_none (l := l.take n) (ss := fun _ => .any) (st := st))
    simp
  obtain ⟨ss, _, h2, h3⟩ := dr_all hd (l.take n) 0 (fun _ => .any) rfl (by rw [h0]; exact h)
  refine Aw_drawn hm ?_
  have := drawA_go hok hA ho hgA hdA hNA hz hzs hv hfree (fun i o hi => h2 i o (Nat.zero_le _) hi) (fun g => h3 g) l.length (List.replicate l.length false).toArray none (by simp) (fun i o h1 _ d _ => by
    exfalso
    rw [List.getElem?_toArray, List.getElem?_replicate] at h1
    split at h1 <;> simp at h1) (by simp [List.getElem?_replicate, hnl]) (fun i _ hi => by simp [List.getElem?_replicate, hi]) (by simp [Array.count_replicate])
  have e : stL (l.take n) ss (fun i => (List.replicate l.length false).toArray.getD i false) st = st := by
    refine Eq.trans (stL_congr (fun i _ => ?_) (fun _ _ _ => rfl)) stL_none
    rw [Array.getD_eq_getD_getElem?, List.getElem?_toArray, List.getElem?_replicate]
    split <;> rfl
  rw [e] at this
  exact this
end
end Go.Proofs.YtmbaeloiepjakaaGreat.A
end

section
namespace Go.Proofs.YtmbaeloiepjakaaGreat.A
open Go Go.RowKit
variable {P : Program} {st : ASt} {o : Oper}
/-- The greater of two numbers. -/
theorem Pu_max2 {x y : Operand} {ts : Array TypeId} {a b c : Int} (ho : o.op = .call ⟨.builtin .max, #[x, y], ts⟩) (hx : st.ev x = .d (.v (.int .i64 a))) (hy : st.ev y = .d (.v (.int .i64 b))) (hc : c = if b > a then b else a) : Pu P st o (.d (.v (.int .i64 c))) := Pu_q fun B M ρ w act h2 h3 => by
  subst hc
  obtain ⟨e1, o1⟩ := ev_v h2 (mem_call ho x (by simp)) hx
  obtain ⟨e2, o2⟩ := ev_v h2 (mem_call ho y (by simp)) hy
  refine ⟨.int .i64 (if b > a then b else a), ?_, .v _ ?_⟩
  · simp [execOp, ho, resolve, invoke, builtin, Builtin.max_, Builtin.max2, e1, e2, Sem.run]
  · split
    · exact o2
    · exact o1
theorem Pu_int_and {t yt : TypeId} {x y : Operand} {k : IntKind} {a b r : Int} (ho : o.op = .binOp .and t x y yt) (hx : st.ev x = .d (.v (.int k a))) (hy : st.ev y = .d (.v (.int k b))) (hr : k.wrap (BitVec.ofInt k.bits a &&& BitVec.ofInt k.bits b).toNat = r) (hv : vok (.int k a) → vok (.int k r)) : Pu P st o (.d (.v (.int k r))) :=
  Pu_bin ho hx hy (fun h1 h2 w => by
    simp only [Sem.run_bind, guard_int, Result.andThen_ok, binOp]; simp only [Op.intBits, hr, ne_eq, not_true_eq_false, if_false, Sem.run_pure]) (fun h _ => hv h)
theorem Pu_convW {f t : TypeId} {x : Operand} {k k' k2 : IntKind} {a r : Int} (ho : o.op = .convert f t x) (hf : P.underlying f = some (.int k2)) (ht : P.underlying t = some (.int k')) (hx : st.ev x = .d (.v (.int k a))) (hw : k'.wrap a = r) (hv : vok (.int k' r)) : Pu P st o (.d (.v (.int k' r))) := Pu_q fun B M ρ w a2 h2 _ => by
  obtain ⟨e1, k1⟩ := ev_v h2 (x := x) (by simp [opsOf, ho, Op.operands]) hx
  refine ⟨.int k' r, ?_, .v _ hv⟩
  simp only [execOp, ho, e1, convert, Sem.run_bind, run_underlying hf, run_underlying ht, Result.andThen_ok, Conv.intToInt, hw, Sem.run_pure]
end Go.Proofs.YtmbaeloiepjakaaGreat.A
namespace Go.Proofs.YtmbaeloiepjakaaGreat.V
open Go.RowKit A R
theorem i64_ok (z : Int) : vok (.int .i64 (IntKind.i64.wrap z)) := by
  show A.inI _
  rw [IntKind.wrap_i64]
  simp only [A.inI]; omega
end Go.Proofs.YtmbaeloiepjakaaGreat.V
end

section
set_option maxRecDepth 100000
namespace Go.Proofs.YtmbaeloiepjakaaGreat
open Go.RowKit A R
open A.RowT
structure Ver where
  key : ByteArray
  value : ByteArray
  gone : Bool
  n : Int
  s : Int
  past : List Dep
def Ver.row (v : Ver) : List AV := [tv v.key, tv v.value, bv v.gone, iv v.n, iv v.s, .sl 3 (v.past.map Dep.row)]
instance : Inhabited Ver := ⟨⟨⟨#[]⟩, ⟨#[]⟩, false, 0, 0, []⟩⟩
instance : DecidableEq Ver := fun a b => decidable_of_iff (a.key = b.key ∧ a.value = b.value ∧ a.gone = b.gone ∧ a.n = b.n ∧ a.s = b.s ∧ a.past = b.past) (by cases a; cases b; simp)
abbrev versA (l : List Ver) : AV := .sl 6 (l.map Ver.row)
namespace J
/-- A past that may be. -/
def okAt (p : List Dep) (i : Nat) : Bool := D.okB (p.getD i default) && (decide (i = 0) || Op.bytesLess (p.getD (i - 1) default).key.toList (p.getD i default).key.toList)
def pastB (p : List Dep) : Bool := (List.range p.length).all (okAt p) && decide ((p.length : Int) ≤ 24)
theorem past_no {p : List Dep} {i : Nat} (hi : i < p.length) (h : okAt p i = false) : pastB p = false := by
  unfold pastB
  rw [Bool.and_eq_false_iff]
  refine .inl ?_
  rw [List.all_eq_false]
  exact ⟨i, List.mem_range.2 hi, by rw [h]; decide⟩
theorem past_all {p : List Dep} (h : ∀ i, i < p.length → okAt p i = true) : pastB p = decide ((p.length : Int) ≤ 24) := by
  unfold pastB
  rw [show (List.range p.length).all (okAt p) = true from List.all_eq_true.2 fun i hi => h i (List.mem_range.1 hi), Bool.true_and]
theorem adj_srt : ∀ (p : List Dep), (∀ i, i + 1 < p.length → Op.bytesLess (p.getD i default).key.toList (p.getD (i + 1) default).key.toList = true) → D.Srt p
  | [], _ => .nil
  | [x], _ => List.pairwise_singleton ..
  | x :: y :: r, h => by
    have ih := adj_srt (y :: r) fun i hi => h (i + 1) (by simpa using hi)
    have h0 : Op.bytesLess x.key.toList y.key.toList = true := h 0 (by simp)
    refine List.pairwise_cons.2 ⟨fun z hz => ?_, ih⟩
    rcases List.mem_cons.1 hz with rfl | hz
    · exact h0
    · exact K.bl_trans _ _ _ h0 ((List.pairwise_cons.1 ih).1 z hz)
theorem past_good {p : List Dep} (h : pastB p = true) : D.Good p ∧ p.length ≤ 24 := by
  unfold pastB at h
  simp only [Bool.and_eq_true, List.all_eq_true, List.mem_range, decide_eq_true_eq] at h
  obtain ⟨h1, h2⟩ := h
  refine ⟨⟨adj_srt p fun i hi => ?_, fun x hx => ?_⟩, by omega⟩
  · have := h1 (i + 1) hi
    unfold okAt at this
    simp only [Bool.and_eq_true, Bool.or_eq_true, decide_eq_true_eq] at this
    rcases this.2 with h | h
    · omega
    · exact h
  · obtain ⟨i, hi, rfl⟩ := List.getElem_of_mem hx
    have := h1 i hi
    unfold okAt at this
    simp only [Bool.and_eq_true] at this
    have hg : p.getD i default = p[i] := by simp [hi]
    rw [hg] at this
    exact this.1
theorem size_runes (s : ByteArray) : ∀ (k i f n : Nat), s.size - i ≤ k → s.size ≤ i + f → K.runesF s f i = some n → s.size ≤ i + 4 * n := by
  intro k
  induction k with
  | zero => intro i f n h _ _; omega
  | succ k ih =>
    intro i f n h hf hr
    by_cases hi : i < s.size
    · cases ho : K.okAt s i with
      | false => rw [K.runesF_bad s f i hi hf ho] at hr; cases hr
      | true =>
        obtain ⟨g, hg, e⟩ := K.runesF_ok s f i hi hf ho
        rw [e] at hr
        obtain ⟨m, hm, rfl⟩ := Option.map_eq_some_iff.1 hr
        have hw := K.wd_pos s i hi
        have hw4 : K.wd s i ≤ 4 := by rw [← (K.ref_ok s i hi).2 ho]; exact K.longN_le _
        have := ih (i + K.wd s i) g m (by omega) hg hm
        omega
    · omega
theorem check_size {s : ByteArray} (h : K.checkB s = true) : s.size ≤ 32 := by
  unfold K.checkB K.lim at h
  simp only [Bool.and_eq_true, decide_eq_true_eq] at h
  obtain ⟨⟨h1, h2⟩, _⟩ := h
  unfold K.runes at h1 h2
  split at h1
  · rename_i n hn
    have := size_runes s s.size 0 s.size n (by omega) (by omega) hn
    rw [hn] at h2
    simp only at h2
    omega
  · omega
def checkB (v : Ver) : Bool := K.checkB v.key && (V.stampB v.n v.s && (pastB v.past && (decide ((v.value.size : Int) ≤ 32) && (!v.gone || (v.value.toList == (⟨#[]⟩ : ByteArray).toList)))))
theorem ver_key {v : Ver} (h : checkB v = true) : v.key.size ≤ 32 := by
  unfold checkB at h
  simp only [Bool.and_eq_true] at h
  exact check_size h.1
theorem ver_eq (v w : Ver) : ((v.key.toList == w.key.toList) && ((v.value.toList == w.value.toList) && ((v.gone == w.gone) && (((v.n == w.n) && (v.s == w.s)) && decide (v.past = w.past))))) = decide (v = w) := by
  rw [str_eqB, str_eqB]
  cases v; cases w
  rw [Bool.eq_iff_iff]
  simp only [Bool.and_eq_true, beq_iff_eq, decide_eq_true_eq, Ver.mk.injEq, and_assoc]
end J
set_option maxRecDepth 100000 in
theorem pcheck_a (p : List Dep) : ACall Tryz.prog 78 [.sl 3 (p.map Dep.row)] (bv (J.pastB p)) := by
  refine ACall_enter (fun _ _ => by kernel_rfl) Tryz.func78 rfl Tryz.ntmps78 Tryz.results78 (Nat.le_of_ble_eq_true rfl) (fun hok M0 w0 hnl => ?_)
  have hlen := (hok _ (List.mem_cons_self ..)).len
  rw [List.length_map] at hlen
  refine Aw_seq (Aw_region ?_)
  refine Al_p Pu_mvr ?_
  refine Al_nil (Aw_seq (Aw_seq (Aw_region ?_)))
  refine Al_p Pu_mvl ?_
  refine Al_p (Pu_len rfl Tryz.underlying32 rfl (by first | exact List.length_map .. | exact rfl)) ?_
  refine Al_p Pu_mvl ?_
  refine Al_nil (Aw_block ?_)
  refine Aw_loopk (ι := Nat) [0, 5, 6] [] (fun k => [(7, .d (iv k))]) (fun k => []) (fun k => k ≤ p.length ∧ ∀ i, i < k → J.okAt p i = true) (fun k => p.length - k) (0) (⟨Nat.zero_le _, by intros; omega⟩) ⟨Sub.rfl, trivial⟩ trivial ?_
  rintro k ⟨hk0, hno⟩
  refine Aw_seq (Aw_region ?_)
  refine Al_p (Pu_cmp rfl rfl rfl rfl) ?_
  refine Al_nil (Aw_seq ?_)
  refine Aw_cond rfl (fun h8 => ?_) (fun h8 => ?_)
  · (try simp only [decide_eq_true_eq, decide_eq_false_iff_not, Bool.and_eq_true, Bool.or_eq_true, Bool.and_eq_false_iff, Bool.or_eq_false_iff, Bool.not_eq_true', Bool.not_eq_false', beq_iff_eq, Bool.not_eq_eq_eq_not, Bool.not_true, Bool.not_false, List.length_map, Bool.and_true, Bool.and_false, Bool.false_and, Bool.true_and, Bool.or_false, Bool.false_or] at h8)
    have hk : k < p.length := by omega
    refine Aw_skip (Aw_seq (Aw_block (Aw_seq (Aw_region ?_))))
    refine Al_p Pu_mvl ?_
    refine Al_p (Pu_index rfl Tryz.underlying32 Tryz.sizeOf59 rfl rfl (rfl) (mapgetD (d := default) hk)) ?_
    refine Al_p (Pu_loadN rfl Tryz.isAgg59 Tryz.sizeOf59 rfl (Nat.le_of_ble_eq_true rfl)) ?_
    refine Al_alloc rfl rfl rfl (by decide) Tryz.zeroValue59 rfl (by kernel_rfl) (fun g4 => ?_)
    refine Al_p Pu_mvr ?_
    refine Al_storeN rfl rfl rfl (by kernel_rfl) Tryz.isAgg59 Tryz.sizeOf59 rfl rfl rfl rfl (Nat.le_of_ble_eq_true rfl) ?_
    refine Al_nil (Aw_seq ?_)
    refine Aw_draw 18 (by kernel_rfl) (by kernel_rfl) ?_
    refine Dr_p (Pu_loadbN (r := [_, _, _]) rfl Tryz.isAgg59 Tryz.sizeOf59 rfl rfl rfl rfl) ?_
    refine Dr_p (Pu_call (pmay_a _) rfl ⟨Sub.rfl, trivial⟩) ?_
    refine Dr_p (Pu_not rfl rfl) ?_
    refine Dr_p Pu_mvl ?_
    refine Dr_st (St_gd [] rfl rfl rfl rfl trivial (fun hg16 => by exact Pu_move (.inl rfl) (by conv => lhs; whnf))) rfl ?_
    refine Dr_st (St_gd [16] rfl rfl rfl rfl ⟨⟨_, rfl⟩, trivial⟩ (fun hg17 => Pu_cmp rfl rfl rfl rfl)) rfl ?_
    refine Dr_st (St_gd [17] rfl rfl rfl rfl ⟨⟨_, rfl⟩, trivial⟩ (fun hg18 => by exact Pu_move (.inl rfl) (by conv => lhs; whnf))) rfl ?_
    refine Dr_st (St_gd2 [] rfl rfl rfl rfl trivial (fun hp19 hg19 => by exact Pu_move (.inl rfl) (by conv => lhs; whnf))) rfl ?_
    refine Dr_st (St_gd2 [] rfl rfl rfl rfl trivial (fun hp20 hg20 => by exact Pu_move (.inl rfl) (by conv => lhs; whnf))) rfl ?_
    refine Dr_st (St_gd2 [20] rfl rfl rfl rfl ⟨⟨_, rfl⟩, trivial⟩ (fun hp21 hg21 => by exact Pu_sub rfl rfl rfl (fun h1 h2 => by simp only [A.inI, A.maxI] at *; omega))) rfl ?_
    refine Dr_st (St_gd2 [19, 21] rfl rfl rfl rfl ⟨⟨_, rfl⟩, ⟨_, rfl⟩, trivial⟩ (fun hp22 hg22 => by exact Pu_index rfl Tryz.underlying32 Tryz.sizeOf59 rfl rfl ((show ((k : Int) - 1) = ((k - 1 : Nat) : Int) from by have := of_decide_eq_true hg22; omega)) (mapgetD (d := default) (show k - 1 < p.length by omega)))) rfl ?_
    refine Dr_st (St_gd2 [22] rfl rfl rfl rfl ⟨⟨_, rfl⟩, trivial⟩ (fun hp23 hg23 => Pu_field 0 rfl Tryz.underlying59 rfl rfl Tryz.sizeOf9 rfl)) rfl ?_
    refine Dr_st (St_gd2 [23] rfl rfl rfl rfl ⟨⟨_, rfl⟩, trivial⟩ (fun hp24 hg24 => Pu_load1 rfl Tryz.isAgg9 rfl rfl)) rfl ?_
    refine Dr_st (St_gd2 [] rfl rfl rfl rfl trivial (fun hp25 hg25 => Pu_fieldb 0 rfl Tryz.underlying59 rfl rfl Tryz.sizeOf9 rfl)) rfl ?_
    refine Dr_st (St_gd2 [25] rfl rfl rfl rfl ⟨⟨_, rfl⟩, trivial⟩ (fun hp26 hg26 => Pu_loadb rfl Tryz.isAgg9 rfl rfl rfl)) rfl ?_
    refine Dr_st (St_gd2 [24, 26] rfl rfl rfl rfl ⟨⟨_, rfl⟩, ⟨_, rfl⟩, trivial⟩ (fun hp27 hg27 => Pu_str rfl rfl rfl rfl)) rfl ?_
    refine Dr_st (St_gd [18] rfl rfl rfl rfl ⟨⟨_, rfl⟩, trivial⟩ (fun hg28 => Pu_andG rfl rfl (fun h => ⟨hg28, h⟩) rfl rfl)) rfl ?_
    refine Dr_p (Pu_or rfl rfl rfl rfl) ?_
    refine Dr_nil (Al_nil ?_)
    refine Aw_cond rfl (fun h29 => ?_) (fun h29 => ?_)
    · skip
      have hf : J.okAt p k = false := by
        unfold J.okAt
        rcases Nat.eq_zero_or_pos k with h0 | h0
        · subst h0
          simpa using h29
        · rw [show decide (k = 0) = false from by simp; omega, Bool.false_or]
          simp only [Bool.or_eq_true, Bool.not_eq_true', Bool.and_eq_true, decide_eq_true_eq] at h29
          rcases h29 with h | h
          · rw [h]; rfl
          · rw [h.2, Bool.and_false]
      refine Aw_seq (Aw_region ?_)
      refine Al_p Pu_mvr ?_
      refine Al_nil ?_
      refine Aw_ret ?_
      exact Sub.bool (J.past_no hk hf).symm -- ret 0
    · skip
      have hf : J.okAt p k = true := by
        unfold J.okAt
        rcases Nat.eq_zero_or_pos k with h0 | h0
        · subst h0
          simpa using h29
        · rw [show decide (k = 0) = false from by simp; omega, Bool.false_or]
          simp only [Bool.or_eq_false_iff, Bool.not_eq_false', Bool.and_eq_false_iff, decide_eq_false_iff_not] at h29
          obtain ⟨h1, h2⟩ := h29
          rw [h1, Bool.true_and]
          rcases h2 with h | h
          · omega
          · exact h
      refine Aw_skip (Aw_region ?_)
      refine Al_p (Pu_add rfl rfl rfl (fun h1 h2 => by simp only [A.inI, A.maxI] at *; omega)) ?_
      refine Al_p Pu_mvl ?_
      refine Al_nil ?_
      exact ⟨k + 1, ⟨by omega, fun i hi => by
        rcases Nat.lt_succ_iff_lt_or_eq.1 hi with h | rfl
        · exact hno i h
        · exact hf⟩, by omega, Le.ov ⟨Sub.num (by omega), trivial⟩ ⟨Sub.rfl, Sub.rfl, Sub.rfl, trivial⟩ trivial trivial⟩ -- loop 0 next.0
  · (try simp only [decide_eq_true_eq, decide_eq_false_iff_not, Bool.and_eq_true, Bool.or_eq_true, Bool.and_eq_false_iff, Bool.or_eq_false_iff, Bool.not_eq_true', Bool.not_eq_false', beq_iff_eq, Bool.not_eq_eq_eq_not, Bool.not_true, Bool.not_false, List.length_map, Bool.and_true, Bool.and_false, Bool.false_and, Bool.true_and, Bool.or_false, Bool.false_or] at h8)
    have hk : k = p.length := by omega
    refine Aw_exit (Aw_seq (Aw_region ?_))
    refine Al_p Pu_mvl ?_
    refine Al_p (Pu_len rfl Tryz.underlying32 rfl (by first | exact List.length_map .. | exact rfl)) ?_
    refine Al_p (Pu_cmp rfl rfl rfl rfl) ?_
    refine Al_p Pu_mvr ?_
    refine Al_nil ?_
    refine Aw_ret ?_
    exact Sub.bool (J.past_all (by subst hk; exact hno)).symm -- ret 1
theorem psame_a (l m : List Dep) : ACall Tryz.prog 144 [.sl 3 (l.map Dep.row), .sl 3 (m.map Dep.row)] (bv (decide (l = m))) := by
  refine ACall_enter (fun _ _ => by kernel_rfl) Tryz.func144 rfl Tryz.ntmps144 Tryz.results144 (Nat.le_of_ble_eq_true rfl) (fun hok M0 w0 hnl => ?_)
  refine Aw_seq (Aw_region ?_)
  refine Al_p Pu_mvr ?_
  refine Al_nil (Aw_seq (Aw_region ?_))
  refine Al_p Pu_mvl ?_
  refine Al_p Pu_mvl ?_
  refine Al_p (Pu_call (dequal_a l m) rfl ⟨Sub.rfl, Sub.rfl, trivial⟩) ?_
  refine Al_p Pu_mvr ?_
  refine Al_nil ?_
  refine Aw_ret ?_
  exact Sub.rfl -- ret 0
set_option maxRecDepth 100000 in
theorem wcheck_a (v : Ver) : ACall Tryz.prog 44 [.row v.row] (bv (J.checkB v)) := by
  refine ACall_enter (fun _ _ => by kernel_rfl) Tryz.func44 rfl Tryz.ntmps44 Tryz.results44 (Nat.le_of_ble_eq_true rfl) (fun hok M0 w0 hnl => ?_)
  refine Aw_seq (Aw_region ?_)
  refine Al_p (Pu_boxN rfl rfl) ?_
  refine Al_p Pu_mvr ?_
  refine Al_nil (Aw_seq (Aw_region ?_))
  refine Al_p (Pu_field 0 rfl Tryz.underlying34 rfl rfl Tryz.sizeOf9 rfl) ?_
  refine Al_p (Pu_load1 rfl Tryz.isAgg9 rfl rfl) ?_
  refine Al_p (Pu_call (check_a _) rfl ⟨Sub.rfl, trivial⟩) ?_
  refine Al_p Pu_mvl ?_
  refine Al_st (St_gd [] rfl rfl rfl rfl trivial (fun hg7 => Pu_field 3 rfl Tryz.underlying34 rfl rfl Tryz.sizeOf31 rfl)) rfl (by decide) (by kernel_rfl) (by intro j b oj dj h1 h2 h3; cases h1; cases h2; cases h3; decide) ?_
  refine Al_st (St_gd [7] rfl rfl rfl rfl ⟨⟨_, rfl⟩, trivial⟩ (fun hg8 => Pu_loadN rfl Tryz.isAgg31 Tryz.sizeOf31 rfl (Nat.le_of_ble_eq_true rfl))) rfl (by decide) (by kernel_rfl) (by intro j b oj dj h1 h2 h3; cases h1; cases h2; cases h3; decide) ?_
  refine Al_st (St_gd [8] rfl rfl rfl rfl ⟨⟨_, rfl⟩, trivial⟩ (fun hg9 => Pu_call (stcheck_a _ _) rfl ⟨Sub.rfl, trivial⟩)) rfl (by decide) (by kernel_rfl) (by intro j b oj dj h1 h2 h3; cases h1; cases h2; cases h3; decide) ?_
  refine Al_p (Pu_and rfl rfl rfl rfl) ?_
  refine Al_p Pu_mvl ?_
  refine Al_st (St_gd [] rfl rfl rfl rfl trivial (fun hg12 => Pu_field 5 rfl Tryz.underlying34 rfl rfl Tryz.sizeOf32 rfl)) rfl (by decide) (by kernel_rfl) (by intro j b oj dj h1 h2 h3; cases h1; cases h2; cases h3; decide) ?_
  refine Al_st (St_gd [12] rfl rfl rfl rfl ⟨⟨_, rfl⟩, trivial⟩ (fun hg13 => Pu_load1 rfl Tryz.isAgg32 rfl rfl)) rfl (by decide) (by kernel_rfl) (by intro j b oj dj h1 h2 h3; cases h1; cases h2; cases h3; decide) ?_
  refine Al_st (St_gd [13] rfl rfl rfl rfl ⟨⟨_, rfl⟩, trivial⟩ (fun hg14 => Pu_call (pcheck_a v.past) rfl ⟨Sub.rfl, trivial⟩)) rfl (by decide) (by kernel_rfl) (by intro j b oj dj h1 h2 h3; cases h1; cases h2; cases h3; decide) ?_
  refine Al_p (Pu_and rfl rfl rfl rfl) ?_
  refine Al_p Pu_mvl ?_
  refine Al_st (St_gd [] rfl rfl rfl rfl trivial (fun hg17 => Pu_field 1 rfl Tryz.underlying34 rfl rfl Tryz.sizeOf9 rfl)) rfl (by decide) (by kernel_rfl) (by intro j b oj dj h1 h2 h3; cases h1; cases h2; cases h3; decide) ?_
  refine Al_st (St_gd [17] rfl rfl rfl rfl ⟨⟨_, rfl⟩, trivial⟩ (fun hg18 => Pu_load1 rfl Tryz.isAgg9 rfl rfl)) rfl (by decide) (by kernel_rfl) (by intro j b oj dj h1 h2 h3; cases h1; cases h2; cases h3; decide) ?_
  refine Al_st (St_gd [18] rfl rfl rfl rfl ⟨⟨_, rfl⟩, trivial⟩ (fun hg19 => Pu_lenS rfl Tryz.underlying9 rfl)) rfl (by decide) (by kernel_rfl) (by intro j b oj dj h1 h2 h3; cases h1; cases h2; cases h3; decide) ?_
  refine Al_st (St_gd [19] rfl rfl rfl rfl ⟨⟨_, rfl⟩, trivial⟩ (fun hg20 => Pu_cmp rfl rfl rfl rfl)) rfl (by decide) (by kernel_rfl) (by intro j b oj dj h1 h2 h3; cases h1; cases h2; cases h3; decide) ?_
  refine Al_p (Pu_and rfl rfl rfl rfl) ?_
  refine Al_p Pu_mvl ?_
  refine Al_st (St_gd [] rfl rfl rfl rfl trivial (fun hg23 => Pu_field 2 rfl Tryz.underlying34 rfl rfl Tryz.sizeOf4 rfl)) rfl (by decide) (by kernel_rfl) (by intro j b oj dj h1 h2 h3; cases h1; cases h2; cases h3; decide) ?_
  refine Al_st (St_gd [23] rfl rfl rfl rfl ⟨⟨_, rfl⟩, trivial⟩ (fun hg24 => Pu_load1 rfl Tryz.isAgg4 rfl rfl)) rfl (by decide) (by kernel_rfl) (by intro j b oj dj h1 h2 h3; cases h1; cases h2; cases h3; decide) ?_
  refine Al_st (St_gd [24] rfl rfl rfl rfl ⟨⟨_, rfl⟩, trivial⟩ (fun hg25 => Pu_not rfl rfl)) rfl (by decide) (by kernel_rfl) (by intro j b oj dj h1 h2 h3; cases h1; cases h2; cases h3; decide) ?_
  refine Al_st (St_gd [25] rfl rfl rfl rfl ⟨⟨_, rfl⟩, trivial⟩ (fun hg26 => by exact Pu_move (.inl rfl) (by conv => lhs; whnf))) rfl (by decide) (by kernel_rfl) (by intro j b oj dj h1 h2 h3; cases h1; cases h2; cases h3; decide) ?_
  refine Al_st (St_gd2 [] rfl rfl rfl rfl trivial (fun hp27 hg27 => Pu_field 1 rfl Tryz.underlying34 rfl rfl Tryz.sizeOf9 rfl)) rfl (by decide) (by kernel_rfl) (by intro j b oj dj h1 h2 h3; cases h1; cases h2; cases h3; decide) ?_
  refine Al_st (St_gd2 [27] rfl rfl rfl rfl ⟨⟨_, rfl⟩, trivial⟩ (fun hp28 hg28 => Pu_load1 rfl Tryz.isAgg9 rfl rfl)) rfl (by decide) (by kernel_rfl) (by intro j b oj dj h1 h2 h3; cases h1; cases h2; cases h3; decide) ?_
  refine Al_st (St_gd2 [28] rfl rfl rfl rfl ⟨⟨_, rfl⟩, trivial⟩ (fun hp29 hg29 => Pu_str rfl rfl rfl rfl)) rfl (by decide) (by kernel_rfl) (by intro j b oj dj h1 h2 h3; cases h1; cases h2; cases h3; decide) ?_
  refine Al_st (St_gd [26] rfl rfl rfl rfl ⟨⟨_, rfl⟩, trivial⟩ (fun hg30 => Pu_orG rfl rfl rfl (fun h => ⟨hg30, h⟩) rfl)) rfl (by decide) (by kernel_rfl) (by intro j b oj dj h1 h2 h3; cases h1; cases h2; cases h3; decide) ?_
  refine Al_p (Pu_and rfl rfl rfl rfl) ?_
  refine Al_p Pu_mvr ?_
  refine Al_nil ?_
  refine Aw_ret ?_
  exact Sub.bool (by unfold J.checkB; simp only [Bool.and_assoc]) -- ret 0
set_option maxRecDepth 100000 in
theorem wsame_a (v w : Ver) : ACall Tryz.prog 131 [.row v.row, .row w.row] (bv (decide (v = w))) := by
  refine ACall_enter (fun _ _ => by kernel_rfl) Tryz.func131 rfl Tryz.ntmps131 Tryz.results131 (Nat.le_of_ble_eq_true rfl) (fun hok M0 w0 hnl => ?_)
  refine Aw_seq (Aw_region ?_)
  refine Al_p (Pu_boxN rfl rfl) ?_
  refine Al_p (Pu_boxN rfl rfl) ?_
  refine Al_p Pu_mvr ?_
  refine Al_nil (Aw_seq (Aw_region ?_))
  refine Al_p (Pu_field 0 rfl Tryz.underlying34 rfl rfl Tryz.sizeOf9 rfl) ?_
  refine Al_p (Pu_load1 rfl Tryz.isAgg9 rfl rfl) ?_
  refine Al_p (Pu_field 0 rfl Tryz.underlying34 rfl rfl Tryz.sizeOf9 rfl) ?_
  refine Al_p (Pu_load1 rfl Tryz.isAgg9 rfl rfl) ?_
  refine Al_p (Pu_str rfl rfl rfl rfl) ?_
  refine Al_p Pu_mvl ?_
  refine Al_st (St_gd [] rfl rfl rfl rfl trivial (fun hg11 => Pu_field 1 rfl Tryz.underlying34 rfl rfl Tryz.sizeOf9 rfl)) rfl (by decide) (by kernel_rfl) (by intro j b oj dj h1 h2 h3; cases h1; cases h2; cases h3; decide) ?_
  refine Al_st (St_gd [11] rfl rfl rfl rfl ⟨⟨_, rfl⟩, trivial⟩ (fun hg12 => Pu_load1 rfl Tryz.isAgg9 rfl rfl)) rfl (by decide) (by kernel_rfl) (by intro j b oj dj h1 h2 h3; cases h1; cases h2; cases h3; decide) ?_
  refine Al_st (St_gd [] rfl rfl rfl rfl trivial (fun hg13 => Pu_field 1 rfl Tryz.underlying34 rfl rfl Tryz.sizeOf9 rfl)) rfl (by decide) (by kernel_rfl) (by intro j b oj dj h1 h2 h3; cases h1; cases h2; cases h3; decide) ?_
  refine Al_st (St_gd [13] rfl rfl rfl rfl ⟨⟨_, rfl⟩, trivial⟩ (fun hg14 => Pu_load1 rfl Tryz.isAgg9 rfl rfl)) rfl (by decide) (by kernel_rfl) (by intro j b oj dj h1 h2 h3; cases h1; cases h2; cases h3; decide) ?_
  refine Al_st (St_gd [12, 14] rfl rfl rfl rfl ⟨⟨_, rfl⟩, ⟨_, rfl⟩, trivial⟩ (fun hg15 => Pu_str rfl rfl rfl rfl)) rfl (by decide) (by kernel_rfl) (by intro j b oj dj h1 h2 h3; cases h1; cases h2; cases h3; decide) ?_
  refine Al_p (Pu_and rfl rfl rfl rfl) ?_
  refine Al_p Pu_mvl ?_
  refine Al_st (St_gd [] rfl rfl rfl rfl trivial (fun hg18 => Pu_field 2 rfl Tryz.underlying34 rfl rfl Tryz.sizeOf4 rfl)) rfl (by decide) (by kernel_rfl) (by intro j b oj dj h1 h2 h3; cases h1; cases h2; cases h3; decide) ?_
  refine Al_st (St_gd [18] rfl rfl rfl rfl ⟨⟨_, rfl⟩, trivial⟩ (fun hg19 => Pu_load1 rfl Tryz.isAgg4 rfl rfl)) rfl (by decide) (by kernel_rfl) (by intro j b oj dj h1 h2 h3; cases h1; cases h2; cases h3; decide) ?_
  refine Al_st (St_gd [] rfl rfl rfl rfl trivial (fun hg20 => Pu_field 2 rfl Tryz.underlying34 rfl rfl Tryz.sizeOf4 rfl)) rfl (by decide) (by kernel_rfl) (by intro j b oj dj h1 h2 h3; cases h1; cases h2; cases h3; decide) ?_
  refine Al_st (St_gd [20] rfl rfl rfl rfl ⟨⟨_, rfl⟩, trivial⟩ (fun hg21 => Pu_load1 rfl Tryz.isAgg4 rfl rfl)) rfl (by decide) (by kernel_rfl) (by intro j b oj dj h1 h2 h3; cases h1; cases h2; cases h3; decide) ?_
  refine Al_st (St_gd [19, 21] rfl rfl rfl rfl ⟨⟨_, rfl⟩, ⟨_, rfl⟩, trivial⟩ (fun hg22 => Pu_bool rfl Tryz.underlying4 rfl rfl rfl)) rfl (by decide) (by kernel_rfl) (by intro j b oj dj h1 h2 h3; cases h1; cases h2; cases h3; decide) ?_
  refine Al_p (Pu_and rfl rfl rfl rfl) ?_
  refine Al_p Pu_mvl ?_
  refine Al_st (St_gd [] rfl rfl rfl rfl trivial (fun hg25 => Pu_field 3 rfl Tryz.underlying34 rfl rfl Tryz.sizeOf31 rfl)) rfl (by decide) (by kernel_rfl) (by intro j b oj dj h1 h2 h3; cases h1; cases h2; cases h3; decide) ?_
  refine Al_st (St_gd [25] rfl rfl rfl rfl ⟨⟨_, rfl⟩, trivial⟩ (fun hg26 => Pu_loadN rfl Tryz.isAgg31 Tryz.sizeOf31 rfl (Nat.le_of_ble_eq_true rfl))) rfl (by decide) (by kernel_rfl) (by intro j b oj dj h1 h2 h3; cases h1; cases h2; cases h3; decide) ?_
  refine Al_st (St_gd [] rfl rfl rfl rfl trivial (fun hg27 => Pu_field 3 rfl Tryz.underlying34 rfl rfl Tryz.sizeOf31 rfl)) rfl (by decide) (by kernel_rfl) (by intro j b oj dj h1 h2 h3; cases h1; cases h2; cases h3; decide) ?_
  refine Al_st (St_gd [27] rfl rfl rfl rfl ⟨⟨_, rfl⟩, trivial⟩ (fun hg28 => Pu_loadN rfl Tryz.isAgg31 Tryz.sizeOf31 rfl (Nat.le_of_ble_eq_true rfl))) rfl (by decide) (by kernel_rfl) (by intro j b oj dj h1 h2 h3; cases h1; cases h2; cases h3; decide) ?_
  refine Al_st (St_gd [26, 28] rfl rfl rfl rfl ⟨⟨_, rfl⟩, ⟨_, rfl⟩, trivial⟩ (fun hg29 => Pu_eqrow [.int .i64 _, .int .i64 _] [.int .i64 _, .int .i64 _] (fun w => eqv31 _ _ _ _ _ _ w) rfl rfl rfl)) rfl (by decide) (by kernel_rfl) (by intro j b oj dj h1 h2 h3; cases h1; cases h2; cases h3; decide) ?_
  refine Al_p (Pu_and rfl rfl rfl rfl) ?_
  refine Al_p Pu_mvl ?_
  refine Al_st (St_gd [] rfl rfl rfl rfl trivial (fun hg32 => Pu_field 5 rfl Tryz.underlying34 rfl rfl Tryz.sizeOf32 rfl)) rfl (by decide) (by kernel_rfl) (by intro j b oj dj h1 h2 h3; cases h1; cases h2; cases h3; decide) ?_
  refine Al_st (St_gd [32] rfl rfl rfl rfl ⟨⟨_, rfl⟩, trivial⟩ (fun hg33 => Pu_load1 rfl Tryz.isAgg32 rfl rfl)) rfl (by decide) (by kernel_rfl) (by intro j b oj dj h1 h2 h3; cases h1; cases h2; cases h3; decide) ?_
  refine Al_st (St_gd [] rfl rfl rfl rfl trivial (fun hg34 => Pu_field 5 rfl Tryz.underlying34 rfl rfl Tryz.sizeOf32 rfl)) rfl (by decide) (by kernel_rfl) (by intro j b oj dj h1 h2 h3; cases h1; cases h2; cases h3; decide) ?_
  refine Al_st (St_gd [34] rfl rfl rfl rfl ⟨⟨_, rfl⟩, trivial⟩ (fun hg35 => Pu_load1 rfl Tryz.isAgg32 rfl rfl)) rfl (by decide) (by kernel_rfl) (by intro j b oj dj h1 h2 h3; cases h1; cases h2; cases h3; decide) ?_
  refine Al_st (St_gd [33, 35] rfl rfl rfl rfl ⟨⟨_, rfl⟩, ⟨_, rfl⟩, trivial⟩ (fun hg36 => Pu_call (psame_a v.past w.past) rfl ⟨Sub.rfl, Sub.rfl, trivial⟩)) rfl (by decide) (by kernel_rfl) (by intro j b oj dj h1 h2 h3; cases h1; cases h2; cases h3; decide) ?_
  refine Al_p (Pu_and rfl rfl rfl rfl) ?_
  refine Al_p Pu_mvr ?_
  refine Al_nil ?_
  refine Aw_ret ?_
  exact Sub.bool (by rw [← J.ver_eq]; simp only [Bool.and_assoc]) -- ret 0
end Go.Proofs.YtmbaeloiepjakaaGreat
end

section
namespace Go.Proofs.YtmbaeloiepjakaaGreat
open Go.RowKit R
structure Rng where
  f : ByteArray
  t : ByteArray
instance : GoT Rng where
  n := 2
  pos := by decide
  rep _ _ cs r := cs = [.string r.f, .string r.t] ∧ r.f.size ≤ 9223372036854775807 ∧ r.t.size ≤ 9223372036854775807
  len h := by rw [h.1]; rfl
  one h c hc := by rw [h.1] at hc; simp at hc; rcases hc with rfl | rfl <;> rfl
  mono _ h := h
/-- The two cells of a range in a slice. -/
theorem rng_cells {K : Blocks} {w : World} {a : Option Addr} {len cap : Nat} {l : List Rng} (h : Sl K w (.slice a len cap) l) :
    len = l.length ∧ ∀ (i : Nat) (x : Rng), l[i]? = some x → ∃ b o, a = some ⟨b, o, none⟩ ∧ K b ∧ x.f.size ≤ 9223372036854775807 ∧ x.t.size ≤ 9223372036854775807 ∧ w.cell? ⟨b, o + i * 2, none⟩ = some (.string x.f) ∧ w.cell? ⟨b, o + i * 2 + 1, none⟩ = some (.string x.t) := by
  obtain ⟨hl, h⟩ := h.get
  refine ⟨hl, fun i x hx => ?_⟩
  obtain ⟨b, o, cs, ha, hb, ⟨rfl, h1, h2⟩, hat⟩ := h i x hx
  exact ⟨b, o, ha, hb, h1, h2, hat 0 _ rfl, hat 1 _ rfl⟩
end Go.Proofs.YtmbaeloiepjakaaGreat
namespace Go.Proofs.YtmbaeloiepjakaaGreat
open Go.RowKit R
/-- the first place of which p is true -/
def idxF {α : Type} (p : α → Bool) (l : List α) : Int := match l.findIdx? p with | some i => i | none => -1
def NoneTo {α : Type} (p : α → Bool) (l : List α) (k : Nat) : Prop := ∀ (i : Nat) (x : α), i < k → l[i]? = some x → p x = false
theorem NoneTo.zero {α : Type} (p : α → Bool) (l : List α) : NoneTo p l 0 := fun i x h => by omega
theorem NoneTo.next {α : Type} {p : α → Bool} {l : List α} {k : Nat} (h : NoneTo p l k) {x : α} (hx : l[k]? = some x) (hp : p x = false) : NoneTo p l (k + 1) := fun i y hi hy => by
  by_cases e : i = k
  · subst e; rw [hx] at hy; cases hy; exact hp
  · exact h i y (by omega) hy
theorem NoneTo.found {α : Type} {p : α → Bool} {l : List α} {k : Nat} (h : NoneTo p l k) {x : α} (hx : l[k]? = some x) (hp : p x = true) : idxF p l = k := by
  have hlt : k < l.length := (List.getElem?_eq_some_iff.1 hx).1
  have : l.findIdx? p = some k := by
    rw [List.findIdx?_eq_some_iff_getElem]
    refine ⟨hlt, ?_, fun j hj => ?_⟩
    · have := (List.getElem?_eq_some_iff.1 hx).2; rw [this]; exact hp
    · rw [h j _ hj (List.getElem?_eq_getElem (by omega))]; simp
  unfold idxF; rw [this]
theorem NoneTo.all {α : Type} {p : α → Bool} {l : List α} (h : NoneTo p l l.length) : idxF p l = -1 := by
  have : l.findIdx? p = none := by
    rw [List.findIdx?_eq_none_iff]
    intro x hx
    obtain ⟨i, hi, rfl⟩ := List.getElem_of_mem hx
    exact h i _ hi (List.getElem?_eq_getElem hi)
  unfold idxF; rw [this]
set_option maxHeartbeats 1000000 in
theorem indexR_any (v : Value) (l : List Rng) (K : Blocks) (w : World) (h : Sl K w v l) (F : Nat) (caps : Array Value) (hF : ∀ (args : Array Value) (wy : World), (callFunc F args).run Tryz.prog wy = .ok (.enter F args) wy) (p : Rng → Bool)
    (hp : ∀ (x : Rng) (wy : World), x ∈ l → Ev.Ext w wy → Calls Tryz.prog F (#[.agg #[.string x.f, .string x.t]] ++ caps) wy fun e w' => e = .returned (.bool (p x)) ∧ Ev.Ext wy w') :
    Calls Tryz.prog 102 #[v, .func (.func F) #[] caps] w fun e w' => e = .returned (.int .i64 (idxF p l)) ∧ Ev.Ext w w' := by
  obtain ⟨a, cap, rfl⟩ := h.form
  have hlen := h.len_le
  have HP := Lib.hid hp
  clear hp
  go_enter Tryz.func102, Tryz.ntmps102
  go_wp2_with fail
  go_loopw [4, 8] (fun r i wr => ∃ (k : Nat), r = .int .i64 0 ∧ i = .int .i64 k ∧ k ≤ l.length ∧ Ev.Ext w wr ∧ NoneTo p l k) (fun _ i _ => l.length - (intOf i).toNat)
  case atStart => exact ⟨0, rfl, rfl, by omega, Ev.Ext.refl _, NoneTo.zero p l⟩
  case round =>
    obtain ⟨k, rfl, rfl, hk, hext, hno⟩ := hrel
    by_cases h1 : k < l.length
    · have hx : l[k]? = some l[k] := by simp [h1]
      obtain ⟨b, o, rfl, hKb, hs0, hs1, c0, c1⟩ := (rng_cells h).2 k l[k] hx
      have c0 := cell_later hext c0
      have c1 := cell_later hext c1
      have hc := HP.out l[k] wr (List.getElem_mem h1) hext
      cases hpx : p l[k]
      · rw [hpx] at hc
        have HX := Lib.hid hx
        have HX2 := Lib.hid hpx
        clear hx hpx
        go_wp2_with fail
        refine hc.mono ?_; rintro e w3 ⟨rfl, hb3⟩
        clear hc
        go_wp2
        go_roundw
        case rel => exact ⟨k + 1, rfl, by go_num, by omega, hext.trans hb3, hno.next HX.out HX2.out⟩
        case measure => simp [intOf]; omega
      · rw [hpx] at hc
        have HX := Lib.hid hx
        have HX2 := Lib.hid hpx
        clear hx hpx
        go_wp2_with fail
        refine hc.mono ?_; rintro e w3 ⟨rfl, hb3⟩
        clear hc
        go_wp2
        go_ret
        rw [hno.found HX.out HX2.out]
        exact ⟨rfl, hext.trans hb3⟩
    · obtain rfl : k = l.length := by omega
      go_wp2
      go_ret
      rw [hno.all]
      exact ⟨rfl, hext⟩
def findR (l : List Rng) (key : ByteArray) : Int := idxF (fun r => K.hasB r.f r.t key) l
set_option maxHeartbeats 1000000 in
theorem find1_any (x : Rng) (key : ByteArray) (b : Nat) (w : World) (hk : w.cell? ⟨b, 0, none⟩ = some (.string key)) :
    Calls Tryz.prog 103 #[.agg #[.string x.f, .string x.t], .pointer (some ⟨b, 0, none⟩)] w fun e w' => e = .returned (.bool (K.hasB x.f x.t key)) ∧ Ev.Ext w w' := by
  go_enter Tryz.func103, Tryz.ntmps103
  have hb := World.block_lt_of_cell? w _ hk
  have hk2 : (w.alloc (.cells #[.string x.f, .string x.t] 49)).cell? ⟨b, 0, none⟩ = some (.string key) := cell_later ((Below.refl _ _).alloc (Nat.le_refl _) _) hk
  go_wp2_with (go_at_call 104; refine (has_any _ _ _ _).mono ?_; rintro e w3 ⟨rfl, hb3⟩)
  go_ret
  exact ⟨rfl, below_box hb3⟩
set_option maxHeartbeats 1000000 in
theorem find_any (v : Value) (l : List Rng) (key : ByteArray) (Kb : Blocks) (w : World) (h : Sl Kb w v l) :
    Calls Tryz.prog 79 #[v, .string key] w fun e w' => e = .returned (.int .i64 (findR l key)) ∧ Ev.Ext w w' := by
  have he : Ev.Ext w (w.alloc (.cells #[.string key] 9)) := (Below.refl _ _).alloc (Nat.le_refl _) _
  go_enter Tryz.func79, Tryz.ntmps79
  go_wp2_with fail
  refine (indexR_any v l Kb _ (h.ext he) 103 #[.pointer (some ⟨w.heap.size, 0, none⟩)] (fun _ _ => by kernel_rfl) (fun r => K.hasB r.f r.t key) (fun x wy _ hy => find1_any x key _ wy (cell_later (v := .string key) hy (by simp)))).mono ?_
  rintro e w3 ⟨rfl, hb3⟩
  go_wp2
  go_ret
  exact ⟨rfl, he.trans hb3⟩
end Go.Proofs.YtmbaeloiepjakaaGreat
namespace Go.Proofs.YtmbaeloiepjakaaGreat
open Go.RowKit R
def wholeF : ByteArray → Bool → List Rng → Bool
  | at', _, [] => at'.toList.isEmpty
  | at', fst, r :: l => K.goodB r.f r.t && (r.f.toList == at'.toList && ((fst || !at'.toList.isEmpty) && wholeF r.t false l))
def whole (l : List Rng) : Bool := !l.isEmpty && wholeF ⟨#[]⟩ true l
/-- where Whole's loop stands -/
def WhAt (l : List Rng) (k : Nat) (at' : ByteArray) : Prop := whole l = (!l.isEmpty && wholeF at' (k == 0) (l.drop k))
theorem WhAt.start (l : List Rng) : WhAt l 0 ⟨#[]⟩ := rfl
theorem WhAt.step {l : List Rng} {k : Nat} {at' : ByteArray} (h : WhAt l k at') (hk : k < l.length) :
    whole l = (K.goodB l[k].f l[k].t && (l[k].f.toList == at'.toList && (((k == 0) || !at'.toList.isEmpty) && (!l.isEmpty && wholeF l[k].t false (l.drop (k + 1)))))) := by
  unfold WhAt at h
  rw [h, List.drop_eq_getElem_cons hk, wholeF]
  cases l.isEmpty <;> cases K.goodB l[k].f l[k].t <;> cases (l[k].f.toList == at'.toList) <;> simp
theorem WhAt.next {l : List Rng} {k : Nat} {at' : ByteArray} (h : WhAt l k at') (hk : k < l.length) (hg : K.goodB l[k].f l[k].t = true) (he : (l[k].f.toList == at'.toList) = true) (hf : ((k == 0) || !at'.toList.isEmpty) = true) : WhAt l (k + 1) l[k].t := by
  have := h.step hk
  rw [hg, he, hf] at this
  simpa [WhAt] using this
theorem WhAt.no {l : List Rng} {k : Nat} {at' : ByteArray} (h : WhAt l k at') (hk : k < l.length) (hg : K.goodB l[k].f l[k].t = false ∨ (l[k].f.toList == at'.toList) = false ∨ ((k == 0) || !at'.toList.isEmpty) = false) : whole l = false := by
  have := h.step hk
  rcases hg with hg | hg | hg <;> rw [hg] at this <;> simpa using this
theorem WhAt.done {l : List Rng} {at' : ByteArray} (h : WhAt l l.length at') : whole l = (!l.isEmpty && at'.toList.isEmpty) := by
  unfold WhAt at h
  rw [h, List.drop_length, wholeF]
end Go.Proofs.YtmbaeloiepjakaaGreat
end

section
namespace Go.Proofs.YtmbaeloiepjakaaGreat
open Go.RowKit A
def Rng.row (r : Rng) : List AV := [tv r.f, tv r.t]
structure SRow where
  ranges : List Rng
  owners : List Int
  parents : List Int
def SRow.row (c : SRow) : List AV := [.sl 2 (c.ranges.map Rng.row), .sl 1 (c.owners.map fun x => [iv x]), .sl 1 (c.parents.map fun x => [iv x])]
structure SOp where
  kind : Int
  client : Int
  site : Int
  to' : Int
  at' : Int
  how : Int
  key : ByteArray
  value : ByteArray
  keys : List ByteArray
  c : SRow
def SOp.row (o : SOp) : List AV := [iv o.kind, iv o.client, iv o.site, iv o.to', iv o.at', iv o.how, tv o.key, tv o.value, .sl 1 (o.keys.map fun s => [tv s]), .sl 2 (o.c.ranges.map Rng.row), .sl 1 (o.c.owners.map fun x => [iv x]), .sl 1 (o.c.parents.map fun x => [iv x])]
theorem ext_self (s : ByteArray) (n : Nat) (h : s.size ≤ n) : s.extract 0 n = s := by
  apply ByteArray.ext; rw [ByteArray.data_extract]; exact Array.extract_eq_self_of_le h
namespace S
def short (s : ByteArray) : ByteArray := s.extract 0 40
def empty (c : SRow) : Bool := decide (c.ranges.length + c.owners.length + c.parents.length = 0)
def numbers (o : SOp) : List Int := [o.kind, o.client, o.site, o.to', o.at', o.how]
end S
/-- The first place of which p is true; -1: there is none. -/
def S.find {α : Type} (p : α → Bool) (l : List α) : Int := if l.any p then (l.findIdx p : Int) else -1
theorem S.find_at {α : Type} {p : α → Bool} {l : List α} {k : Nat} (hk : k < l.length) (h : p l[k] = true) (hb : ∀ j (h : j < l.length), j < k → p l[j] = false) : (k : Int) = S.find p l := by
  unfold S.find
  rw [if_pos (List.any_eq_true.2 ⟨_, List.getElem_mem hk, h⟩)]
  have e : l.findIdx p = k := by
    rw [List.findIdx_eq hk]
    exact ⟨h, fun j hj => hb j (by omega) hj⟩
  rw [e]
theorem S.find_no {α : Type} {p : α → Bool} {l : List α} (hb : ∀ j (h : j < l.length), j < l.length → p l[j] = false) : (-1 : Int) = S.find p l := by
  unfold S.find
  rw [if_neg]
  intro h
  obtain ⟨x, hx, hp⟩ := List.any_eq_true.1 h
  obtain ⟨i, hi, rfl⟩ := List.getElem_of_mem hx
  rw [hb i hi hi] at hp; cases hp
theorem S.find_any {α : Type} {p : α → Bool} {l : List α} : decide (0 ≤ S.find p l) = l.any p := by
  unfold S.find
  cases h : l.any p
  · simp
  · simp
end Go.Proofs.YtmbaeloiepjakaaGreat
end

section
namespace Go.Proofs.YtmbaeloiepjakaaGreat.A
open Go Go.RowKit
section
variable {P : Program} {N : Nat} {M0 : Nat → Prop} {w0 : Base} {ops : Array Oper} {Q : Exit → ASt → Prop} {o : Oper} {l : List Oper} {st : ASt}
/-- The end of a row of the call's own is cleared; nothing is yielded. -/
theorem Al_clear0 {k g n lo h : Nat} {x : Operand} {t e T : TypeId} {z : Value} {zs : List AV} {rows : List (List AV)} (ho : o.op = .call ⟨.builtin .clear, #[x], #[t]⟩) (hg : o.guard = none) (hd : o.dst = none) (hc : conB o = true) (ht : P.underlying t = some (.slice e)) (hz : ∀ w, (zeroValue e).run P w = .ok z w) (hzn : z.cells.size = n) (hn : 0 < n)
    (hzs : z.cells.toList.map AV.v = zs) (hv : z.cells.toList.all (fun z => decide (vok z)) = true) (hx : st.ev x = .ows k g n lo h) (hob : st.ob k = some (g, .arr T n rows)) (hh : h = rows.length)
    (hr : Al P N M0 w0 ops Q l (st.put k g (.arr T n (rows.take lo ++ List.replicate (h - lo) zs)))) : Al P N M0 w0 ops Q (o :: l) st := by
  refine ⟨?_⟩
  rintro a w ⟨ρ, hsim⟩
  have h1 := hsim.ev hc x (mem_call ho x (by simp))
  rw [hx] at h1
  obtain ⟨ad, len, cp, a', k1, k2, k3, k4, k5⟩ := h1
  obtain ⟨u, hu, hO⟩ := hsim.obj k g _ hob
  rw [k1] at hu; cases hu
  subst hh
  have fin : ∀ w', SimR N M0 w0 (st.put k g (.arr T n (rows.take lo ++ List.replicate (rows.length - lo) zs))) ρ a w' → (execOp a.eval o).run P w = .ok (.value (.tuple #[])) w' → wpList P ops (QL N M0 w0 Q) (o :: l) a w := fun w' hs e => by
    refine wpList_plain hg fun K hK => wp_upon ?_
    rw [e]
    refine hK _ _ (hr.out _ _ ⟨ρ, ?_⟩)
    rw [hd]
    exact hs
  by_cases hlt : lo < rows.length
  · obtain ⟨b, rfl, rfl⟩ := k5 hlt
    obtain ⟨cap, cur, vals, he, hgb, hnc, hcp, hsz, htk, hrw, hl, hlb⟩ := arr_at hO (b := b) rfl
    have hcc : cap = cp := by cases he; rfl
    subst hcc
    cases he
    have hun := unif_rows hrw
    have hfr := flat_lenA hun
    have hzl : zs.length = n := by rw [← hzs]; simp [hzn]
    have hrl : (List.replicate (rows.length - lo) zs).flatten.length = (rows.length - lo) * n := by simp [hzl]
    have hul : (List.replicate (rows.length - lo) z.cells.toList).flatten.length = (rows.length - lo) * n := by simp [hzn]
    have hlen : (rows.take lo ++ List.replicate (rows.length - lo) zs).length = rows.length := by simp; omega
    have e1 : lo * n + (rows.length - lo) * n = rows.length * n := by rw [← Nat.add_mul]; congr 1; omega
    have e2 : rows.length * n ≤ cap * n := Nat.mul_le_mul_right _ hnc
    obtain ⟨w', vs', q1, q2, q3, q4, q5, q6, q7⟩ := splice_core (P := P) (rows.take lo ++ List.replicate (rows.length - lo) zs) hgb hsz htk hrw (zero_cells hzs hv (rows.length - lo)) (off := lo * n) (by omega) (by rw [hul]; omega) (by rw [hlen]; exact hnc)
      (fun q hq => by
        rcases List.mem_append.1 hq with hq | hq
        · exact hun q (List.mem_of_mem_take hq)
        · rw [List.eq_of_mem_replicate hq]; exact hzl)
      (by rw [List.flatten_append, flat_take hun, hrl, List.drop_eq_nil_of_le (by omega), List.append_nil])
    refine fin w' (hsim.mod (w' := w') hob k1 q6 (by omega) (fun c' hc' hne => q4 c' (fun e => hne (by simp [blk, e]))) (fun M' hK _ => by
      obtain ⟨vals', hv1, hv2⟩ := q7 M' hK
      exact ⟨vals', ⟨by have h9 : vs'.toList.length = cap * n := (Array.length_toList ..).trans q3; rw [hv1, List.length_take, hlen, h9]; omega, .inr ⟨b, cap, vs', by rw [hlen], Nat.zero_le _, q2, by rw [hlen]; exact hnc, hcp, q3, hv1.symm⟩⟩, hv2, ⟨_, cap, by rw [hlen]⟩, by rw [hlen]; exact hl, fun c' hc' => by simp only [blk, Option.some.injEq] at hc'; subst hc'; exact hlb⟩)) ?_
    have hne : rows.length - lo ≠ 0 := by omega
    rw [← zeroCells_list z.cells _ (by omega)] at q1
    simp only [execOp, ho, resolve, invoke, builtin, Sem.run_bind, Sem.run_pure, Result.andThen_ok, List.map_toArray, List.map_cons, List.map_nil, k2, Builtin.clear_]
    simp [run_underlying ht, hz, hne, q1, Result.andThen]
  · have hll : rows.length - lo = 0 := by omega
    refine fin w (hsim.mod (w' := w) hob k1 ⟨rfl, rfl, rfl⟩ (Nat.le_refl _) (fun _ _ _ => rfl) (fun M' hK _ => ?_)) ?_
    · rw [hll, List.replicate_zero, List.append_nil, List.take_of_length_le (by omega)]
      exact hO.mono hK fun _ _ => rfl
    · simp only [execOp, ho, resolve, invoke, builtin, Sem.run_bind, Sem.run_pure, Result.andThen_ok, List.map_toArray, List.map_cons, List.map_nil, k2, hll, Builtin.clear_]
      cases a' <;> simp [run_underlying ht, Result.andThen]
end
end Go.Proofs.YtmbaeloiepjakaaGreat.A
namespace Go.Proofs.YtmbaeloiepjakaaGreat
open Go.RowKit A
namespace S
theorem find_neg {α : Type} {p : α → Bool} {l : List α} (h : S.find p l = -1) : (l.filter fun x => !p x) = l := by
  unfold S.find at h
  split at h
  · omega
  · rename_i hn
    rw [List.filter_eq_self]
    intro x hx
    cases hp : p x with
    | false => rfl
    | true => exact (hn (List.any_eq_true.2 ⟨x, hx, hp⟩)).elim
theorem find_pos {α : Type} {p : α → Bool} {l : List α} (h : ¬ S.find p l = -1) : ∃ i, ∃ hi : i < l.length, S.find p l = (i : Int) ∧ p l[i] = true ∧ ∀ j (hj : j < l.length), j < i → p l[j] = false := by
  unfold S.find at h ⊢
  split at h
  · rename_i hy
    rw [if_pos hy]
    obtain ⟨x, hx, hp⟩ := List.any_eq_true.1 hy
    have hlt : l.findIdx p < l.length := List.findIdx_lt_length_of_exists ⟨x, hx, hp⟩
    exact ⟨l.findIdx p, hlt, rfl, List.findIdx_getElem, fun j hj hji => by simpa using List.not_of_lt_findIdx hji⟩
  · exact (h rfl).elim
theorem filter_first {α : Type} {p : α → Bool} {l : List α} {i : Nat} (hi : i < l.length) (hp : p l[i] = true) (hb : ∀ j (hj : j < l.length), j < i → p l[j] = false) : l.take i = (l.take (i + 1)).filter (fun x => !p x) := by
  rw [List.take_succ_eq_append_getElem hi, List.filter_append, List.filter_cons, hp]
  have : (l.take i).filter (fun x => !p x) = l.take i := by
    rw [List.filter_eq_self]
    intro x hx
    obtain ⟨j, hj, rfl⟩ := List.getElem_of_mem hx
    rw [List.length_take] at hj
    rw [List.getElem_take, hb j (by omega) (by omega)]; rfl
  rw [this]; simp
theorem drop_at {α : Type} [Inhabited α] {c l : List α} {j : Nat} (h : c.drop j = l.drop j) (hj : j < l.length) (hc : j < c.length) : c.getD j default = l[j] := by
  have h1 : (c.drop j)[0]? = (l.drop j)[0]? := by rw [h]
  rw [List.getElem?_drop, List.getElem?_drop, Nat.add_zero, List.getElem?_eq_getElem hj] at h1
  rw [List.getD_eq_getElem?_getD, h1]; rfl
theorem map_getD {α β : Type} [Inhabited α] {f : α → β} {c : List α} {j : Nat} (hj : j < c.length) : (c.map f)[j]'(by simpa using hj) = f (c.getD j default) := by simp [hj]
theorem row_at {rows : List (List AV)} {n j : Nat} (hu : ∀ r ∈ rows, r.length = n) (hj : j < rows.length) : (rows.flatten.drop (j * n)).take n = rows[j] := by
  rw [← flat_drop hu, List.drop_eq_getElem_cons hj, List.flatten_cons, List.take_append_of_le_length (by rw [hu _ (List.getElem_mem hj)]; exact Nat.le_refl _), List.take_of_length_le (by rw [hu _ (List.getElem_mem hj)]; exact Nat.le_refl _)]
theorem flat_set {rows : List (List AV)} {n i : Nat} {x : List AV} (hu : ∀ r ∈ rows, r.length = n) (hi : i < rows.length) (hx : x.length = n) : (rows.set i x).flatten = rows.flatten.take (i * n) ++ x ++ rows.flatten.drop (i * n + n) := by
  have h2 : i * n + n = (i + 1) * n := by rw [Nat.add_mul, Nat.one_mul]
  rw [h2, ← flat_take hu, ← flat_drop hu, List.set_eq_take_append_cons_drop, if_pos hi]
  simp
theorem del_keep {α : Type} {p : α → Bool} {c l : List α} {i j : Nat} (hj : j < l.length) (h : c.take i = (l.take j).filter fun x => !p x) (hp : p l[j] = false) (hi : i < c.length) : (c.set i l[j]).take (i + 1) = (l.take (j + 1)).filter fun x => !p x := by
  rw [List.take_succ_eq_append_getElem hj, List.filter_append, List.filter_cons, hp, ← h]
  rw [List.take_succ_eq_append_getElem (by simpa using hi), List.take_set_of_le (Nat.le_refl i)]
  simp
theorem del_drop {α : Type} {p : α → Bool} {c l : List α} {i j : Nat} (hj : j < l.length) (h : c.take i = (l.take j).filter fun x => !p x) (hp : p l[j] = true) : c.take i = (l.take (j + 1)).filter fun x => !p x := by
  rw [List.take_succ_eq_append_getElem hj, List.filter_append, List.filter_cons, hp, ← h]
  simp
end S
end Go.Proofs.YtmbaeloiepjakaaGreat
end

section
set_option maxRecDepth 100000
namespace Go.Proofs.YtmbaeloiepjakaaGreat
open Go.RowKit A R
open A.RowT
set_option maxRecDepth 100000 in
theorem cloneV_g (l : List Ver) (hl : l.length ≤ 1000000) : GCall Tryz.prog 97 [.d (.sl 6 (l.map Ver.row))] [] (some ([(1001, .arr 34 6 (l.map Ver.row))], .ow 1001 0)) := by
  refine GCall_enter (fun _ _ => by kernel_rfl) Tryz.func97 rfl Tryz.ntmps97 (ReadsS.r1 Tryz.results97) (Nat.le_of_ble_eq_true rfl) (fun hok hokB M0 w0 => ?_)
  refine Aw_seq (Aw_region ?_)
  refine Al_p Pu_mvr ?_
  refine Al_nil (Aw_seq (Aw_seq (Aw_region ?_)))
  refine Al_p Pu_mvl ?_
  refine Al_eqnil rfl rfl rfl (by decide) (by kernel_rfl) Tryz.underlying65 rfl (fun nl hnl => ?_)
  refine Al_nil ?_
  refine Aw_cond rfl (fun h4 => ?_) (fun h4 => ?_)
  · (try simp only [decide_eq_true_eq, decide_eq_false_iff_not, Bool.and_eq_true, Bool.or_eq_true, Bool.and_eq_false_iff, Bool.or_eq_false_iff, Bool.not_eq_true', Bool.not_eq_false', beq_iff_eq, Bool.not_eq_eq_eq_not, Bool.not_true, Bool.not_false, List.length_map, Bool.and_true, Bool.and_false, Bool.false_and, Bool.true_and, Bool.or_false, Bool.false_or] at h4)
    refine Aw_seq (Aw_region ?_)
    refine Al_p Pu_mvr ?_
    refine Al_nil ?_
    obtain rfl : l = [] := by simpa using hnl h4
    refine Aw_own (j := 2) (k := 2) (T := 34) (n := 6) rfl (fun g => ?_)
    refine Aw_ret ?_
    exact ⟨_, _, [(1001, 2, g)], rfl, Sub.rfl, ⟨rfl, trivial⟩, rfl⟩ -- ret 0
  · (try simp only [decide_eq_true_eq, decide_eq_false_iff_not, Bool.and_eq_true, Bool.or_eq_true, Bool.and_eq_false_iff, Bool.or_eq_false_iff, Bool.not_eq_true', Bool.not_eq_false', beq_iff_eq, Bool.not_eq_eq_eq_not, Bool.not_true, Bool.not_false, List.length_map, Bool.and_true, Bool.and_false, Bool.false_and, Bool.true_and, Bool.or_false, Bool.false_or] at h4)
    refine Aw_skip (Aw_seq (Aw_region ?_))
    refine Al_slice0 rfl rfl rfl (by decide) Tryz.underlying65 Tryz.sizeOf34 (fun g5 => ?_)
    refine Al_p Pu_mvl ?_
    refine Al_append rfl rfl rfl (by decide) (by kernel_rfl) elem65 (by decide) Tryz.sizeOf34 rfl rfl rfl (by simp; omega) (by decide) (fun g7 => ?_)
    refine Al_p Pu_mvr ?_
    refine Al_nil ?_
    refine Aw_ret ?_
    exact ⟨_, _, [(1001, 5, g7)], rfl, Sub.rfl, ⟨rfl, trivial⟩, rfl⟩ -- ret 1
set_option maxRecDepth 100000 in
set_option maxHeartbeats 1000000 in
theorem insertV_g (l : List Ver) (x : Ver) (i : Nat) (hi : i ≤ l.length) (hl : l.length ≤ 1000000) : GCall Tryz.prog 128 [.ow 1001 0, .d (iv i), .ow 1002 0] [(1001, .arr 34 6 (l.map Ver.row)), (1002, .arr 34 6 [Ver.row x])] (some ([(1003, .arr 34 6 ((l.take i ++ x :: l.drop i).map Ver.row))], .ow 1003 0)) := by
  refine GCall_enter (fun _ _ => by kernel_rfl) Tryz.func128 rfl Tryz.ntmps128 (ReadsS.r1 Tryz.results128) (Nat.le_of_ble_eq_true rfl) (fun hok hokB M0 w0 => ?_)
  have hlm : (l.map Ver.row).length = l.length := List.length_map ..
  have hres : (l.take i ++ x :: l.drop i).map Ver.row = (l.map Ver.row).take i ++ Ver.row x :: (l.map Ver.row).drop i := by simp
  rw [hres]
  generalize l.map Ver.row = L at *
  refine Aw_seq (Aw_region ?_)
  refine Al_p Pu_mvr ?_
  refine Al_nil (Aw_seq (Aw_region ?_))
  refine Al_p Pu_mvl ?_
  refine Al_p Pu_mvl ?_
  refine Al_p (Pu_sliceOw i L.length rfl Tryz.underlying65 Tryz.sizeOf34 rfl rfl ⟨_, rfl, rfl⟩ rfl ⟨by omega, .inl (by omega)⟩) ?_
  refine Al_nil (Aw_seq (Aw_region ?_))
  refine Al_p Pu_mvl ?_
  refine Al_p (Pu_lenOw (m := 1) rfl Tryz.underlying65 rfl rfl rfl) ?_
  refine Al_p Pu_mvr ?_
  refine Al_nil (Aw_seq (Aw_seq (Aw_region ?_)))
  refine Al_p Pu_mvl ?_
  refine Al_p (Pu_cmp rfl rfl rfl rfl) ?_
  refine Al_nil ?_
  refine Aw_cond rfl (fun h16 => ?_) (fun h16 => ?_)
  · (try simp only [decide_eq_true_eq, decide_eq_false_iff_not, Bool.and_eq_true, Bool.or_eq_true, Bool.and_eq_false_iff, Bool.or_eq_false_iff, Bool.not_eq_true', Bool.not_eq_false', beq_iff_eq, Bool.not_eq_eq_eq_not, Bool.not_true, Bool.not_false, List.length_map, Bool.and_true, Bool.and_false, Bool.false_and, Bool.true_and, Bool.or_false, Bool.false_or] at h16)
    exfalso; revert h16; decide
  · (try simp only [decide_eq_true_eq, decide_eq_false_iff_not, Bool.and_eq_true, Bool.or_eq_true, Bool.and_eq_false_iff, Bool.or_eq_false_iff, Bool.not_eq_true', Bool.not_eq_false', beq_iff_eq, Bool.not_eq_eq_eq_not, Bool.not_true, Bool.not_false, List.length_map, Bool.and_true, Bool.and_false, Bool.false_and, Bool.true_and, Bool.or_false, Bool.false_or] at h16)
    refine Aw_skip (Aw_seq (Aw_region ?_))
    refine Al_p Pu_mvl ?_
    refine Al_p (Pu_lenOw rfl Tryz.underlying65 rfl rfl rfl) ?_
    refine Al_p Pu_mvr ?_
    refine Al_nil (Aw_seq (Aw_seq (Aw_region ?_)))
    refine Al_p Pu_mvl ?_
    refine Al_p Pu_mvl ?_
    refine Al_p (Pu_cmp rfl rfl rfl rfl) ?_
    refine Al_nil ?_
    refine Aw_cond rfl (fun h22 => ?_) (fun h22 => ?_)
    · (try simp only [decide_eq_true_eq, decide_eq_false_iff_not, Bool.and_eq_true, Bool.or_eq_true, Bool.and_eq_false_iff, Bool.or_eq_false_iff, Bool.not_eq_true', Bool.not_eq_false', beq_iff_eq, Bool.not_eq_eq_eq_not, Bool.not_true, Bool.not_false, List.length_map, Bool.and_true, Bool.and_false, Bool.false_and, Bool.true_and, Bool.or_false, Bool.false_or] at h22)
      refine Aw_seq (Aw_region ?_)
      refine Al_p Pu_mvl ?_
      refine Al_p Pu_mvl ?_
      refine Al_appendOw (k2 := 1002) (g2 := 0) rfl rfl rfl (by decide) (by kernel_rfl) elem65 (by decide) Tryz.sizeOf34 rfl rfl rfl rfl Nat.one_pos (by simp; omega) (by decide) (fun g25 => ?_)
      refine Al_p Pu_mvr ?_
      refine Al_nil ?_
      refine Aw_ret ?_
      exact ⟨_, _, [(1003, 1001, g25)], rfl, Sub.rfl, ⟨obeq (by rw [show i = L.length by omega]; simp), trivial⟩, rfl⟩ -- ret 0
    · (try simp only [decide_eq_true_eq, decide_eq_false_iff_not, Bool.and_eq_true, Bool.or_eq_true, Bool.and_eq_false_iff, Bool.or_eq_false_iff, Bool.not_eq_true', Bool.not_eq_false', beq_iff_eq, Bool.not_eq_eq_eq_not, Bool.not_true, Bool.not_false, List.length_map, Bool.and_true, Bool.and_false, Bool.false_and, Bool.true_and, Bool.or_false, Bool.false_or] at h22)
      refine Aw_skip (Aw_seq (Aw_seq (Aw_region ?_)))
      refine Al_p Pu_mvl ?_
      refine Al_p Pu_mvl ?_
      refine Al_p (Pu_add rfl rfl rfl (fun h1 h2 => by simp only [A.inI, A.maxI] at *; omega)) ?_
      refine Al_p Pu_mvl ?_
      refine Al_cap (kt := 900) rfl rfl rfl (by decide) (by kernel_rfl) Tryz.underlying65 rfl rfl rfl (fun c gt hc hcm => ?_)
      refine Al_p (Pu_cmp rfl rfl rfl rfl) ?_
      refine Al_nil ?_
      refine Aw_cond rfl (fun h31 => ?_) (fun h31 => ?_)
      · (try simp only [decide_eq_true_eq, decide_eq_false_iff_not, Bool.and_eq_true, Bool.or_eq_true, Bool.and_eq_false_iff, Bool.or_eq_false_iff, Bool.not_eq_true', Bool.not_eq_false', beq_iff_eq, Bool.not_eq_eq_eq_not, Bool.not_true, Bool.not_false, List.length_map, Bool.and_true, Bool.and_false, Bool.false_and, Bool.true_and, Bool.or_false, Bool.false_or] at h31)
        refine Aw_seq (Aw_region ?_)
        refine Al_p Pu_mvl ?_
        refine Al_p Pu_mvl ?_
        refine Al_p (Pu_sliceOw 0 i rfl Tryz.underlying65 Tryz.sizeOf34 rfl rfl rfl ⟨_, rfl, rfl⟩ ⟨by omega, .inl (by omega)⟩) ?_
        refine Al_p Pu_mvl ?_
        refine Al_p Pu_mvl ?_
        refine Al_p (Pu_add rfl rfl rfl (fun h1 h2 => by simp only [A.inI, A.maxI] at *; omega)) ?_
        refine Al_p Pu_mvl ?_
        refine Al_p (Pu_sub rfl rfl rfl (fun h1 h2 => by simp only [A.inI, A.maxI] at *; omega)) ?_
        refine Al_appendZ (zz := L.length + 1 - i) (kt := 900) (c := c) rfl rfl rfl (by decide) (by kernel_rfl) elem65 Tryz.underlying3 Tryz.zeroValue34 (by decide) rfl (by kernel_rfl) rfl rfl rfl (by omega) (by omega) (by omega) rfl (by omega) (by omega) (by decide) (fun g40 => ?_) rfl
        generalize hzr : List.map AV.v _ = zs
        have hz1 : (L.take i ++ List.replicate (L.length + 1 - i) zs).length = L.length + 1 := by simp; omega
        refine Al_p Pu_mvr ?_
        refine Al_nil (Aw_seq (Aw_region ?_))
        refine Al_p Pu_mvl ?_
        refine Al_p Pu_mvl ?_
        refine Al_p (Pu_sliceOw i (L.take i ++ List.replicate (L.length + 1 - i) zs).length rfl Tryz.underlying65 Tryz.sizeOf34 rfl rfl ⟨_, rfl, rfl⟩ rfl ⟨by omega, .inl (by omega)⟩) ?_
        refine Al_p Pu_mvl ?_
        refine Al_copy (c := 1) (L := 1) rfl rfl rfl (by decide) (by kernel_rfl) Tryz.underlying65 Tryz.sizeOf34 (by decide) rfl rfl (.inr (.inr ⟨_, _, _, rfl, rfl, rfl⟩)) (by omega) Nat.one_pos (Nat.le_refl _) (by omega) ?_
        refine Al_nil (Aw_seq ?_)
        refine Aw_draw 8 (by kernel_rfl) (by kernel_rfl) ?_
        refine Dr_p Pu_mvl ?_
        refine Dr_p Pu_mvl ?_
        refine Dr_p Pu_mvl ?_
        refine Dr_p (Pu_add rfl rfl rfl (fun h1 h2 => by simp only [A.inI, A.maxI] at *; omega)) ?_
        refine Dr_p (Pu_sliceOw (i + 1) (L.length + 1) rfl Tryz.underlying65 Tryz.sizeOf34 rfl rfl ⟨_, rfl, by omega⟩ (by show L.length + 1 = _; simp; omega) ⟨by omega, .inl (by simp; omega)⟩) ?_
        refine Dr_p Pu_mvl ?_
        refine Dr_p Pu_mvl ?_
        refine Dr_p (Pu_sliceOw i L.length rfl Tryz.underlying65 Tryz.sizeOf34 rfl rfl ⟨_, rfl, rfl⟩ rfl ⟨by omega, .inl (by omega)⟩) ?_
        refine Dr_nil ?_
        refine Al_copy (c := L.length - i) (L := L.length - i) (news := L.drop i) rfl rfl rfl (by decide) (by kernel_rfl) Tryz.underlying65 Tryz.sizeOf34 (by decide) rfl rfl (.inr (.inl ⟨_, _, _, _, _, _, rfl, rfl, rfl, by rw [List.take_length]⟩)) (by omega) (by omega) (by simp) (by simp; omega) ?_
        refine Al_nil (Aw_seq (Aw_region ?_))
        refine Al_p Pu_mvl ?_
        refine Al_p Pu_mvr ?_
        refine Al_nil ?_
        refine Aw_ret ?_
        exact ⟨_, _, [(1003, 40, g40)], rfl, Sub.rfl, ⟨obeq (ins_grow (by omega)), trivial⟩, rfl⟩ -- ret 1
      · (try simp only [decide_eq_true_eq, decide_eq_false_iff_not, Bool.and_eq_true, Bool.or_eq_true, Bool.and_eq_false_iff, Bool.or_eq_false_iff, Bool.not_eq_true', Bool.not_eq_false', beq_iff_eq, Bool.not_eq_eq_eq_not, Bool.not_true, Bool.not_false, List.length_map, Bool.and_true, Bool.and_false, Bool.false_and, Bool.true_and, Bool.or_false, Bool.false_or] at h31)
        refine Aw_skip (Aw_seq (Aw_region ?_))
        refine Al_p Pu_mvl ?_
        refine Al_p Pu_mvl ?_
        refine Al_p Pu_mvl ?_
        refine Al_p (Pu_add rfl rfl rfl (fun h1 h2 => by simp only [A.inI, A.maxI] at *; omega)) ?_
        refine Al_p (Pu_sliceOw 0 (L.length + 1) rfl Tryz.underlying65 Tryz.sizeOf34 rfl rfl rfl ⟨_, rfl, by omega⟩ ⟨by omega, .inr ⟨900, gt, c, rfl, by omega⟩⟩) ?_
        refine Al_p Pu_mvr ?_
        refine Al_nil (Aw_seq (Aw_seq (Aw_region ?_)))
        refine Al_p Pu_mvl ?_
        refine Al_p Pu_mvl ?_
        refine Al_p Pu_mvl ?_
        refine Al_p Pu_mvl ?_
        refine Al_p (Pu_add rfl rfl rfl (fun h1 h2 => by simp only [A.inI, A.maxI] at *; omega)) ?_
        refine Al_p (Pu_sliceOws (i + 1) (i + 1) rfl Tryz.underlying65 Tryz.sizeOf34 rfl ⟨_, rfl, by omega⟩ (by omega) (by omega)) ?_
        refine Al_overlaps (tS := 65) (tR := 4) (e := 34) (fun args w => run_callFunc_extern Tryz.func142 (by kernel_rfl) (by kernel_rfl) (by kernel_rfl) (e := Extern.SlicesOverlaps.overlaps #[65, 65] #[4]) (by kernel_rfl) args w) rfl rfl rfl (by decide) (by kernel_rfl) Tryz.underlying65 Tryz.sizeOf34 (by decide) rfl rfl Nat.one_pos rfl rfl rfl (by omega) ?_
        refine Al_p (Pu_not rfl rfl) ?_
        refine Al_nil ?_
        refine Aw_cond rfl (fun h68 => ?_) (fun h68 => ?_)
        · (try simp only [decide_eq_true_eq, decide_eq_false_iff_not, Bool.and_eq_true, Bool.or_eq_true, Bool.and_eq_false_iff, Bool.or_eq_false_iff, Bool.not_eq_true', Bool.not_eq_false', beq_iff_eq, Bool.not_eq_eq_eq_not, Bool.not_true, Bool.not_false, List.length_map, Bool.and_true, Bool.and_false, Bool.false_and, Bool.true_and, Bool.or_false, Bool.false_or] at h68)
          refine Aw_seq ?_
          refine Aw_draw 8 (by kernel_rfl) (by kernel_rfl) ?_
          refine Dr_p Pu_mvl ?_
          refine Dr_p Pu_mvl ?_
          refine Dr_p Pu_mvl ?_
          refine Dr_p (Pu_add rfl rfl rfl (fun h1 h2 => by simp only [A.inI, A.maxI] at *; omega)) ?_
          refine Dr_p (Pu_sliceOws (i + 1) (i + 1) rfl Tryz.underlying65 Tryz.sizeOf34 rfl ⟨_, rfl, by omega⟩ (by omega) (by omega)) ?_
          refine Dr_p Pu_mvl ?_
          refine Dr_p Pu_mvl ?_
          refine Dr_p (Pu_sliceOws i i rfl Tryz.underlying65 Tryz.sizeOf34 rfl ⟨_, rfl, rfl⟩ (by omega) (by omega)) ?_
          refine Dr_nil ?_
          refine Al_copyUp (j := 0) (c := L.length - i) (L := L.length + 1 - i) (news := L.drop i) rfl rfl rfl (by decide) (by kernel_rfl) Tryz.underlying65 Tryz.sizeOf34 (by decide) rfl rfl (by show SV.ows 1001 0 6 0 (L.length + 1) = SV.ows 1001 0 6 0 (i + 1 + (L.length - i)); congr 1; omega) (.inr (.inl ⟨_, _, _, _, _, _, rfl, rfl, rfl, by rw [List.take_of_length_le (by omega)]⟩)) (by omega) (by omega) (by simp) (by omega) (by omega) (fun g77 => ?_)
          have hz2 : (L.take (i + 1) ++ (L.drop i).take (L.length - i)).length = L.length + 1 := by simp; omega
          refine Al_nil (Aw_seq (Aw_region ?_))
          refine Al_p Pu_mvl ?_
          refine Al_p Pu_mvl ?_
          refine Al_p (Pu_sliceOw i (L.take (i + 1) ++ (L.drop i).take (L.length - i)).length rfl Tryz.underlying65 Tryz.sizeOf34 rfl rfl ⟨_, rfl, rfl⟩ rfl ⟨by omega, .inl (by omega)⟩) ?_
          refine Al_p Pu_mvl ?_
          refine Al_copy (c := 1) (L := 1) rfl rfl rfl (by decide) (by kernel_rfl) Tryz.underlying65 Tryz.sizeOf34 (by decide) rfl rfl (.inr (.inr ⟨_, _, _, rfl, rfl, rfl⟩)) (by omega) Nat.one_pos (Nat.le_refl _) (by omega) ?_
          refine Al_nil (Aw_seq (Aw_region ?_))
          refine Al_p Pu_mvl ?_
          refine Al_p Pu_mvr ?_
          refine Al_nil ?_
          refine Aw_ret ?_
          exact ⟨_, _, [(1003, 1001, g77)], rfl, Sub.rfl, ⟨obeq (ins_room (by omega)), trivial⟩, rfl⟩ -- ret 2
        · (try simp only [decide_eq_true_eq, decide_eq_false_iff_not, Bool.and_eq_true, Bool.or_eq_true, Bool.and_eq_false_iff, Bool.or_eq_false_iff, Bool.not_eq_true', Bool.not_eq_false', beq_iff_eq, Bool.not_eq_eq_eq_not, Bool.not_true, Bool.not_false, List.length_map, Bool.and_true, Bool.and_false, Bool.false_and, Bool.true_and, Bool.or_false, Bool.false_or] at h68)
          exfalso; revert h68; decide
set_option maxRecDepth 100000 in
theorem indexV_a (l : List Ver) (f : FuncId) (caps : List AV) (p : Ver → Bool) (hf : ∀ x, ACall Tryz.prog f ([.row x.row] ++ caps) (bv (p x))) : ACall Tryz.prog 106 [.sl 6 (l.map Ver.row), .fn f caps] (iv (S.find p l)) := by
  refine ACall_enter (fun _ _ => by kernel_rfl) Tryz.func106 rfl Tryz.ntmps106 Tryz.results106 (Nat.le_of_ble_eq_true rfl) (fun hok M0 w0 hnl => ?_)
  have hlen := (hok _ (List.mem_cons_self ..)).len
  rw [List.length_map] at hlen
  refine Aw_seq (Aw_region ?_)
  refine Al_p Pu_mvr ?_
  refine Al_nil (Aw_seq (Aw_seq (Aw_region ?_)))
  refine Al_p Pu_mvl ?_
  refine Al_p (Pu_len rfl Tryz.underlying65 rfl (by first | exact List.length_map .. | exact rfl)) ?_
  refine Al_p Pu_mvl ?_
  refine Al_nil (Aw_block ?_)
  refine Aw_loopk (ι := Nat) [0, 1, 7] [] (fun k => [(8, .d (iv k))]) (fun k => []) (fun k => k ≤ l.length ∧ ∀ j (h : j < l.length), j < k → p l[j] = false) (fun k => l.length - k) (0) (⟨Nat.zero_le _, by intros; omega⟩) ⟨Sub.rfl, trivial⟩ trivial ?_
  rintro k ⟨hk0, hk2⟩
  refine Aw_seq (Aw_region ?_)
  refine Al_p (Pu_cmp rfl rfl rfl rfl) ?_
  refine Al_nil (Aw_seq ?_)
  refine Aw_cond rfl (fun h9 => ?_) (fun h9 => ?_)
  · (try simp only [decide_eq_true_eq, decide_eq_false_iff_not, Bool.and_eq_true, Bool.or_eq_true, Bool.and_eq_false_iff, Bool.or_eq_false_iff, Bool.not_eq_true', Bool.not_eq_false', beq_iff_eq, Bool.not_eq_eq_eq_not, Bool.not_true, Bool.not_false, List.length_map, Bool.and_true, Bool.and_false, Bool.false_and, Bool.true_and, Bool.or_false, Bool.false_or] at h9)
    have hk : k < l.length := by omega
    refine Aw_skip (Aw_seq (Aw_block (Aw_seq (Aw_region ?_))))
    refine Al_p Pu_mvl ?_
    refine Al_p Pu_mvr ?_
    refine Al_nil (Aw_seq (Aw_region ?_))
    refine Al_p Pu_mvl ?_
    refine Al_p Pu_mvl ?_
    refine Al_p Pu_mvl ?_
    refine Al_p (Pu_index rfl Tryz.underlying65 Tryz.sizeOf34 rfl rfl (rfl) (mapget hk)) ?_
    refine Al_p (Pu_loadN rfl Tryz.isAgg34 Tryz.sizeOf34 rfl (Nat.le_of_ble_eq_true rfl)) ?_
    refine Al_p (Pu_callv (aa := [(fun x => .row x.row) l[k]]) (caps := caps) (hf l[k]) rfl rfl ⟨Sub.rfl, trivial⟩) ?_
    refine Al_nil ?_
    refine Aw_cond rfl (fun h16 => ?_) (fun h16 => ?_)
    · skip
      refine Aw_seq (Aw_region ?_)
      refine Al_p Pu_mvl ?_
      refine Al_p Pu_mvr ?_
      refine Al_nil ?_
      refine Aw_ret ?_
      exact Sub.num (S.find_at hk h16 hk2) -- ret 0
    · skip
      have h16' : p l[k] = false := h16
      refine Aw_skip (Aw_region ?_)
      refine Al_p (Pu_add rfl rfl rfl (fun h1 h2 => by simp only [A.inI, A.maxI] at *; omega)) ?_
      refine Al_p Pu_mvl ?_
      refine Al_nil ?_
      exact ⟨k + 1, ⟨by omega, fun j hj hjk => by
        by_cases e : j = k
        · subst e; exact h16'
        · exact hk2 j hj (by omega)⟩, by omega, Le.ov ⟨Sub.num (by omega), trivial⟩ ⟨Sub.rfl, Sub.rfl, Sub.rfl, trivial⟩ trivial trivial⟩ -- loop 0 next.0
  · (try simp only [decide_eq_true_eq, decide_eq_false_iff_not, Bool.and_eq_true, Bool.or_eq_true, Bool.and_eq_false_iff, Bool.or_eq_false_iff, Bool.not_eq_true', Bool.not_eq_false', beq_iff_eq, Bool.not_eq_eq_eq_not, Bool.not_true, Bool.not_false, List.length_map, Bool.and_true, Bool.and_false, Bool.false_and, Bool.true_and, Bool.or_false, Bool.false_or] at h9)
    obtain rfl : k = l.length := by omega
    refine Aw_exit (Aw_seq (Aw_region ?_))
    refine Al_p Pu_mvr ?_
    refine Al_nil ?_
    refine Aw_ret ?_
    exact Sub.num (S.find_no hk2) -- ret 1
set_option maxRecDepth 100000 in
set_option maxHeartbeats 1000000 in
theorem delfuncV_g (l : List Ver) (f : FuncId) (caps : List AV) (p : Ver → Bool) (hf : ∀ x, ACall Tryz.prog f ([.row x.row] ++ caps) (bv (p x))) (hl : l.length ≤ 1000000) : GCall Tryz.prog 96 [.ow 1001 0, .d (.fn f caps)] [(1001, .arr 34 6 (l.map Ver.row))] (some ([(1002, .arr 34 6 ((l.filter fun x => !p x).map Ver.row))], .ow 1002 0)) := by
  refine GCall_enter (fun _ _ => by kernel_rfl) Tryz.func96 rfl Tryz.ntmps96 (ReadsS.r1 Tryz.results96) (Nat.le_of_ble_eq_true rfl) (fun hok hokB M0 w0 => ?_)
  have hu : ∀ (c : List Ver), ∀ r ∈ c.map Ver.row, r.length = 6 := fun c r hr => by obtain ⟨x, _, rfl⟩ := List.mem_map.1 hr; rfl
  refine Aw_seq (Aw_region ?_)
  refine Al_p Pu_mvr ?_
  refine Al_nil (Aw_seq (Aw_region ?_))
  refine Al_p Pu_mvl ?_
  refine Al_p Pu_mvl ?_
  refine Al_p (Pu_callR (indexV_a l f caps p hf) rfl rfl ⟨.inr ⟨1001, 0, _, _, _, rfl, rfl, rfl⟩, .inl Sub.rfl, trivial⟩) ?_
  refine Al_p Pu_mvr ?_
  refine Al_nil (Aw_seq (Aw_seq (Aw_region ?_)))
  refine Al_p Pu_mvl ?_
  refine Al_p (Pu_cmp rfl rfl rfl rfl) ?_
  refine Al_nil ?_
  refine Aw_cond rfl (fun h12 => ?_) (fun h12 => ?_)
  · (try simp only [decide_eq_true_eq, decide_eq_false_iff_not, Bool.and_eq_true, Bool.or_eq_true, Bool.and_eq_false_iff, Bool.or_eq_false_iff, Bool.not_eq_true', Bool.not_eq_false', beq_iff_eq, Bool.not_eq_eq_eq_not, Bool.not_true, Bool.not_false, List.length_map, Bool.and_true, Bool.and_false, Bool.false_and, Bool.true_and, Bool.or_false, Bool.false_or] at h12)
    have hno := S.find_neg h12
    refine Aw_seq (Aw_region ?_)
    refine Al_p Pu_mvl ?_
    refine Al_p Pu_mvr ?_
    refine Al_nil ?_
    refine Aw_ret ?_
    exact ⟨_, _, [(1002, 1001, 0)], rfl, Sub.rfl, ⟨obeq (by rw [hno]), trivial⟩, rfl⟩ -- ret 0
  · (try simp only [decide_eq_true_eq, decide_eq_false_iff_not, Bool.and_eq_true, Bool.or_eq_true, Bool.and_eq_false_iff, Bool.or_eq_false_iff, Bool.not_eq_true', Bool.not_eq_false', beq_iff_eq, Bool.not_eq_eq_eq_not, Bool.not_true, Bool.not_false, List.length_map, Bool.and_true, Bool.and_false, Bool.false_and, Bool.true_and, Bool.or_false, Bool.false_or] at h12)
    obtain ⟨i0, hi0, hfi, hpi, hbef⟩ := S.find_pos (p := p) (l := l) h12
    refine Aw_skip (Aw_seq (Aw_seq (Aw_region ?_)))
    refine Al_p Pu_mvl ?_
    refine Al_p (Pu_add rfl rfl rfl (fun h1 h2 => by simp only [A.inI, A.maxI] at *; omega)) ?_
    refine Al_p Pu_mvr ?_
    refine Al_nil (Aw_block ?_)
    refine Aw_loopk (ι := Nat × Nat × (List Ver)) [0, 1] [] (fun (i, j, c) => [(5, .d (iv i)), (6, .d (iv j))]) (fun (i, j, c) => [(1001, 0, .arr 34 6 (c.map Ver.row))]) (fun (i, j, c) => c.length = l.length ∧ i ≤ j ∧ j ≤ l.length ∧ c.take i = (l.take j).filter (fun x => !p x) ∧ c.drop j = l.drop j ∧ i < j) (fun (i, j, c) => l.length - j) (i0, i0 + 1, l) (⟨rfl, by omega, by omega, S.filter_first hi0 hpi hbef, rfl, by omega⟩) ⟨Sub.num hfi, Sub.num (by rw [hfi]; omega), trivial⟩ ⟨rfl, trivial⟩ ?_
    rintro ⟨i, j, c⟩ ⟨hcl, hij, hjl, hct, hcd, hij2⟩
    refine Aw_seq (Aw_seq (Aw_region ?_))
    refine Al_p Pu_mvl ?_
    refine Al_p Pu_mvl ?_
    refine Al_p (Pu_lenOw (m := l.length) rfl Tryz.underlying65 rfl rfl (by rw [List.length_map, hcl])) ?_
    refine Al_p (Pu_cmp rfl rfl rfl rfl) ?_
    refine Al_nil ?_
    refine Aw_cond rfl (fun h19 => ?_) (fun h19 => ?_)
    · (try simp only [decide_eq_true_eq, decide_eq_false_iff_not, Bool.and_eq_true, Bool.or_eq_true, Bool.and_eq_false_iff, Bool.or_eq_false_iff, Bool.not_eq_true', Bool.not_eq_false', beq_iff_eq, Bool.not_eq_eq_eq_not, Bool.not_true, Bool.not_false, List.length_map, Bool.and_true, Bool.and_false, Bool.false_and, Bool.true_and, Bool.or_false, Bool.false_or] at h19)
      have hj : j < l.length := by omega
      have hjc : j < (c.map Ver.row).length := by rw [List.length_map]; omega
      have hcj : c.getD j default = l[j] := S.drop_at hcd hj (by omega)
      have hrow := S.row_at (hu c) hjc
      rw [S.map_getD (by omega : j < c.length), hcj] at hrow
      have hset := S.flat_set (hu c) (x := Ver.row l[j]) (i := i) (by rw [List.length_map]; omega) rfl
      refine Aw_skip ?_
      -- join 0: live [0, 1, 5, 6], turned [5]
      refine Aw_seq (Aw_block (Aw_seq (Aw_region ?_)))
      refine Al_p Pu_mvl ?_
      refine Al_p Pu_mvl ?_
      refine Al_p (Pu_indexOw (j := j) rfl Tryz.underlying65 Tryz.sizeOf34 rfl rfl rfl rfl hjc) ?_
      refine Al_p (Pu_loadArrN rfl Tryz.isAgg34 Tryz.sizeOf34 rfl rfl hrow rfl) ?_
      refine Al_alloc rfl rfl rfl (by decide) Tryz.zeroValue34 rfl (by kernel_rfl) (fun g7 => ?_)
      refine Al_storeN rfl rfl rfl (by kernel_rfl) Tryz.isAgg34 Tryz.sizeOf34 rfl rfl rfl rfl (Nat.le_of_ble_eq_true rfl) ?_
      refine Al_nil (Aw_seq (Aw_region ?_))
      refine Al_p Pu_mvl ?_
      refine Al_p (Pu_loadbN (r := [_, _, _, _, _, _]) rfl Tryz.isAgg34 Tryz.sizeOf34 rfl rfl rfl rfl) ?_
      refine Al_p (Pu_callv (aa := [(fun x => .row x.row) l[j]]) (caps := caps) (hf l[j]) rfl rfl ⟨Sub.rfl, trivial⟩) ?_
      refine Al_p (Pu_not rfl rfl) ?_
      refine Al_nil ?_
      refine Aw_cond rfl (fun h29 => ?_) (fun h29 => ?_)
      · skip
        have hpj : p l[j] = false := by simpa using h29
        refine Aw_seq (Aw_region ?_)
        refine Al_p Pu_mvl ?_
        refine Al_p Pu_mvl ?_
        refine Al_p (Pu_loadbN (r := [_, _, _, _, _, _]) rfl Tryz.isAgg34 Tryz.sizeOf34 rfl rfl rfl rfl) ?_
        refine Al_p (Pu_indexOw (j := i) rfl Tryz.underlying65 Tryz.sizeOf34 rfl rfl rfl rfl (by rw [List.length_map]; omega)) ?_
        refine Al_storeArr ((c.map Ver.row).set i (Ver.row l[j])) rfl rfl rfl (by kernel_rfl) Tryz.sizeOf34 rfl rfl rfl rfl rfl (by rw [List.length_map]; omega) (by simp) (fun q hq => by rcases List.mem_or_eq_of_mem_set hq with h | rfl; exact hu c q h; rfl) hset ?_
        refine Al_nil (Aw_region ?_)
        refine Al_p Pu_mvl ?_
        refine Al_p (Pu_add rfl rfl rfl (fun h1 h2 => by simp only [A.inI, A.maxI] at *; omega)) ?_
        refine Al_p Pu_mvr ?_
        refine Al_nil (Aw_region ?_)
        refine Al_p Pu_mvl ?_
        refine Al_p (Pu_add rfl rfl rfl (fun h1 h2 => by simp only [A.inI, A.maxI] at *; omega)) ?_
        refine Al_p Pu_mvr ?_
        refine Al_nil ?_
        exact ⟨(i + 1, j + 1, c.set i l[j]), ⟨by rw [List.length_set, hcl], by omega, by omega, S.del_keep hj hct hpj (by omega), by rw [List.drop_set_of_lt (by omega), ← List.drop_drop, hcd, List.drop_drop], by omega⟩, by simp only []; omega, Le.ov ⟨Sub.num (by omega), Sub.num (by omega), trivial⟩ ⟨Sub.rfl, Sub.rfl, trivial⟩ ⟨obeq (by rw [List.map_set]), trivial⟩ trivial⟩ -- loop 0 next.0
      · skip
        have hpj : p l[j] = true := by simpa using h29
        refine Aw_skip (Aw_region ?_)
        refine Al_p Pu_mvl ?_
        refine Al_p (Pu_add rfl rfl rfl (fun h1 h2 => by simp only [A.inI, A.maxI] at *; omega)) ?_
        refine Al_p Pu_mvr ?_
        refine Al_nil ?_
        exact ⟨(i, j + 1, c), ⟨hcl, by omega, by omega, S.del_drop hj hct hpj, by rw [← List.drop_drop, hcd, List.drop_drop], by omega⟩, by simp only []; omega, Le.ov ⟨Sub.rfl, Sub.num (by omega), trivial⟩ ⟨Sub.rfl, Sub.rfl, trivial⟩ ⟨rfl, trivial⟩ trivial⟩ -- loop 0 next.1
    · (try simp only [decide_eq_true_eq, decide_eq_false_iff_not, Bool.and_eq_true, Bool.or_eq_true, Bool.and_eq_false_iff, Bool.or_eq_false_iff, Bool.not_eq_true', Bool.not_eq_false', beq_iff_eq, Bool.not_eq_eq_eq_not, Bool.not_true, Bool.not_false, List.length_map, Bool.and_true, Bool.and_false, Bool.false_and, Bool.true_and, Bool.or_false, Bool.false_or] at h19)
      obtain rfl : j = l.length := by omega
      rw [List.take_length] at hct
      have hfl : ∀ zz, ((c.map Ver.row).take i ++ List.replicate ((c.map Ver.row).length - i) zz).take i = (l.filter fun x => !p x).map Ver.row := fun zz => by
        rw [← hct, List.map_take, List.take_append_of_le_length (by simp; omega), List.take_take, Nat.min_self]
      refine Aw_exit (Aw_seq (Aw_region ?_))
      refine Al_p Pu_mvl ?_
      refine Al_p Pu_mvl ?_
      refine Al_p (Pu_sliceOw i (c.map Ver.row).length rfl Tryz.underlying65 Tryz.sizeOf34 rfl rfl ⟨_, rfl, rfl⟩ rfl ⟨by rw [List.length_map]; omega, .inl (Nat.le_refl _)⟩) ?_
      refine Al_clear0 rfl rfl rfl (by kernel_rfl) Tryz.underlying65 Tryz.zeroValue34 rfl (by decide) rfl (by decide) rfl rfl rfl ?_
      refine Al_nil (Aw_seq (Aw_region ?_))
      refine Al_p Pu_mvl ?_
      refine Al_p Pu_mvl ?_
      refine Al_cut i rfl rfl rfl (by decide) (by kernel_rfl) Tryz.underlying65 Tryz.sizeOf34 rfl rfl rfl ⟨_, rfl, rfl⟩ (by simp; omega) (fun g41 => ?_)
      refine Al_p Pu_mvr ?_
      refine Al_nil ?_
      refine Aw_ret ?_
      exact ⟨_, _, [(1002, 1001, g41)], rfl, Sub.rfl, ⟨obeq (hfl _), trivial⟩, rfl⟩ -- ret 1
abbrev stA (x : Int × Int) : List AV := [iv x.1, iv x.2]
abbrev verA (o : Option Ver) : AV := .tup [.row (o.getD default).row, bv o.isSome]
namespace J
def notB (n s : Int) (v : Ver) : Bool := !D.lessB v.n v.s n s
/-- The place of the first one that is not below a stamp. -/
def frm (l : List Ver) (n s : Int) : Nat := l.findIdx (notB n s)
theorem frm_le (l : List Ver) (n s : Int) : frm l n s ≤ l.length := List.findIdx_le_length
def told (l : List Ver) (i : Int) : Option Ver := if 0 ≤ i ∧ i < l.length then l[i.toNat]? else none
def head (l : List Ver) : Option Ver := told l ((l.length : Int) - 1)
def isSt (n s : Int) (v : Ver) : Bool := (v.n == n) && (v.s == s)
def atc (l : List Ver) (n s : Int) : Option Ver := (l[frm l n s]?).filter (isSt n s)
def below (l : List Ver) (n s : Int) : Option Ver := match atc l n s with
  | some v => some v
  | none => told l ((frm l n s : Int) - 1)
def isO (o : Option Ver) (v : Ver) : Bool := o.isSome && decide (o.getD default = v)
def keeps (l : List Ver) (n s : Int) (pins : List (Int × Int)) (v : Ver) : Bool := pins.any (fun p => (v.n == p.1) && (v.s == p.2)) || !D.lessB v.n v.s n s || isO (head l) v || isO (below l n s) v
def clean (l : List Ver) (n s : Int) (pins : List (Int × Int)) : List Ver := l.filter (keeps l n s pins)
def put (l : List Ver) (v : Ver) : Option (List Ver) := if checkB v = true ∧ (∀ x, l[0]? = some x → x.key.toList = v.key.toList) ∧ (∀ x, l[frm l v.n v.s]? = some x → isSt v.n v.s x = false) then some (l.take (frm l v.n v.s) ++ v :: l.drop (frm l v.n v.s)) else none
theorem find_frm (l : List Ver) (n s : Int) : (S.find (notB n s) l < 0 ∧ frm l n s = l.length) ∨ S.find (notB n s) l = frm l n s := by
  unfold S.find frm
  split
  · exact .inr rfl
  · rename_i h
    refine .inl ⟨by omega, ?_⟩
    apply Nat.le_antisymm List.findIdx_le_length
    rw [Nat.le_iff_lt_or_eq]
    refine .inr (List.findIdx_eq_length.2 ?_).symm
    intro x hx
    cases hp : notB n s x with
    | false => rfl
    | true => exact (h (List.any_eq_true.2 ⟨x, hx, hp⟩)).elim
theorem told_at {l : List Ver} {i : Nat} (hi : i < l.length) : told l i = some l[i] := by
  unfold told
  rw [if_pos ⟨by omega, by omega⟩, Int.toNat_natCast, List.getElem?_eq_getElem hi]
theorem told_no {l : List Ver} {i : Int} (hi : i < 0 ∨ l.length ≤ i) : told l i = none := if_neg (by omega)
end J
set_option maxRecDepth 100000 in
theorem cfrom1_a (v : Ver) (n s : Int) : ACall Tryz.prog 141 [.row v.row, .fp [iv n, iv s]] (bv (J.notB n s v)) := by
  refine ACall_enter (fun _ _ => by kernel_rfl) Tryz.func141 rfl Tryz.ntmps141 Tryz.results141 (Nat.le_of_ble_eq_true rfl) (fun hok M0 w0 hnl => ?_)
  refine Aw_seq (Aw_region ?_)
  refine Al_p (Pu_boxN rfl rfl) ?_
  refine Al_p Pu_mvr ?_
  refine Al_nil (Aw_seq (Aw_region ?_))
  refine Al_p (Pu_field 3 rfl Tryz.underlying34 rfl rfl Tryz.sizeOf31 rfl) ?_
  refine Al_p (Pu_loadN rfl Tryz.isAgg31 Tryz.sizeOf31 rfl (Nat.le_of_ble_eq_true rfl)) ?_
  refine Al_p (Pu_loadN rfl Tryz.isAgg31 Tryz.sizeOf31 rfl (Nat.le_of_ble_eq_true rfl)) ?_
  refine Al_p (Pu_call (less_a _ _ _ _) rfl ⟨Sub.rfl, Sub.rfl, trivial⟩) ?_
  refine Al_p (Pu_not rfl rfl) ?_
  refine Al_p Pu_mvr ?_
  refine Al_nil ?_
  refine Aw_ret ?_
  exact Sub.rfl -- ret 0
theorem cfrom_a (l : List Ver) (n s : Int) : ACall Tryz.prog 127 [versA l, .row [iv n, iv s]] (iv (J.frm l n s : Nat)) := by
  refine ACall_enter (fun _ _ => by kernel_rfl) Tryz.func127 rfl Tryz.ntmps127 Tryz.results127 (Nat.le_of_ble_eq_true rfl) (fun hok M0 w0 hnl => ?_)
  have hlen := (hok _ (List.mem_cons_self ..)).len
  rw [List.length_map] at hlen
  have hix := indexV_a l 141 [.fp [iv n, iv s]] (J.notB n s) fun v => cfrom1_a v n s
  refine Aw_seq (Aw_region ?_)
  refine Al_p (Pu_boxN rfl rfl) ?_
  refine Al_p Pu_mvr ?_
  refine Al_nil (Aw_seq (Aw_region ?_))
  refine Al_p Pu_mvl ?_
  refine Al_p (Pu_makeFunc (caps := [_]) rfl ⟨Sub.rfl, trivial⟩) ?_
  refine Al_p (Pu_call (hix) rfl ⟨Sub.rfl, Sub.rfl, trivial⟩) ?_
  refine Al_p Pu_mvr ?_
  refine Al_nil (Aw_seq (Aw_seq (Aw_region ?_)))
  refine Al_p Pu_mvl ?_
  refine Al_p (Pu_cmp rfl rfl rfl rfl) ?_
  refine Al_nil ?_
  refine Aw_cond rfl (fun h10 => ?_) (fun h10 => ?_)
  · (try simp only [decide_eq_true_eq, decide_eq_false_iff_not, Bool.and_eq_true, Bool.or_eq_true, Bool.and_eq_false_iff, Bool.or_eq_false_iff, Bool.not_eq_true', Bool.not_eq_false', beq_iff_eq, Bool.not_eq_eq_eq_not, Bool.not_true, Bool.not_false, List.length_map, Bool.and_true, Bool.and_false, Bool.false_and, Bool.true_and, Bool.or_false, Bool.false_or] at h10)
    refine Aw_seq (Aw_region ?_)
    refine Al_p Pu_mvl ?_
    refine Al_p (Pu_len rfl Tryz.underlying65 rfl (by first | exact List.length_map .. | exact rfl)) ?_
    refine Al_p Pu_mvr ?_
    refine Al_nil ?_
    refine Aw_ret ?_
    exact Sub.num (by rcases J.find_frm l n s with h | h <;> omega) -- ret 0
  · (try simp only [decide_eq_true_eq, decide_eq_false_iff_not, Bool.and_eq_true, Bool.or_eq_true, Bool.and_eq_false_iff, Bool.or_eq_false_iff, Bool.not_eq_true', Bool.not_eq_false', beq_iff_eq, Bool.not_eq_eq_eq_not, Bool.not_true, Bool.not_false, List.length_map, Bool.and_true, Bool.and_false, Bool.false_and, Bool.true_and, Bool.or_false, Bool.false_or] at h10)
    refine Aw_skip (Aw_seq (Aw_region ?_))
    refine Al_p Pu_mvl ?_
    refine Al_p Pu_mvr ?_
    refine Al_nil ?_
    refine Aw_ret ?_
    exact Sub.num (by rcases J.find_frm l n s with h | h <;> omega) -- ret 1
set_option maxRecDepth 100000 in
theorem ctold_a (l : List Ver) (i : Int) : ACall Tryz.prog 122 [versA l, iv i] (verA (J.told l i)) := by
  refine ACall_enterG (fun _ _ => by kernel_rfl) Tryz.func122 rfl Tryz.ntmps122 (Reads.cN1 Tryz.results122 Tryz.isAgg34 Tryz.sizeOf34) (Nat.le_of_ble_eq_true rfl) (fun hok M0 w0 hnl => ?_)
  have hlen := (hok _ (List.mem_cons_self ..)).len
  rw [List.length_map] at hlen
  refine Aw_seq (Aw_region ?_)
  refine Al_alloc rfl rfl rfl (by decide) Tryz.zeroValue34 rfl (by kernel_rfl) (fun g4 => ?_)
  refine Al_p Pu_mvr ?_
  refine Al_nil (Aw_seq (Aw_seq (Aw_region ?_)))
  refine Al_p Pu_mvl ?_
  refine Al_p (Pu_cmp rfl rfl rfl rfl) ?_
  refine Al_p Pu_mvl ?_
  refine Al_st (St_gd [] rfl rfl rfl rfl trivial (fun hg9 => by exact Pu_move (.inl rfl) (by conv => lhs; whnf))) rfl (by decide) (by kernel_rfl) (by intro j b oj dj h1 h2 h3; cases h1; cases h2; cases h3; decide) ?_
  refine Al_st (St_gd [] rfl rfl rfl rfl trivial (fun hg10 => by exact Pu_move (.inl rfl) (by conv => lhs; whnf))) rfl (by decide) (by kernel_rfl) (by intro j b oj dj h1 h2 h3; cases h1; cases h2; cases h3; decide) ?_
  refine Al_st (St_gd [10] rfl rfl rfl rfl ⟨⟨_, rfl⟩, trivial⟩ (fun hg11 => by exact Pu_len rfl Tryz.underlying65 rfl (by first | exact List.length_map .. | exact rfl))) rfl (by decide) (by kernel_rfl) (by intro j b oj dj h1 h2 h3; cases h1; cases h2; cases h3; decide) ?_
  refine Al_st (St_gd [9, 11] rfl rfl rfl rfl ⟨⟨_, rfl⟩, ⟨_, rfl⟩, trivial⟩ (fun hg12 => Pu_cmp rfl rfl rfl rfl)) rfl (by decide) (by kernel_rfl) (by intro j b oj dj h1 h2 h3; cases h1; cases h2; cases h3; decide) ?_
  refine Al_p (Pu_or rfl rfl rfl rfl) ?_
  refine Al_nil ?_
  refine Aw_cond rfl (fun h13 => ?_) (fun h13 => ?_)
  · (try simp only [decide_eq_true_eq, decide_eq_false_iff_not, Bool.and_eq_true, Bool.or_eq_true, Bool.and_eq_false_iff, Bool.or_eq_false_iff, Bool.not_eq_true', Bool.not_eq_false', beq_iff_eq, Bool.not_eq_eq_eq_not, Bool.not_true, Bool.not_false, List.length_map, Bool.and_true, Bool.and_false, Bool.false_and, Bool.true_and, Bool.or_false, Bool.false_or] at h13)
    refine Aw_seq (Aw_region ?_)
    refine Al_p (Pu_build (aa := []) rfl Tryz.underlying34 Tryz.zeroValue34 (places34 Tryz.underlying34) (by kernel_rfl) trivial rfl) ?_
    refine Al_storeN rfl rfl rfl (by kernel_rfl) Tryz.isAgg34 Tryz.sizeOf34 rfl rfl rfl rfl (Nat.le_of_ble_eq_true rfl) ?_
    refine Al_p Pu_mvr ?_
    refine Al_nil ?_
    refine Aw_boxle (k := 4) ((default : Ver).row.map .d) rfl ⟨Sub.rfl, Sub.rfl, Sub.rfl, Sub.rfl, Sub.rfl, Sub.nil, trivial⟩ ?_
    refine Aw_ret ?_
    exact ⟨_, _, _, _, _, [_, _, _, _, _, _], _, rfl, rfl, rfl, rfl, Sub.rfl, by rw [J.told_no (by omega)]; rfl⟩ -- ret 0
  · (try simp only [decide_eq_true_eq, decide_eq_false_iff_not, Bool.and_eq_true, Bool.or_eq_true, Bool.and_eq_false_iff, Bool.or_eq_false_iff, Bool.not_eq_true', Bool.not_eq_false', beq_iff_eq, Bool.not_eq_eq_eq_not, Bool.not_true, Bool.not_false, List.length_map, Bool.and_true, Bool.and_false, Bool.false_and, Bool.true_and, Bool.or_false, Bool.false_or] at h13)
    obtain ⟨k, rfl⟩ : ∃ k : Nat, i = k := ⟨i.toNat, by omega⟩
    have hk : k < l.length := by omega
    refine Aw_skip (Aw_seq (Aw_region ?_))
    refine Al_p Pu_mvl ?_
    refine Al_p Pu_mvl ?_
    refine Al_p (Pu_index rfl Tryz.underlying65 Tryz.sizeOf34 rfl rfl (rfl) (mapgetD (d := default) hk)) ?_
    refine Al_p (Pu_loadN rfl Tryz.isAgg34 Tryz.sizeOf34 rfl (Nat.le_of_ble_eq_true rfl)) ?_
    refine Al_storeN rfl rfl rfl (by kernel_rfl) Tryz.isAgg34 Tryz.sizeOf34 rfl rfl rfl rfl (Nat.le_of_ble_eq_true rfl) ?_
    refine Al_p Pu_mvr ?_
    refine Al_nil ?_
    refine Aw_ret ?_
    exact ⟨_, _, _, _, _, [_, _, _, _, _, _], _, rfl, rfl, rfl, rfl, Sub.rfl, by
      rw [J.told_at hk, show l[k] = l.getD k default from by simp [hk]]; rfl⟩ -- ret 1
set_option maxRecDepth 100000 in
theorem chead_a (l : List Ver) : ACall Tryz.prog 109 [versA l] (verA (J.head l)) := by
  refine ACall_enterG (fun _ _ => by kernel_rfl) Tryz.func109 rfl Tryz.ntmps109 (Reads.cN1 Tryz.results109 Tryz.isAgg34 Tryz.sizeOf34) (Nat.le_of_ble_eq_true rfl) (fun hok M0 w0 hnl => ?_)
  have hlen := (hok _ (List.mem_cons_self ..)).len
  rw [List.length_map] at hlen
  refine Aw_seq (Aw_region ?_)
  refine Al_alloc rfl rfl rfl (by decide) Tryz.zeroValue34 rfl (by kernel_rfl) (fun g2 => ?_)
  refine Al_p Pu_mvr ?_
  refine Al_nil (Aw_seq (Aw_region ?_))
  refine Al_p Pu_mvl ?_
  refine Al_p Pu_mvl ?_
  refine Al_p (Pu_len rfl Tryz.underlying65 rfl (by first | exact List.length_map .. | exact rfl)) ?_
  refine Al_p (Pu_sub rfl rfl rfl (fun h1 h2 => by simp only [A.inI, A.maxI] at *; omega)) ?_
  refine Al_p (Pu_call (ctold_a l _) rfl ⟨Sub.rfl, Sub.rfl, trivial⟩) ?_
  refine Al_p (Pu_extract rfl rfl rfl) ?_
  refine Al_p (Pu_extract rfl rfl rfl) ?_
  refine Al_storeN rfl rfl rfl (by kernel_rfl) Tryz.isAgg34 Tryz.sizeOf34 rfl rfl rfl rfl (Nat.le_of_ble_eq_true rfl) ?_
  refine Al_p Pu_mvr ?_
  refine Al_nil ?_
  refine Aw_ret ?_
  exact ⟨_, _, _, _, _, [_, _, _, _, _, _], _, rfl, rfl, rfl, rfl, Sub.rfl, rfl⟩ -- ret 0
set_option maxRecDepth 100000 in
theorem cat_a (l : List Ver) (n s : Int) : ACall Tryz.prog 118 [versA l, .row [iv n, iv s]] (verA (J.atc l n s)) := by
  refine ACall_enterG (fun _ _ => by kernel_rfl) Tryz.func118 rfl Tryz.ntmps118 (Reads.cN1 Tryz.results118 Tryz.isAgg34 Tryz.sizeOf34) (Nat.le_of_ble_eq_true rfl) (fun hok M0 w0 hnl => ?_)
  refine Aw_seq (Aw_region ?_)
  refine Al_p (Pu_boxN rfl rfl) ?_
  refine Al_alloc rfl rfl rfl (by decide) Tryz.zeroValue34 rfl (by kernel_rfl) (fun g4 => ?_)
  refine Al_p Pu_mvr ?_
  refine Al_nil (Aw_seq (Aw_region ?_))
  refine Al_p Pu_mvl ?_
  refine Al_p Pu_mvl ?_
  refine Al_p (Pu_loadN rfl Tryz.isAgg31 Tryz.sizeOf31 rfl (Nat.le_of_ble_eq_true rfl)) ?_
  refine Al_p (Pu_call (cfrom_a l n s) rfl ⟨Sub.rfl, Sub.rfl, trivial⟩) ?_
  refine Al_p (Pu_call (ctold_a l _) rfl ⟨Sub.rfl, Sub.rfl, trivial⟩) ?_
  refine Al_p Pu_mvl ?_
  refine Al_p (Pu_extract rfl rfl rfl) ?_
  refine Al_p (Pu_extract rfl rfl rfl) ?_
  refine Al_alloc rfl rfl rfl (by decide) Tryz.zeroValue34 rfl (by kernel_rfl) (fun g6 => ?_)
  refine Al_storeN rfl rfl rfl (by kernel_rfl) Tryz.isAgg34 Tryz.sizeOf34 rfl rfl rfl rfl (Nat.le_of_ble_eq_true rfl) ?_
  refine Al_p Pu_mvr ?_
  refine Al_nil (Aw_seq (Aw_seq (Aw_region ?_)))
  refine Al_p Pu_mvl ?_
  refine Al_p (Pu_not rfl rfl) ?_
  refine Al_p Pu_mvl ?_
  refine Al_st (St_gd [] rfl rfl rfl rfl trivial (fun hg19 => Pu_fieldb 3 rfl Tryz.underlying34 rfl rfl Tryz.sizeOf31 rfl)) rfl (by decide) (by kernel_rfl) (by intro j b oj dj h1 h2 h3; cases h1; cases h2; cases h3; decide) ?_
  refine Al_st (St_gd [19] rfl rfl rfl rfl ⟨⟨_, rfl⟩, trivial⟩ (fun hg20 => Pu_loadbN (r := [_, _]) rfl Tryz.isAgg31 Tryz.sizeOf31 rfl rfl rfl rfl)) rfl (by decide) (by kernel_rfl) (by intro j b oj dj h1 h2 h3; cases h1; cases h2; cases h3; decide) ?_
  refine Al_st (St_gd [] rfl rfl rfl rfl trivial (fun hg21 => Pu_loadN rfl Tryz.isAgg31 Tryz.sizeOf31 rfl (Nat.le_of_ble_eq_true rfl))) rfl (by decide) (by kernel_rfl) (by intro j b oj dj h1 h2 h3; cases h1; cases h2; cases h3; decide) ?_
  refine Al_st (St_gd [20, 21] rfl rfl rfl rfl ⟨⟨_, rfl⟩, ⟨_, rfl⟩, trivial⟩ (fun hg22 => Pu_eqrow [.int .i64 _, .int .i64 _] [.int .i64 _, .int .i64 _] (fun w => nev31 _ _ _ _ _ _ w) rfl rfl rfl)) rfl (by decide) (by kernel_rfl) (by intro j b oj dj h1 h2 h3; cases h1; cases h2; cases h3; decide) ?_
  refine Al_p (Pu_or rfl rfl rfl rfl) ?_
  refine Al_nil ?_
  refine Aw_cond rfl (fun h23 => ?_) (fun h23 => ?_)
  · skip
    have hno : J.atc l n s = none := by
      unfold J.atc
      rcases Nat.lt_or_ge (J.frm l n s) l.length with h | h
      · rw [J.told_at h] at h23
        rw [List.getElem?_eq_getElem h, Option.filter_some]
        simp only [Option.isSome_some, Option.getD_some, Bool.not_true, Bool.false_or, Bool.not_eq_true'] at h23
        rw [if_neg (by unfold J.isSt; rw [h23]; decide)]
      · rw [List.getElem?_eq_none h]; rfl
    refine Aw_seq (Aw_region ?_)
    refine Al_p (Pu_build (aa := []) rfl Tryz.underlying34 Tryz.zeroValue34 (places34 Tryz.underlying34) (by kernel_rfl) trivial rfl) ?_
    refine Al_storeN rfl rfl rfl (by kernel_rfl) Tryz.isAgg34 Tryz.sizeOf34 rfl rfl rfl rfl (Nat.le_of_ble_eq_true rfl) ?_
    refine Al_p Pu_mvr ?_
    refine Al_nil ?_
    refine Aw_boxle (k := 4) ((default : Ver).row.map .d) rfl ⟨Sub.rfl, Sub.rfl, Sub.rfl, Sub.rfl, Sub.rfl, Sub.nil, trivial⟩ ?_
    refine Aw_ret ?_
    exact ⟨_, _, _, _, _, [_, _, _, _, _, _], _, rfl, rfl, rfl, rfl, Sub.rfl, by rw [hno]; rfl⟩ -- ret 0
  · skip
    have hyes : J.atc l n s = J.told l (J.frm l n s : Nat) := by
      unfold J.atc
      rcases Nat.lt_or_ge (J.frm l n s) l.length with h | h
      · rw [J.told_at h] at h23 ⊢
        rw [List.getElem?_eq_getElem h, Option.filter_some]
        simp only [Option.isSome_some, Option.getD_some, Bool.not_true, Bool.false_or, Bool.not_eq_false'] at h23
        rw [if_pos (by unfold J.isSt; rw [h23])]
      · rw [J.told_no (.inr (by omega)), List.getElem?_eq_none h]; rfl
    have hsm : (J.told l (J.frm l n s : Nat)).isSome = true := by
      cases h : (J.told l (J.frm l n s : Nat)).isSome with
      | true => rfl
      | false => rw [h] at h23; simp at h23
    refine Aw_skip (Aw_seq (Aw_region ?_))
    refine Al_p (Pu_loadbN (r := [_, _, _, _, _, _]) rfl Tryz.isAgg34 Tryz.sizeOf34 rfl rfl rfl rfl) ?_
    refine Al_storeN rfl rfl rfl (by kernel_rfl) Tryz.isAgg34 Tryz.sizeOf34 rfl rfl rfl rfl (Nat.le_of_ble_eq_true rfl) ?_
    refine Al_p Pu_mvr ?_
    refine Al_nil ?_
    refine Aw_ret ?_
    exact ⟨_, _, _, _, _, [_, _, _, _, _, _], _, rfl, rfl, rfl, rfl, Sub.rfl, by rw [hyes, verA, hsm]; rfl⟩ -- ret 1
set_option maxRecDepth 100000 in
theorem cbelow_a (l : List Ver) (n s : Int) : ACall Tryz.prog 133 [versA l, .row [iv n, iv s]] (verA (J.below l n s)) := by
  refine ACall_enterG (fun _ _ => by kernel_rfl) Tryz.func133 rfl Tryz.ntmps133 (Reads.cN1 Tryz.results133 Tryz.isAgg34 Tryz.sizeOf34) (Nat.le_of_ble_eq_true rfl) (fun hok M0 w0 hnl => ?_)
  have hlen := (hok _ (List.mem_cons_self ..)).len
  rw [List.length_map] at hlen
  have hfl := J.frm_le l n s
  refine Aw_seq (Aw_region ?_)
  refine Al_p (Pu_boxN rfl rfl) ?_
  refine Al_alloc rfl rfl rfl (by decide) Tryz.zeroValue34 rfl (by kernel_rfl) (fun g4 => ?_)
  refine Al_p Pu_mvr ?_
  refine Al_nil (Aw_seq (Aw_region ?_))
  refine Al_p Pu_mvl ?_
  refine Al_p (Pu_loadN rfl Tryz.isAgg31 Tryz.sizeOf31 rfl (Nat.le_of_ble_eq_true rfl)) ?_
  refine Al_p (Pu_call (cat_a l n s) rfl ⟨Sub.rfl, Sub.rfl, trivial⟩) ?_
  refine Al_p Pu_mvl ?_
  refine Al_p (Pu_extract rfl rfl rfl) ?_
  refine Al_p (Pu_extract rfl rfl rfl) ?_
  refine Al_alloc rfl rfl rfl (by decide) Tryz.zeroValue34 rfl (by kernel_rfl) (fun g6 => ?_)
  refine Al_storeN rfl rfl rfl (by kernel_rfl) Tryz.isAgg34 Tryz.sizeOf34 rfl rfl rfl rfl (Nat.le_of_ble_eq_true rfl) ?_
  refine Al_p Pu_mvr ?_
  refine Al_nil (Aw_seq (Aw_seq (Aw_region ?_)))
  refine Al_p Pu_mvl ?_
  refine Al_nil ?_
  refine Aw_cond rfl (fun h14 => ?_) (fun h14 => ?_)
  · skip
    obtain ⟨v, hv⟩ := Option.isSome_iff_exists.1 h14
    refine Aw_seq (Aw_region ?_)
    refine Al_p (Pu_loadbN (r := [_, _, _, _, _, _]) rfl Tryz.isAgg34 Tryz.sizeOf34 rfl rfl rfl rfl) ?_
    refine Al_storeN rfl rfl rfl (by kernel_rfl) Tryz.isAgg34 Tryz.sizeOf34 rfl rfl rfl rfl (Nat.le_of_ble_eq_true rfl) ?_
    refine Al_p Pu_mvr ?_
    refine Al_nil ?_
    refine Aw_ret ?_
    exact ⟨_, _, _, _, _, [_, _, _, _, _, _], _, rfl, rfl, rfl, rfl, Sub.rfl, by unfold J.below; rw [hv]; rfl⟩ -- ret 0
  · skip
    have hv : J.atc l n s = none := by simpa using h14
    refine Aw_skip (Aw_seq (Aw_region ?_))
    refine Al_p Pu_mvl ?_
    refine Al_p Pu_mvl ?_
    refine Al_p (Pu_loadN rfl Tryz.isAgg31 Tryz.sizeOf31 rfl (Nat.le_of_ble_eq_true rfl)) ?_
    refine Al_p (Pu_call (cfrom_a l n s) rfl ⟨Sub.rfl, Sub.rfl, trivial⟩) ?_
    refine Al_p (Pu_sub rfl rfl rfl (fun h1 h2 => by simp only [A.inI, A.maxI] at *; omega)) ?_
    refine Al_p (Pu_call (ctold_a l _) rfl ⟨Sub.rfl, Sub.rfl, trivial⟩) ?_
    refine Al_p (Pu_extract rfl rfl rfl) ?_
    refine Al_p (Pu_extract rfl rfl rfl) ?_
    refine Al_storeN rfl rfl rfl (by kernel_rfl) Tryz.isAgg34 Tryz.sizeOf34 rfl rfl rfl rfl (Nat.le_of_ble_eq_true rfl) ?_
    refine Al_p Pu_mvr ?_
    refine Al_nil ?_
    refine Aw_ret ?_
    exact ⟨_, _, _, _, _, [_, _, _, _, _, _], _, rfl, rfl, rfl, rfl, Sub.rfl, by unfold J.below; rw [hv]; rfl⟩ -- ret 1
set_option maxRecDepth 100000 in
set_option maxHeartbeats 1000000 in
theorem cput_a (l : List Ver) (v : Ver) (hl : l.length ≤ 1000) : ACall Tryz.prog 111 [versA l, .row v.row] (.tup [versA ((J.put l v).getD l), bv (J.put l v).isSome]) := by
  refine ACall_enter2 (fun _ _ => by kernel_rfl) Tryz.func111 rfl Tryz.ntmps111 Tryz.results111 (Nat.le_of_ble_eq_true rfl) (fun hok M0 w0 hnl => ?_)
  have hfl := J.frm_le l v.n v.s
  refine Aw_seq (Aw_region ?_)
  refine Al_p (Pu_boxN rfl rfl) ?_
  refine Al_p Pu_mvr ?_
  refine Al_p Pu_mvr ?_
  refine Al_nil (Aw_seq (Aw_region ?_))
  refine Al_p Pu_mvl ?_
  refine Al_p (Pu_field 3 rfl Tryz.underlying34 rfl rfl Tryz.sizeOf31 rfl) ?_
  refine Al_p (Pu_loadN rfl Tryz.isAgg31 Tryz.sizeOf31 rfl (Nat.le_of_ble_eq_true rfl)) ?_
  refine Al_p (Pu_call (cfrom_a l v.n v.s) rfl ⟨Sub.rfl, Sub.rfl, trivial⟩) ?_
  refine Al_p Pu_mvr ?_
  refine Al_nil (Aw_seq (Aw_seq ?_))
  refine Aw_draw 33 (by kernel_rfl) (by kernel_rfl) ?_
  refine Dr_p (Pu_loadN rfl Tryz.isAgg34 Tryz.sizeOf34 rfl (Nat.le_of_ble_eq_true rfl)) ?_
  refine Dr_p (Pu_call (wcheck_a v) rfl ⟨Sub.rfl, trivial⟩) ?_
  refine Dr_p (Pu_not rfl rfl) ?_
  refine Dr_p Pu_mvl ?_
  refine Dr_st (St_gd [] rfl rfl rfl rfl trivial (fun hg15 => by exact Pu_move (.inl rfl) (by conv => lhs; whnf))) rfl ?_
  refine Dr_st (St_gd [15] rfl rfl rfl rfl ⟨⟨_, rfl⟩, trivial⟩ (fun hg16 => by exact Pu_len rfl Tryz.underlying65 rfl (by first | exact List.length_map .. | exact rfl))) rfl ?_
  refine Dr_st (St_gd [16] rfl rfl rfl rfl ⟨⟨_, rfl⟩, trivial⟩ (fun hg17 => Pu_cmp rfl rfl rfl rfl)) rfl ?_
  refine Dr_st (St_gd [17] rfl rfl rfl rfl ⟨⟨_, rfl⟩, trivial⟩ (fun hg18 => by exact Pu_move (.inl rfl) (by conv => lhs; whnf))) rfl ?_
  refine Dr_st (St_gd2 [] rfl rfl rfl rfl trivial (fun hp19 hg19 => by exact Pu_move (.inl rfl) (by conv => lhs; whnf))) rfl ?_
  refine Dr_st (St_gd2 [19] rfl rfl rfl rfl ⟨⟨_, rfl⟩, trivial⟩ (fun hp20 hg20 => by exact Pu_index rfl Tryz.underlying65 Tryz.sizeOf34 rfl rfl (rfl) (mapgetD (d := default) (show 0 < l.length from by have := of_decide_eq_true hg20; omega)))) rfl ?_
  refine Dr_st (St_gd2 [20] rfl rfl rfl rfl ⟨⟨_, rfl⟩, trivial⟩ (fun hp21 hg21 => Pu_field 0 rfl Tryz.underlying34 rfl rfl Tryz.sizeOf9 rfl)) rfl ?_
  refine Dr_st (St_gd2 [21] rfl rfl rfl rfl ⟨⟨_, rfl⟩, trivial⟩ (fun hp22 hg22 => Pu_load1 rfl Tryz.isAgg9 rfl rfl)) rfl ?_
  refine Dr_st (St_gd2 [] rfl rfl rfl rfl trivial (fun hp23 hg23 => Pu_field 0 rfl Tryz.underlying34 rfl rfl Tryz.sizeOf9 rfl)) rfl ?_
  refine Dr_st (St_gd2 [23] rfl rfl rfl rfl ⟨⟨_, rfl⟩, trivial⟩ (fun hp24 hg24 => Pu_load1 rfl Tryz.isAgg9 rfl rfl)) rfl ?_
  refine Dr_st (St_gd2 [22, 24] rfl rfl rfl rfl ⟨⟨_, rfl⟩, ⟨_, rfl⟩, trivial⟩ (fun hp25 hg25 => Pu_str rfl rfl rfl rfl)) rfl ?_
  refine Dr_st (St_gd [18] rfl rfl rfl rfl ⟨⟨_, rfl⟩, trivial⟩ (fun hg26 => Pu_andG rfl rfl (fun h => ⟨hg26, h⟩) rfl rfl)) rfl ?_
  refine Dr_p (Pu_or rfl rfl rfl rfl) ?_
  refine Dr_p Pu_mvl ?_
  refine Dr_st (St_gd [] rfl rfl rfl rfl trivial (fun hg29 => by exact Pu_move (.inl rfl) (by conv => lhs; whnf))) rfl ?_
  refine Dr_st (St_gd [] rfl rfl rfl rfl trivial (fun hg30 => by exact Pu_move (.inl rfl) (by conv => lhs; whnf))) rfl ?_
  refine Dr_st (St_gd [30] rfl rfl rfl rfl ⟨⟨_, rfl⟩, trivial⟩ (fun hg31 => by exact Pu_len rfl Tryz.underlying65 rfl (by first | exact List.length_map .. | exact rfl))) rfl ?_
  refine Dr_st (St_gd [29, 31] rfl rfl rfl rfl ⟨⟨_, rfl⟩, ⟨_, rfl⟩, trivial⟩ (fun hg32 => Pu_cmp rfl rfl rfl rfl)) rfl ?_
  refine Dr_st (St_gd [32] rfl rfl rfl rfl ⟨⟨_, rfl⟩, trivial⟩ (fun hg33 => by exact Pu_move (.inl rfl) (by conv => lhs; whnf))) rfl ?_
  refine Dr_st (St_gd2 [] rfl rfl rfl rfl trivial (fun hp34 hg34 => by exact Pu_move (.inl rfl) (by conv => lhs; whnf))) rfl ?_
  refine Dr_st (St_gd2 [] rfl rfl rfl rfl trivial (fun hp35 hg35 => by exact Pu_move (.inl rfl) (by conv => lhs; whnf))) rfl ?_
  refine Dr_st (St_gd2 [34, 35] rfl rfl rfl rfl ⟨⟨_, rfl⟩, ⟨_, rfl⟩, trivial⟩ (fun hp36 hg36 => by exact Pu_index rfl Tryz.underlying65 Tryz.sizeOf34 rfl rfl (rfl) (mapgetD (d := default) (show J.frm l v.n v.s < l.length from by have := of_decide_eq_true hg36; omega)))) rfl ?_
  refine Dr_st (St_gd2 [36] rfl rfl rfl rfl ⟨⟨_, rfl⟩, trivial⟩ (fun hp37 hg37 => Pu_field 3 rfl Tryz.underlying34 rfl rfl Tryz.sizeOf31 rfl)) rfl ?_
  refine Dr_st (St_gd2 [37] rfl rfl rfl rfl ⟨⟨_, rfl⟩, trivial⟩ (fun hp38 hg38 => Pu_loadN rfl Tryz.isAgg31 Tryz.sizeOf31 rfl (Nat.le_of_ble_eq_true rfl))) rfl ?_
  refine Dr_st (St_gd2 [] rfl rfl rfl rfl trivial (fun hp39 hg39 => Pu_field 3 rfl Tryz.underlying34 rfl rfl Tryz.sizeOf31 rfl)) rfl ?_
  refine Dr_st (St_gd2 [39] rfl rfl rfl rfl ⟨⟨_, rfl⟩, trivial⟩ (fun hp40 hg40 => Pu_loadN rfl Tryz.isAgg31 Tryz.sizeOf31 rfl (Nat.le_of_ble_eq_true rfl))) rfl ?_
  refine Dr_st (St_gd2 [38, 40] rfl rfl rfl rfl ⟨⟨_, rfl⟩, ⟨_, rfl⟩, trivial⟩ (fun hp41 hg41 => Pu_eqrow [.int .i64 _, .int .i64 _] [.int .i64 _, .int .i64 _] (fun w => eqv31 _ _ _ _ _ _ w) rfl rfl rfl)) rfl ?_
  refine Dr_st (St_gd [33] rfl rfl rfl rfl ⟨⟨_, rfl⟩, trivial⟩ (fun hg42 => Pu_andG rfl rfl (fun h => ⟨hg42, h⟩) rfl rfl)) rfl ?_
  refine Dr_p (Pu_or rfl rfl rfl rfl) ?_
  refine Dr_nil (Al_nil ?_)
  refine Aw_cond rfl (fun h43 => ?_) (fun h43 => ?_)
  · skip
    have hno : J.put l v = none := by
      unfold J.put
      rw [if_neg]
      rintro ⟨h1, h2, h3⟩
      simp only [h1, Bool.not_true, Bool.false_or, Bool.or_eq_true, Bool.and_eq_true, decide_eq_true_eq, Bool.not_eq_true'] at h43
      rcases h43 with ⟨h4, h5⟩ | ⟨h4, h5⟩
      · have h6 : 0 < l.length := by omega
        have := h2 _ (List.getElem?_eq_getElem h6)
        rw [show l.getD 0 default = l[0] from by simp [h6]] at h5
        simp [this] at h5
      · have h6 : J.frm l v.n v.s < l.length := by omega
        have := h3 _ (List.getElem?_eq_getElem h6)
        unfold J.isSt at this
        rw [show l.getD (J.frm l v.n v.s) default = l[J.frm l v.n v.s] from by simp [h6]] at h5
        rw [Bool.and_eq_false_iff] at this
        simp only [beq_iff_eq] at h5
        rcases this with h | h <;> simp [h5] at h
    refine Aw_seq (Aw_region ?_)
    refine Al_p Pu_mvl ?_
    refine Al_p Pu_mvr ?_
    refine Al_p Pu_mvr ?_
    refine Al_nil ?_
    refine Aw_ret ?_
    exact ⟨Sub.d (by rw [hno]; rfl), Sub.bool (by rw [hno]; rfl)⟩ -- ret 0
  · skip
    have hyes : J.put l v = some (l.take (J.frm l v.n v.s) ++ v :: l.drop (J.frm l v.n v.s)) := by
      unfold J.put
      simp only [Bool.or_eq_false_iff, Bool.not_eq_false', Bool.and_eq_false_iff, decide_eq_false_iff_not] at h43
      obtain ⟨⟨h1, h2⟩, h3⟩ := h43
      refine if_pos ⟨h1, fun x hx => ?_, fun x hx => ?_⟩
      · obtain ⟨h6, rfl⟩ := List.getElem?_eq_some_iff.1 hx
        rcases h2 with h | h
        · omega
        · rw [show l.getD 0 default = l[0] from by simp [h6]] at h
          simpa using h
      · obtain ⟨h6, rfl⟩ := List.getElem?_eq_some_iff.1 hx
        rcases h3 with h | h
        · omega
        · rw [show l.getD (J.frm l v.n v.s) default = l[J.frm l v.n v.s] from by simp [h6]] at h
          unfold J.isSt
          rw [Bool.and_eq_false_iff]
          exact h
    refine Aw_skip ?_
    -- join 0: live [4, 5], turned [4, 5]
    refine Aw_seq ?_
    refine Aw_drawn (by kernel_rfl) ?_
    refine Ad_take 0 rfl (PuI_move (.inl rfl) (by conv => lhs; whnf)) rfl rfl (by decide) (by kernel_rfl) (by kernel_rfl) (by kernel_rfl) (by kernel_rfl) (fun _ _ h => h) ?_
    refine Ad_take 2 rfl (PuI_move (.inl rfl) (by conv => lhs; whnf)) rfl rfl (by decide) (by kernel_rfl) (by kernel_rfl) (by kernel_rfl) (by kernel_rfl) (fun _ _ h => h) ?_
    refine Ad_two 1 3 rfl rfl (by kernel_rfl) ?_ ?_
    · refine Al_gcall [] [(1001, 46)] (cloneV_g l (by omega)) rfl rfl rfl (by decide) (by kernel_rfl) trivial rfl ⟨Sub.rfl, trivial⟩ (fun g46 => ?_)
      refine Al_nil ?_
      refine Ad_one 3 rfl (by kernel_rfl) ?_
      refine Al_p (Pu_loadN rfl Tryz.isAgg34 Tryz.sizeOf34 rfl (Nat.le_of_ble_eq_true rfl)) ?_
      refine Al_nil ?_
      refine Ad_one 4 rfl (by kernel_rfl) ?_
      refine Al_sliceLit (aa := [(0, _)]) (rows := [v.row]) rfl rfl rfl (by decide) (by kernel_rfl) Tryz.underlying65 Tryz.sizeOf34 Tryz.zeroValue34 rfl (by decide) (by decide) (by decide) (by kernel_rfl) ⟨rfl, rfl, rfl, trivial⟩ (rfl) rfl rfl (fun g49 => ?_)
      refine Al_nil ?_
      refine Ad_one 5 rfl (by kernel_rfl) ?_
      refine Al_gcall [(1001, 46, g46), (1002, 49, g49)] [(1003, 50)] (insertV_g l v (J.frm l v.n v.s) hfl (by omega)) rfl rfl rfl (by decide) (by kernel_rfl) ⟨rfl, rfl, trivial⟩ rfl ⟨Sub.rfl, Sub.rfl, Sub.rfl, trivial⟩ (fun g50 => ?_)
      refine Al_nil ?_
      refine Ad_take 6 rfl (PuI_move (.inr rfl) (by conv => lhs; whnf)) rfl rfl (by decide) (by kernel_rfl) (by kernel_rfl) (by kernel_rfl) (by kernel_rfl) (fun _ _ h => h) ?_
      refine Ad_take 7 rfl (PuI_move (.inr rfl) (by conv => lhs; whnf)) rfl rfl (by decide) (by kernel_rfl) (by kernel_rfl) (by kernel_rfl) (by kernel_rfl) (fun _ _ h => h) ?_
      refine Ad_done (by kernel_rfl) ?_
      refine Aw_frz hnl (k := 50) [4] rfl ⟨rfl, trivial⟩ ?_
      refine Aw_ret ?_
      exact ⟨Sub.d (by rw [hyes]; rfl), Sub.bool (by rw [hyes]; rfl)⟩ -- ret 1
    · refine Al_p (Pu_loadN rfl Tryz.isAgg34 Tryz.sizeOf34 rfl (Nat.le_of_ble_eq_true rfl)) ?_
      refine Al_nil ?_
      refine Ad_two 1 4 rfl rfl (by kernel_rfl) ?_ ?_
      · refine Al_gcall [] [(1001, 46)] (cloneV_g l (by omega)) rfl rfl rfl (by decide) (by kernel_rfl) trivial rfl ⟨Sub.rfl, trivial⟩ (fun g46 => ?_)
        refine Al_nil ?_
        refine Ad_one 4 rfl (by kernel_rfl) ?_
        refine Al_sliceLit (aa := [(0, _)]) (rows := [v.row]) rfl rfl rfl (by decide) (by kernel_rfl) Tryz.underlying65 Tryz.sizeOf34 Tryz.zeroValue34 rfl (by decide) (by decide) (by decide) (by kernel_rfl) ⟨rfl, rfl, rfl, trivial⟩ (rfl) rfl rfl (fun g49 => ?_)
        refine Al_nil ?_
        refine Ad_one 5 rfl (by kernel_rfl) ?_
        refine Al_gcall [(1001, 46, g46), (1002, 49, g49)] [(1003, 50)] (insertV_g l v (J.frm l v.n v.s) hfl (by omega)) rfl rfl rfl (by decide) (by kernel_rfl) ⟨rfl, rfl, trivial⟩ rfl ⟨Sub.rfl, Sub.rfl, Sub.rfl, trivial⟩ (fun g50 => ?_)
        refine Al_nil ?_
        refine Ad_take 6 rfl (PuI_move (.inr rfl) (by conv => lhs; whnf)) rfl rfl (by decide) (by kernel_rfl) (by kernel_rfl) (by kernel_rfl) (by kernel_rfl) (fun _ _ h => h) ?_
        refine Ad_take 7 rfl (PuI_move (.inr rfl) (by conv => lhs; whnf)) rfl rfl (by decide) (by kernel_rfl) (by kernel_rfl) (by kernel_rfl) (by kernel_rfl) (fun _ _ h => h) ?_
        refine Ad_done (by kernel_rfl) ?_
        refine Aw_frz hnl (k := 50) [4] rfl ⟨rfl, trivial⟩ ?_
        refine Aw_ret ?_
        exact ⟨Sub.d (by rw [hyes]; rfl), Sub.bool (by rw [hyes]; rfl)⟩ -- ret 2
      · refine Al_sliceLit (aa := [(0, _)]) (rows := [v.row]) rfl rfl rfl (by decide) (by kernel_rfl) Tryz.underlying65 Tryz.sizeOf34 Tryz.zeroValue34 rfl (by decide) (by decide) (by decide) (by kernel_rfl) ⟨rfl, rfl, rfl, trivial⟩ (rfl) rfl rfl (fun g49 => ?_)
        refine Al_nil ?_
        refine Ad_one 1 rfl (by kernel_rfl) ?_
        refine Al_gcall [] [(1001, 46)] (cloneV_g l (by omega)) rfl rfl rfl (by decide) (by kernel_rfl) trivial rfl ⟨Sub.rfl, trivial⟩ (fun g46 => ?_)
        refine Al_nil ?_
        refine Ad_one 5 rfl (by kernel_rfl) ?_
        refine Al_gcall [(1001, 46, g46), (1002, 49, g49)] [(1003, 50)] (insertV_g l v (J.frm l v.n v.s) hfl (by omega)) rfl rfl rfl (by decide) (by kernel_rfl) ⟨rfl, rfl, trivial⟩ rfl ⟨Sub.rfl, Sub.rfl, Sub.rfl, trivial⟩ (fun g50 => ?_)
        refine Al_nil ?_
        refine Ad_take 6 rfl (PuI_move (.inr rfl) (by conv => lhs; whnf)) rfl rfl (by decide) (by kernel_rfl) (by kernel_rfl) (by kernel_rfl) (by kernel_rfl) (fun _ _ h => h) ?_
        refine Ad_take 7 rfl (PuI_move (.inr rfl) (by conv => lhs; whnf)) rfl rfl (by decide) (by kernel_rfl) (by kernel_rfl) (by kernel_rfl) (by kernel_rfl) (fun _ _ h => h) ?_
        refine Ad_done (by kernel_rfl) ?_
        refine Aw_frz hnl (k := 50) [4] rfl ⟨rfl, trivial⟩ ?_
        refine Aw_ret ?_
        exact ⟨Sub.d (by rw [hyes]; rfl), Sub.bool (by rw [hyes]; rfl)⟩ -- ret 3
set_option maxRecDepth 100000 in
theorem ckeeps1_a (x v : Ver) (b : Bool) : ACall Tryz.prog 130 [.row x.row, bv b, .fp v.row] (bv (b && decide (x = v))) := by
  refine ACall_enter (fun _ _ => by kernel_rfl) Tryz.func130 rfl Tryz.ntmps130 Tryz.results130 (Nat.le_of_ble_eq_true rfl) (fun hok M0 w0 hnl => ?_)
  refine Aw_seq (Aw_region ?_)
  refine Al_p (Pu_boxN rfl rfl) ?_
  refine Al_p Pu_mvr ?_
  refine Al_nil (Aw_seq (Aw_region ?_))
  refine Al_p Pu_mvl ?_
  refine Al_p Pu_mvl ?_
  refine Al_st (St_gd [] rfl rfl rfl rfl trivial (fun hg8 => Pu_loadN rfl Tryz.isAgg34 Tryz.sizeOf34 rfl (Nat.le_of_ble_eq_true rfl))) rfl (by decide) (by kernel_rfl) (by intro j b oj dj h1 h2 h3; cases h1; cases h2; cases h3; decide) ?_
  refine Al_st (St_gd [] rfl rfl rfl rfl trivial (fun hg9 => Pu_loadN rfl Tryz.isAgg34 Tryz.sizeOf34 rfl (Nat.le_of_ble_eq_true rfl))) rfl (by decide) (by kernel_rfl) (by intro j b oj dj h1 h2 h3; cases h1; cases h2; cases h3; decide) ?_
  refine Al_st (St_gd [8, 9] rfl rfl rfl rfl ⟨⟨_, rfl⟩, ⟨_, rfl⟩, trivial⟩ (fun hg10 => Pu_call (wsame_a x v) rfl ⟨Sub.rfl, Sub.rfl, trivial⟩)) rfl (by decide) (by kernel_rfl) (by intro j b oj dj h1 h2 h3; cases h1; cases h2; cases h3; decide) ?_
  refine Al_p (Pu_and rfl rfl rfl rfl) ?_
  refine Al_p Pu_mvr ?_
  refine Al_nil ?_
  refine Aw_ret ?_
  exact Sub.rfl -- ret 0
set_option maxRecDepth 100000 in
theorem indexSt_a (l : List (Int × Int)) (n s : Int) : ACall Tryz.prog 145 [.sl 2 (l.map stA), .row [iv n, iv s]] (iv (S.find (fun p => (n == p.1) && (s == p.2)) l)) := by
  refine ACall_enter (fun _ _ => by kernel_rfl) Tryz.func145 rfl Tryz.ntmps145 Tryz.results145 (Nat.le_of_ble_eq_true rfl) (fun hok M0 w0 hnl => ?_)
  have hlen := (hok _ (List.mem_cons_self ..)).len
  rw [List.length_map] at hlen
  refine Aw_seq (Aw_region ?_)
  refine Al_p (Pu_boxN rfl rfl) ?_
  refine Al_p Pu_mvr ?_
  refine Al_nil (Aw_seq (Aw_seq (Aw_region ?_)))
  refine Al_p Pu_mvl ?_
  refine Al_p (Pu_len rfl Tryz.underlying101 rfl (by first | exact List.length_map .. | exact rfl)) ?_
  refine Al_p Pu_mvl ?_
  refine Al_nil (Aw_block ?_)
  refine Aw_loopk (ι := Nat) [0, 3, 7] [] (fun k => [(8, .d (iv k))]) (fun k => []) (fun k => k ≤ l.length ∧ ∀ j (h : j < l.length), j < k → ((n == l[j].1) && (s == l[j].2)) = false) (fun k => l.length - k) (0) (⟨Nat.zero_le _, by intros; omega⟩) ⟨Sub.rfl, trivial⟩ trivial ?_
  rintro k ⟨hk0, hk2⟩
  refine Aw_seq (Aw_region ?_)
  refine Al_p (Pu_cmp rfl rfl rfl rfl) ?_
  refine Al_nil (Aw_seq ?_)
  refine Aw_cond rfl (fun h9 => ?_) (fun h9 => ?_)
  · (try simp only [decide_eq_true_eq, decide_eq_false_iff_not, Bool.and_eq_true, Bool.or_eq_true, Bool.and_eq_false_iff, Bool.or_eq_false_iff, Bool.not_eq_true', Bool.not_eq_false', beq_iff_eq, Bool.not_eq_eq_eq_not, Bool.not_true, Bool.not_false, List.length_map, Bool.and_true, Bool.and_false, Bool.false_and, Bool.true_and, Bool.or_false, Bool.false_or] at h9)
    have hk : k < l.length := by omega
    refine Aw_skip (Aw_seq (Aw_block (Aw_seq (Aw_region ?_))))
    refine Al_p Pu_mvl ?_
    refine Al_p Pu_mvr ?_
    refine Al_nil (Aw_seq ?_)
    refine Aw_draw 6 (by kernel_rfl) (by kernel_rfl) ?_
    refine Dr_p (Pu_loadN rfl Tryz.isAgg31 Tryz.sizeOf31 rfl (Nat.le_of_ble_eq_true rfl)) ?_
    refine Dr_p Pu_mvl ?_
    refine Dr_p Pu_mvl ?_
    refine Dr_p (Pu_index rfl Tryz.underlying101 Tryz.sizeOf31 rfl rfl (rfl) (mapget hk)) ?_
    refine Dr_p (Pu_loadN rfl Tryz.isAgg31 Tryz.sizeOf31 rfl (Nat.le_of_ble_eq_true rfl)) ?_
    refine Dr_p (Pu_eqrow [.int .i64 _, .int .i64 _] [.int .i64 _, .int .i64 _] (fun w => eqv31 _ _ _ _ _ _ w) rfl rfl rfl) ?_
    refine Dr_nil (Al_nil ?_)
    refine Aw_cond rfl (fun h16 => ?_) (fun h16 => ?_)
    · skip
      refine Aw_seq (Aw_region ?_)
      refine Al_p Pu_mvl ?_
      refine Al_p Pu_mvr ?_
      refine Al_nil ?_
      refine Aw_ret ?_
      exact Sub.num (S.find_at hk h16 hk2) -- ret 0
    · skip
      have h16' : ((n == l[k].1) && (s == l[k].2)) = false := h16
      refine Aw_skip (Aw_region ?_)
      refine Al_p (Pu_add rfl rfl rfl (fun h1 h2 => by simp only [A.inI, A.maxI] at *; omega)) ?_
      refine Al_p Pu_mvl ?_
      refine Al_nil ?_
      exact ⟨k + 1, ⟨by omega, fun j hj hjk => by
        by_cases e : j = k
        · subst e; exact h16'
        · exact hk2 j hj (by omega)⟩, by omega, Le.ov ⟨Sub.num (by omega), trivial⟩ ⟨Sub.rfl, Sub.rfl, Sub.rfl, trivial⟩ trivial trivial⟩ -- loop 0 next.0
  · (try simp only [decide_eq_true_eq, decide_eq_false_iff_not, Bool.and_eq_true, Bool.or_eq_true, Bool.and_eq_false_iff, Bool.or_eq_false_iff, Bool.not_eq_true', Bool.not_eq_false', beq_iff_eq, Bool.not_eq_eq_eq_not, Bool.not_true, Bool.not_false, List.length_map, Bool.and_true, Bool.and_false, Bool.false_and, Bool.true_and, Bool.or_false, Bool.false_or] at h9)
    obtain rfl : k = l.length := by omega
    refine Aw_exit (Aw_seq (Aw_region ?_))
    refine Al_p Pu_mvr ?_
    refine Al_nil ?_
    refine Aw_ret ?_
    exact Sub.num (S.find_no hk2) -- ret 1
theorem containsSt_a (l : List (Int × Int)) (n s : Int) : ACall Tryz.prog 132 [.sl 2 (l.map stA), .row [iv n, iv s]] (bv (l.any fun p => (n == p.1) && (s == p.2))) := by
  refine ACall_enter (fun _ _ => by kernel_rfl) Tryz.func132 rfl Tryz.ntmps132 Tryz.results132 (Nat.le_of_ble_eq_true rfl) (fun hok M0 w0 hnl => ?_)
  refine Aw_seq (Aw_region ?_)
  refine Al_p (Pu_boxN rfl rfl) ?_
  refine Al_p Pu_mvr ?_
  refine Al_nil (Aw_seq (Aw_region ?_))
  refine Al_p Pu_mvl ?_
  refine Al_p (Pu_loadN rfl Tryz.isAgg31 Tryz.sizeOf31 rfl (Nat.le_of_ble_eq_true rfl)) ?_
  refine Al_p (Pu_call (indexSt_a l n s) rfl ⟨Sub.rfl, Sub.rfl, trivial⟩) ?_
  refine Al_p (Pu_cmp rfl rfl rfl rfl) ?_
  refine Al_p Pu_mvr ?_
  refine Al_nil ?_
  refine Aw_ret ?_
  exact Sub.bool S.find_any -- ret 0
set_option maxRecDepth 100000 in
set_option maxHeartbeats 1000000 in
theorem ckeeps_a (l : List Ver) (n s : Int) (pins : List (Int × Int)) (v : Ver) : ACall Tryz.prog 114 [versA l, .row [iv n, iv s], .sl 2 (pins.map stA), .row v.row] (bv (J.keeps l n s pins v)) := by
  refine ACall_enter (fun _ _ => by kernel_rfl) Tryz.func114 rfl Tryz.ntmps114 Tryz.results114 (Nat.le_of_ble_eq_true rfl) (fun hok M0 w0 hnl => ?_)
  have hh := chead_a l
  have hb := cbelow_a l n s
  have k1 := ckeeps1_a ((J.head l).getD default) v (J.head l).isSome
  have k2 := ckeeps1_a ((J.below l n s).getD default) v (J.below l n s).isSome
  refine Aw_seq (Aw_region ?_)
  refine Al_p (Pu_boxN rfl rfl) ?_
  refine Al_p (Pu_boxN rfl rfl) ?_
  refine Al_p Pu_mvr ?_
  refine Al_nil (Aw_seq (Aw_region ?_))
  refine Al_p (Pu_makeFunc (caps := [_]) rfl ⟨Sub.rfl, trivial⟩) ?_
  refine Al_p Pu_mvr ?_
  refine Al_nil (Aw_seq (Aw_region ?_))
  refine Al_p Pu_mvl ?_
  refine Al_p (Pu_field 3 rfl Tryz.underlying34 rfl rfl Tryz.sizeOf31 rfl) ?_
  refine Al_p (Pu_loadN rfl Tryz.isAgg31 Tryz.sizeOf31 rfl (Nat.le_of_ble_eq_true rfl)) ?_
  refine Al_p (Pu_call (containsSt_a pins _ _) rfl ⟨Sub.rfl, Sub.rfl, trivial⟩) ?_
  refine Al_p Pu_mvl ?_
  refine Al_st (St_gd [] rfl rfl rfl rfl trivial (fun hg16 => Pu_field 3 rfl Tryz.underlying34 rfl rfl Tryz.sizeOf31 rfl)) rfl (by decide) (by kernel_rfl) (by intro j b oj dj h1 h2 h3; cases h1; cases h2; cases h3; decide) ?_
  refine Al_st (St_gd [16] rfl rfl rfl rfl ⟨⟨_, rfl⟩, trivial⟩ (fun hg17 => Pu_loadN rfl Tryz.isAgg31 Tryz.sizeOf31 rfl (Nat.le_of_ble_eq_true rfl))) rfl (by decide) (by kernel_rfl) (by intro j b oj dj h1 h2 h3; cases h1; cases h2; cases h3; decide) ?_
  refine Al_st (St_gd [] rfl rfl rfl rfl trivial (fun hg18 => Pu_loadN rfl Tryz.isAgg31 Tryz.sizeOf31 rfl (Nat.le_of_ble_eq_true rfl))) rfl (by decide) (by kernel_rfl) (by intro j b oj dj h1 h2 h3; cases h1; cases h2; cases h3; decide) ?_
  refine Al_st (St_gd [17, 18] rfl rfl rfl rfl ⟨⟨_, rfl⟩, ⟨_, rfl⟩, trivial⟩ (fun hg19 => Pu_call (less_a _ _ _ _) rfl ⟨Sub.rfl, Sub.rfl, trivial⟩)) rfl (by decide) (by kernel_rfl) (by intro j b oj dj h1 h2 h3; cases h1; cases h2; cases h3; decide) ?_
  refine Al_st (St_gd [19] rfl rfl rfl rfl ⟨⟨_, rfl⟩, trivial⟩ (fun hg20 => Pu_not rfl rfl)) rfl (by decide) (by kernel_rfl) (by intro j b oj dj h1 h2 h3; cases h1; cases h2; cases h3; decide) ?_
  refine Al_p (Pu_or rfl rfl rfl rfl) ?_
  refine Al_p Pu_mvl ?_
  refine Al_st (St_gd [] rfl rfl rfl rfl trivial (fun hg23 => by exact Pu_move (.inl rfl) (by conv => lhs; whnf))) rfl (by decide) (by kernel_rfl) (by intro j b oj dj h1 h2 h3; cases h1; cases h2; cases h3; decide) ?_
  refine Al_st (St_gd [] rfl rfl rfl rfl trivial (fun hg24 => by exact Pu_move (.inl rfl) (by conv => lhs; whnf))) rfl (by decide) (by kernel_rfl) (by intro j b oj dj h1 h2 h3; cases h1; cases h2; cases h3; decide) ?_
  refine Al_st (St_gd [24] rfl rfl rfl rfl ⟨⟨_, rfl⟩, trivial⟩ (fun hg25 => Pu_call (hh) rfl ⟨Sub.rfl, trivial⟩)) rfl (by decide) (by kernel_rfl) (by intro j b oj dj h1 h2 h3; cases h1; cases h2; cases h3; decide) ?_
  refine Al_st (St_gd [25] rfl rfl rfl rfl ⟨⟨_, rfl⟩, trivial⟩ (fun hg26 => Pu_extract rfl rfl rfl)) rfl (by decide) (by kernel_rfl) (by intro j b oj dj h1 h2 h3; cases h1; cases h2; cases h3; decide) ?_
  refine Al_st (St_gd [25] rfl rfl rfl rfl ⟨⟨_, rfl⟩, trivial⟩ (fun hg27 => Pu_extract rfl rfl rfl)) rfl (by decide) (by kernel_rfl) (by intro j b oj dj h1 h2 h3; cases h1; cases h2; cases h3; decide) ?_
  refine Al_st (St_gd [23, 26, 27] rfl rfl rfl rfl ⟨⟨_, rfl⟩, ⟨_, rfl⟩, ⟨_, rfl⟩, trivial⟩ (fun hg28 => Pu_callv (aa := [.row ((J.head l).getD default).row, bv (J.head l).isSome]) (caps := [.fp v.row]) k1 rfl rfl ⟨Sub.rfl, Sub.rfl, trivial⟩)) rfl (by decide) (by kernel_rfl) (by intro j b oj dj h1 h2 h3; cases h1; cases h2; cases h3; decide) ?_
  refine Al_p (Pu_or rfl rfl rfl rfl) ?_
  refine Al_p Pu_mvl ?_
  refine Al_st (St_gd [] rfl rfl rfl rfl trivial (fun hg31 => by exact Pu_move (.inl rfl) (by conv => lhs; whnf))) rfl (by decide) (by kernel_rfl) (by intro j b oj dj h1 h2 h3; cases h1; cases h2; cases h3; decide) ?_
  refine Al_st (St_gd [] rfl rfl rfl rfl trivial (fun hg32 => by exact Pu_move (.inl rfl) (by conv => lhs; whnf))) rfl (by decide) (by kernel_rfl) (by intro j b oj dj h1 h2 h3; cases h1; cases h2; cases h3; decide) ?_
  refine Al_st (St_gd [] rfl rfl rfl rfl trivial (fun hg33 => Pu_loadN rfl Tryz.isAgg31 Tryz.sizeOf31 rfl (Nat.le_of_ble_eq_true rfl))) rfl (by decide) (by kernel_rfl) (by intro j b oj dj h1 h2 h3; cases h1; cases h2; cases h3; decide) ?_
  refine Al_st (St_gd [32, 33] rfl rfl rfl rfl ⟨⟨_, rfl⟩, ⟨_, rfl⟩, trivial⟩ (fun hg34 => Pu_call (hb) rfl ⟨Sub.rfl, Sub.rfl, trivial⟩)) rfl (by decide) (by kernel_rfl) (by intro j b oj dj h1 h2 h3; cases h1; cases h2; cases h3; decide) ?_
  refine Al_st (St_gd [34] rfl rfl rfl rfl ⟨⟨_, rfl⟩, trivial⟩ (fun hg35 => Pu_extract rfl rfl rfl)) rfl (by decide) (by kernel_rfl) (by intro j b oj dj h1 h2 h3; cases h1; cases h2; cases h3; decide) ?_
  refine Al_st (St_gd [34] rfl rfl rfl rfl ⟨⟨_, rfl⟩, trivial⟩ (fun hg36 => Pu_extract rfl rfl rfl)) rfl (by decide) (by kernel_rfl) (by intro j b oj dj h1 h2 h3; cases h1; cases h2; cases h3; decide) ?_
  refine Al_st (St_gd [31, 35, 36] rfl rfl rfl rfl ⟨⟨_, rfl⟩, ⟨_, rfl⟩, ⟨_, rfl⟩, trivial⟩ (fun hg37 => Pu_callv (aa := [.row ((J.below l n s).getD default).row, bv (J.below l n s).isSome]) (caps := [.fp v.row]) k2 rfl rfl ⟨Sub.rfl, Sub.rfl, trivial⟩)) rfl (by decide) (by kernel_rfl) (by intro j b oj dj h1 h2 h3; cases h1; cases h2; cases h3; decide) ?_
  refine Al_p (Pu_or rfl rfl rfl rfl) ?_
  refine Al_p Pu_mvr ?_
  refine Al_nil ?_
  refine Aw_ret ?_
  exact Sub.rfl -- ret 0
set_option maxRecDepth 100000 in
theorem cclean1_a (l : List Ver) (n s : Int) (pins : List (Int × Int)) (v : Ver) : ACall Tryz.prog 113 [.row v.row, .fp [versA l], .fp [iv n, iv s], .fp [.sl 2 (pins.map stA)]] (bv (!J.keeps l n s pins v)) := by
  refine ACall_enter (fun _ _ => by kernel_rfl) Tryz.func113 rfl Tryz.ntmps113 Tryz.results113 (Nat.le_of_ble_eq_true rfl) (fun hok M0 w0 hnl => ?_)
  refine Aw_seq (Aw_region ?_)
  refine Al_p (Pu_boxN rfl rfl) ?_
  refine Al_p Pu_mvr ?_
  refine Al_nil (Aw_seq (Aw_region ?_))
  refine Al_p (Pu_load1 rfl Tryz.isAgg65 rfl rfl) ?_
  refine Al_p (Pu_loadN rfl Tryz.isAgg31 Tryz.sizeOf31 rfl (Nat.le_of_ble_eq_true rfl)) ?_
  refine Al_p (Pu_load1 rfl Tryz.isAgg101 rfl rfl) ?_
  refine Al_p (Pu_loadN rfl Tryz.isAgg34 Tryz.sizeOf34 rfl (Nat.le_of_ble_eq_true rfl)) ?_
  refine Al_p (Pu_call (ckeeps_a l n s pins v) rfl ⟨Sub.rfl, Sub.rfl, Sub.rfl, Sub.rfl, trivial⟩) ?_
  refine Al_p (Pu_not rfl rfl) ?_
  refine Al_p Pu_mvr ?_
  refine Al_nil ?_
  refine Aw_ret ?_
  exact Sub.rfl -- ret 0
set_option maxRecDepth 100000 in
theorem cclean_a (l : List Ver) (n s : Int) (pins : List (Int × Int)) (hl : l.length ≤ 1000000) : ACall Tryz.prog 91 [versA l, .row [iv n, iv s], .sl 2 (pins.map stA)] (versA (J.clean l n s pins)) := by
  refine ACall_enter (fun _ _ => by kernel_rfl) Tryz.func91 rfl Tryz.ntmps91 Tryz.results91 (Nat.le_of_ble_eq_true rfl) (fun hok M0 w0 hnl => ?_)
  have hdel := delfuncV_g l 113 [.fp [versA l], .fp [iv n, iv s], .fp [.sl 2 (pins.map stA)]] (fun v => !J.keeps l n s pins v) (fun v => cclean1_a l n s pins v) hl
  refine Aw_seq (Aw_region ?_)
  refine Al_p (Pu_box1 rfl rfl (by nofun) (by nofun)) ?_
  refine Al_p (Pu_boxN rfl rfl) ?_
  refine Al_p (Pu_box1 rfl rfl (by nofun) (by nofun)) ?_
  refine Al_p Pu_mvr ?_
  refine Al_nil (Aw_seq (Aw_region ?_))
  refine Al_p (Pu_load1 rfl Tryz.isAgg65 rfl rfl) ?_
  refine Al_gcall [] [(1001, 8)] (cloneV_g l hl) rfl rfl rfl (by decide) (by kernel_rfl) trivial rfl ⟨Sub.rfl, trivial⟩ (fun g8 => ?_)
  refine Al_p (Pu_makeFunc (caps := [_, _, _]) rfl ⟨Sub.rfl, Sub.rfl, Sub.rfl, trivial⟩) ?_
  refine Al_gcall [(1001, 8, g8)] [(1002, 10)] (hdel) rfl rfl rfl (by decide) (by kernel_rfl) ⟨rfl, trivial⟩ rfl ⟨Sub.rfl, Sub.rfl, trivial⟩ (fun g10 => ?_)
  refine Al_p Pu_mvr ?_
  refine Al_nil ?_
  refine Aw_frz hnl (k := 10) [6] rfl ⟨rfl, trivial⟩ ?_
  refine Aw_ret ?_
  exact Sub.d (by unfold J.clean; simp) -- ret 0
end Go.Proofs.YtmbaeloiepjakaaGreat
end

section
namespace Go.Proofs.YtmbaeloiepjakaaGreat.A
open Go Go.RowKit
section
variable {P : Program} {N : Nat} {M0 : Nat → Prop} {w0 : Base} {ops : Array Oper} {Q : Exit → ASt → Prop} {o : Oper} {l : List Oper} {st : ASt}
end
end Go.Proofs.YtmbaeloiepjakaaGreat.A
namespace Go.Proofs.YtmbaeloiepjakaaGreat.A
open Go Go.RowKit
/-- A map of the call's own: its block, how many entries it has at most, and what stands there. -/
def mapO {κ α : Type} (kv : κ → Value) (ok : κ → Prop) (enc : α → AV) (b n : Nat) (m : κ → Option α) : OP where
  F := fun c => c = b
  I := fun M w _ h => h = .map (some b) ∧ R.Mp kv ok (fun w v x => Rep M w (enc x) v) w b n m
  mono := fun {M M' w w' ρ h} k hb hI => ⟨hI.1, hI.2.mono (hb b rfl) fun v x hv => hv.mono k⟩
  rho := fun _ h => h
  lt := fun {M w ρ h} hI c hc => by subst hc; exact hI.2.lt
section
variable {P : Program} {N : Nat} {M0 : Nat → Prop} {w0 : Base} {ops : Array Oper} {Q : Exit → ASt → Prop} {o : Oper} {l : List Oper} {st : ASt}
theorem Al_makeMap {κ α : Type} (kv : κ → Value) (ok : κ → Prop) (enc : α → AV) {d : Nat} {t : TypeId} (ho : o.op = .makeMap t none) (hg : o.guard = none) (hd : o.dst = some d) (hN : d < N)
    (h : ∀ b g, Al P N M0 w0 ops Q l ((st.put d g (.op (mapO kv ok enc b 0 (fun _ => none)))).set d (.ow d g))) : Al P N M0 w0 ops Q (o :: l) st := by
  refine ⟨?_⟩
  rintro a w ⟨ρ, hsim⟩
  obtain ⟨g', ρ', r1, r2, r3⟩ := hsim.upd2 (w' := w.alloc (.map #[] 0)) d ⟨rfl, rfl, rfl⟩ (by simp) (fun b hb _ => heap_alloc_old w _ hb) (x' := .map (some w.heap.size)) (o' := .op (mapO kv ok enc w.heap.size 0 (fun _ => none))) (fun b hb => .inl (by have : b = w.heap.size := hb; omega))
    (fun M' ρ' hK _ => ⟨fun b hb => .inl (by have : b = w.heap.size := hb; have := hsim.ext.size; omega), rfl, R.Mp.made kv ok _ w⟩)
  refine wpList_plain hg fun K hK => wp_upon ?_
  have e : (execOp a.eval o).run P w = .ok (.value (.map (some w.heap.size))) (w.alloc (.map #[] 0)) := by
    simp only [execOp, ho, Option.map_none, Sem.run_bind, run_makeMap, Result.andThen_ok, Sem.run_pure]
  rw [e]
  refine hK _ _ ((h w.heap.size g').out _ _ ⟨ρ', ?_⟩)
  rw [hd]
  exact r1.set hN ⟨r2, rfl⟩
/-- What reads aas a datum is just one value. -/
def Only (a : AV) (x : Value) : Prop := ∀ (M : Nat → Prop) (w : World) (y : Value), Rep M w a y → y = x
theorem Only.v (x : Value) : Only (.v x) x := fun M w y h => by cases h; rfl
theorem Only.row (us : List Value) : Only (.row (us.map .v)) (.agg us.toArray) := fun M w y h => by
  cases h with
  | row cs vs hl h1 hr =>
    congr 2
    apply List.ext_getElem?
    intro j
    rw [List.length_map] at hl
    rcases Nat.lt_or_ge j us.length with hj | hj
    · have h2 := hr j (.v us[j]) (vs[j]'(by omega)) (by simp [hj]) (by simp [hl, hj])
      have : vs[j]'(by omega) = us[j] := by generalize vs[j]'(by omega) = u at h2; cases h2; rfl
      rw [List.getElem?_eq_getElem hj, List.getElem?_eq_getElem (by omega), this]
    · rw [List.getElem?_eq_none hj, List.getElem?_eq_none (by omega)]
/-- What a lookup tells. -/
def lookA {α : Type} (enc : α → AV) (z : AV) : Option α → AV
  | some x => enc x
  | none => z
theorem Pu_lookup {κ α : Type} {kv : κ → Value} {ok : κ → Prop} {enc : α → AV} {b n : Nat} {m : κ → Option α} {t kt e : TypeId} {x y : Operand} {k g : Nat} {ky z : AV} {zv : Value} {c : κ} (T : R.KeyT P kt κ kv ok) (ho : o.op = .lookup t x y false) (ht : P.underlying t = some (.map kt e)) (hz : ∀ w, (zeroValue e).run P w = .ok zv w) (hzr : ∀ M w, Rep M w z zv) (hx : st.ev x = .ow k g) (hob : st.ob k = some (g, .op (mapO kv ok enc b n m))) (hy : st.ev y = .d ky) (hky : Only ky (kv c)) (hok : ok c) : Pu P st o (.d (lookA enc z (m c))) := fun B M ρ w a hM h2 h3 hev K hK => by
  have h1 := h2 x (by simp [opsOf, ho, Op.operands])
  have h4 := h2 y (by simp [opsOf, ho, Op.operands])
  rw [hx] at h1
  rw [hy] at h4
  obtain ⟨k1, _⟩ := h1
  obtain ⟨u, hu, _, he, hmp⟩ := h3 k g _ hob
  rw [k1] at hu; cases hu
  have hyv := hky _ _ _ h4
  obtain ⟨v, hr, hv1, hv2⟩ := hmp.look T ht hz c hok false
  have e : (execOp a.eval o).run P w = .ok (.value v) w := by
    simp only [execOp, ho, he, hyv, hr, Sem.run_bind, Result.andThen_ok, Sem.run_pure, Bool.false_eq_true, if_false]
  rw [e]
  refine hK _ _ (Kn.refl _) ?_
  cases hm : m c with
  | none => rw [hv2 hm]; exact hzr M w
  | some x => exact hv1 x hm
theorem Al_mapUpdate {κ α : Type} [DecidableEq κ] {kv : κ → Value} {ok : κ → Prop} {enc : α → AV} {b n : Nat} {m : κ → Option α} {t kt e : TypeId} {x y z : Operand} {k g : Nat} {ky : AV} {c : κ} {v : α} (T : R.KeyT P kt κ kv ok) (ho : o.op = .mapUpdate t x y z) (hg : o.guard = none) (hd : o.dst = none) (hc : conB o = true) (ht : P.underlying t = some (.map kt e)) (hn : n < maxLen) (hx : st.ev x = .ow k g) (hob : st.ob k = some (g, .op (mapO kv ok enc b n m))) (hy : st.ev y = .d ky) (hky : Only ky (kv c)) (hok : ok c) (hz : Sub (st.ev z) (.d (enc v)))
    (h : Al P N M0 w0 ops Q l (st.put k g (.op (mapO kv ok enc b (n + 1) (fun c' => if c' = c then some v else m c'))))) : Al P N M0 w0 ops Q (o :: l) st := by
  refine ⟨?_⟩
  rintro a w ⟨ρ, hsim⟩
  have hev := hsim.ev hc
  have h1 := hev x (by simp [opsOf, ho, Op.operands])
  have h4 := hev y (by simp [opsOf, ho, Op.operands])
  have h5 := hz _ _ _ _ (hev z (by simp [opsOf, ho, Op.operands]))
  rw [hx] at h1
  rw [hy] at h4
  obtain ⟨k1, _⟩ := h1
  obtain ⟨u, hu, hF, he, hmp⟩ := hsim.obj k g _ hob
  rw [k1] at hu; cases hu
  have hyv := hky _ _ _ h4
  have hb : Mt M0 ρ st.ob b := .inr ⟨k, g, _, _, hob, k1, rfl⟩
  have hkn : ∀ w', w.grownBy w' (some b) → w'.heap.size = w.heap.size → Known (Mt M0 ρ st.ob) (Mt M0 ρ st.ob) w w' := fun w' hgr _ c' hc' hm => ⟨hm, hgr.block c' hc' (fun e => hm (by simp only [Option.some.injEq] at e; exact e ▸ hb))⟩
  obtain ⟨w', hr, hmp', hgr, hsz⟩ := hmp.store T ht hn c hok (a.eval z) v (fun w' hgr hs v x hv => hv.mono (hkn w' hgr hs)) h5
  have hs2 := hsim.mod (w' := w') hob k1 ⟨hgr.os, hgr.tape, hgr.output⟩ hgr.size (fun c' hc' hne => hgr.block c' hc' (fun e => hne (by simp only [Option.some.injEq] at e; exact e))) (o' := .op (mapO kv ok enc b (n + 1) (fun c' => if c' = c then some v else m c'))) (fun M' hK hle => ⟨hF, he, hmp'.mono rfl fun v x hv => hv.mono (Known.sub hle)⟩) (fun c' hc' => hc')
  refine wpList_plain hg fun K hK => wp_upon ?_
  have e : (execOp a.eval o).run P w = .ok .skip w' := by
    simp only [execOp, ho, he, hyv, hr, Sem.run_bind, Result.andThen_ok, Sem.run_pure]
  rw [e]
  refine hK _ _ (h.out _ _ ⟨ρ, ?_⟩)
  rw [hd]
  exact hs2
theorem SubL.refl : ∀ (cs : List SV), SubL cs cs
  | [] => trivial
  | _ :: r => ⟨Sub.rfl, SubL.refl r⟩
theorem SubL.of {cs cs' : List SV} (hl : cs.length = cs'.length) (h : ∀ (j : Nat) (s s' : SV), cs[j]? = some s → cs'[j]? = some s' → Sub s s') : SubL cs cs' := by
  induction cs generalizing cs' with
  | nil => cases cs' with
    | nil => trivial
    | cons => simp at hl
  | cons x r ih => cases cs' with
    | nil => simp at hl
    | cons y r' => exact ⟨h 0 x y rfl rfl, ih (by simpa using hl) fun j s s' h1 h2 => h (j + 1) s s' (by simpa using h1) (by simpa using h2)⟩
end
end Go.Proofs.YtmbaeloiepjakaaGreat.A
end

section
namespace Go.Proofs.YtmbaeloiepjakaaGreat.A
open Go Go.RowKit
/-- A call that is lent objects, and leaves one of several. -/
def GCallE (P : Program) (f : FuncId) (ins : List SV) (obs : Obs) {ι : Type} (R : ι → Option (Obs × SV)) : Prop :=
  (∀ (vs : Array Value) (w : World), (callFunc f vs).run P w = .ok (.enter f vs) w) ∧
  ∀ (M : Nat → Prop) (w : World) (ρ : Rho) (vs : List Value), (∀ b, M b → b < w.heap.size) → Bnd ρ → ARep M w ρ ins vs → Objs ⟨w, fun _ => True, [], fun _ _ => none⟩ M w ρ obs → (∀ b, fps ρ obs b → M b) → Apart ρ obs →
    Calls P f vs.toArray w fun e w' => ExtL ⟨w, fps ρ obs, [], fun _ _ => none⟩ w' ∧ ∃ i, GPost M w ρ obs w' e (R i)
theorem GCall.e {P : Program} {f : FuncId} {ins : List SV} {obs : Obs} {ι : Type} {R : ι → Option (Obs × SV)} (i : ι) (h : GCall P f ins obs (R i)) : GCallE P f ins obs R := ⟨h.1, fun M w ρ vs h1 h2 h3 h4 h5 h6 => (h.2 M w ρ vs h1 h2 h3 h4 h5 h6).mono fun e w' ⟨h7, h8⟩ => ⟨h7, i, h8⟩⟩
section
variable {P : Program} {N : Nat} {M0 : Nat → Prop} {w0 : Base} {ops : Array Oper} {Q : Exit → ASt → Prop} {o : Oper} {l : List Oper} {st : ASt}
theorem gcallE_at {ι : Type} {f : FuncId} {ins : List SV} {obs : Obs} {obs' : ι → Obs} {res : ι → SV} {pm : Pm} {nw : List (Nat × Nat)} {d : Nat} {a : Act} {w : World} {ρ : Rho} {vs : List Value} (hG : GCallE P f ins obs fun i => some (obs' i, res i)) (hsim : SimR N M0 w0 st ρ a w) (hd : o.dst = some d) (hN : d < N) (hg : o.guard = none)
    (hpre : PreO st (nmOf pm) obs) (hB : ∀ i, nmB obs (obs' i) pm nw = true) (hb1 : (obs.all fun p => (lookR pm p.1).isSome) = true) (hb5 : nodupB (pm.map (·.2.1)) = true) (hrun : (execOp a.eval o).run P w = .ok (.enter f vs.toArray) w) (hargs : ARep (Mt M0 ρ st.ob) w ρ (ins.map (SV.ren (nmOf pm))) vs)
    (h : ∀ i G, Al P N M0 w0 ops Q l ((st.aft pm (obs' i) (nm2 pm nw G)).set d ((res i).ren (nm2 pm nw G)))) : wpList P ops (QL N M0 w0 Q) (o :: l) a w := by
  obtain ⟨l1, l2, l3, l4, l5⟩ := hsim.lent ⟨hpre, fun p hp => List.all_eq_true.1 hb1 p hp⟩ hb5
  have hcall := hG.2 (Mt M0 ρ st.ob) w (pull (nmOf pm) ρ) vs hsim.mt_lt (nmOf_bnd hsim.gens) hargs.ren l1 l2 l3
  refine wpList_plain hg fun K hK => wp_upon ?_
  rw [hrun]
  refine hcall.mono fun e w' ⟨hx, ix, v, he, ho⟩ => ⟨v, he, ?_⟩
  obtain ⟨G, ρ', hs', hr'⟩ := hsim.aft hpre (hB ix) hx ho
  refine hK _ _ ((h ix G).out _ _ ⟨ρ', ?_⟩)
  rw [hd]
  exact hs'.set hN hr'
/-- A call that is lent objects. -/
theorem Al_gcallE {ι : Type} {f : FuncId} {ins : List SV} {obs : Obs} {obs' : ι → Obs} {res : ι → SV} (pm : Pm) (nw : List (Nat × Nat)) {d : Nat} {xs : List Operand} {ts : Array TypeId} (hG : GCallE P f ins obs fun i => some (obs' i, res i)) (ho : o.op = .call ⟨.value (.func f), xs.toArray, ts⟩) (hg : o.guard = none) (hd : o.dst = some d) (hN : d < N) (hc : conB o = true)
    (hpre : PreO st (nmOf pm) obs) (hB : ∀ i, nmB obs (obs' i) pm nw = true) (hb1 : (obs.all fun p => (lookR pm p.1).isSome) = true) (hb5 : nodupB (pm.map (·.2.1)) = true) (ha : ArgsS st xs (ins.map (SV.ren (nmOf pm))))
    (h : ∀ i G, Al P N M0 w0 ops Q l ((st.aft pm (obs' i) (nm2 pm nw G)).set d ((res i).ren (nm2 pm nw G)))) : Al P N M0 w0 ops Q (o :: l) st := by
  refine ⟨?_⟩
  rintro a w ⟨ρ, hsim⟩
  have hev := fun y hy => hsim.ev hc y (mem_call ho y hy)
  refine gcallE_at hG hsim hd hN hg hpre hB hb1 hb5 (vs := xs.map a.eval) ?_ (ha.rep fun x hx => hev x (by simpa using hx)) h
  simp only [execOp, ho, resolve, Act.eval, Deferred.ofValue, invoke, Sem.run_bind, Sem.run_pure, Result.andThen_ok]
  rw [hG.1]
  congr 2
  apply Array.ext'
  simp
end
end Go.Proofs.YtmbaeloiepjakaaGreat.A
namespace Go.Proofs.YtmbaeloiepjakaaGreat.A
open Go Go.RowKit
theorem GCallE_enterL {P : Program} {ι : Type} {f : FuncId} {fn : Func} {c : Code} {N : Nat} {ins : List SV} {obs : Obs} {R : ι → Option (Obs × SV)} {rs : ASt → SV → Prop} (hcf : ∀ (vs : Array Value) (w : World), (callFunc f vs).run P w = .ok (.enter f vs) w) (hf : P.funcs[f]? = some fn) (hb : fn.body = some c) (hN : fn.ntmps = N) (hr : ReadsS P fn rs) (hn : ins.length ≤ N)
    (h : (∀ a, SV.d a ∈ ins → okA a) → (∀ k T cs a, (k, AO.box T cs) ∈ obs → SV.d a ∈ cs → okA a) → ∀ M0 w0, (∀ b, w0.l b → ∃ p ∈ obs, ∃ h, w0.p p.1 0 = some h ∧ fpO p.2 h b) → Aw P N M0 w0 c (fun e st => ∃ i, RtO rs obs (R i) e st) (mk (argSS 0 ins) (lookO1 obs))) : GCallE P f ins obs R := ⟨hcf, fun M w ρ vs hM hbnd ha hobs hfps hap => by
  have hokI : ∀ a, SV.d a ∈ ins → okA a := fun a hm => by
    obtain ⟨j, hj, e⟩ := List.getElem_of_mem hm
    have hj' : j < vs.length := by rw [ha.1]; exact hj
    exact ⟨M, w, vs[j], ha.2 j (.d a) _ (by rw [List.getElem?_eq_getElem hj, e]) (List.getElem?_eq_getElem hj')⟩
  have hokB : ∀ k T cs a, (k, AO.box T cs) ∈ obs → SV.d a ∈ cs → okA a := fun k T cs a hm ha => by
    obtain ⟨y, _, b, xs, rfl, _, _, hsz, hcs⟩ := hobs _ hm
    obtain ⟨j, hj, e⟩ := List.getElem_of_mem ha
    have hj' : j < xs.size := by rw [hsz]; exact hj
    exact ⟨M, w, xs[j], (hcs j (.d a) _ (by rw [List.getElem?_eq_getElem hj, e]) (Array.getElem?_eq_getElem hj')).1⟩
  have hlent : ∀ b, fps ρ obs b → ∃ p ∈ obs, ∃ h, pins ρ obs p.1 0 = some h ∧ fpO p.2 h b := fun b ⟨p, hp, h, h1, h2⟩ => ⟨p, hp, h, by
    have : obs.any (fun q => Nat.beq q.1 p.1) = true := List.any_eq_true.2 ⟨p, hp, by simp⟩
    show (bif Nat.beq 0 0 && obs.any (fun q => Nat.beq q.1 p.1) then ρ p.1 0 else none) = some h
    rw [this]; exact h1, h2⟩
  have hMt : ∀ b, Mt M ρ (mk (argSS 0 ins) (lookO1 obs)).ob b → M b := fun b hb => by
    rcases hb with hb | ⟨k, g, o, x, h1, h2, h3⟩
    · exact hb
    · obtain ⟨rfl, hm⟩ := lookO1_mem h1
      exact hfps b ⟨_, hm, x, h2, h3⟩
  have hsim : SimR N M ⟨w, fps ρ obs, [], pins ρ obs⟩ (mk (argSS 0 ins) (lookO1 obs)) ρ { tmps := vs.toArray ++ Array.replicate (N - vs.toArray.size) undef, defers := [] } w := {
    size := by have := ha.1; simp; omega
    defers := rfl
    slot := fun i => by
      have e := argSS_get ins 0 i
      rw [Nat.zero_add] at e
      show SRep _ _ _ (lookS (argSS 0 ins) i) _
      rw [e]
      cases h : ins[i]? with
      | none => trivial
      | some s =>
        have hi : i < vs.length := by rw [ha.1]; exact (List.getElem?_eq_some_iff.1 h).1
        show SRep _ _ _ s ((vs.toArray ++ Array.replicate (N - vs.toArray.size) undef).getD i undef)
        have e2 : (vs.toArray ++ Array.replicate (N - vs.toArray.size) undef).getD i undef = vs[i] := by
          simp [Array.getD_eq_getD_getElem?, Array.getElem?_append, hi]
        rw [e2]
        exact (ha.2 i s vs[i] h (by simp [hi])).mono (Known.sub hMt)
    obj := fun k g o h => by
      obtain ⟨rfl, hm⟩ := lookO1_mem h
      obtain ⟨y, h1, h2⟩ := hobs _ hm
      exact ⟨y, h1, (h2.mono (Known.sub hMt) fun _ _ => rfl).base fun b hb => .inr ⟨_, hm, y, h1, hb⟩⟩
    apart := fun k g o k' g' o' x x' b h h' h1 h2 h3 h4 => by
      obtain ⟨rfl, hm⟩ := lookO1_mem h
      obtain ⟨rfl, hm'⟩ := lookO1_mem h'
      exact hap _ hm _ hm' x x' b h1 h2 h3 h4
    gens := hbnd
    base := hM
    ext := ⟨rfl, rfl, rfl, Nat.le_refl _, fun _ _ _ => rfl⟩
    pin := fun k g v hv => by
      have : (bif Nat.beq g 0 && obs.any (fun p => Nat.beq p.1 k) then ρ k g else none) = some v := hv
      revert this
      cases (Nat.beq g 0 && obs.any (fun p => Nat.beq p.1 k)) with
      | true => exact id
      | false => intro h; cases h }
  refine calls_of_wp hf hb ?_
  rw [hN]
  refine wp_mono ((h hokI hokB M ⟨w, fps ρ obs, [], pins ρ obs⟩ hlent).out _ _ ⟨_, hsim⟩) fun e a' w' ⟨st, ⟨ix, h1⟩, ρF, h2⟩ => ?_
  have hext : ExtL ⟨w, fps ρ obs, [], fun _ _ => none⟩ w' := ⟨h2.ext.os, h2.ext.tape, h2.ext.output, h2.ext.size, h2.ext.block⟩
  have key : (∃ (obs' : Obs) (res : SV) (mp : Pm), R ix = some (obs', res) ∧ rs st (res.ren (nmOf mp)) ∧ PreO st (nmOf mp) obs' ∧ (nodupB (obs'.map fun p => (nmOf mp p.1 0).1) && nodupB (obs'.map (·.1)) && obs.all fun p => !(lookR mp p.1).isSome) = true) → a'.defers = [] ∧ ∃ v, (results fn a'.tmps).run P w' = .ok v w' ∧ (ExtL ⟨w, fps ρ obs, [], fun _ _ => none⟩ w' ∧ ∃ ix, GPost M w ρ obs w' (.returned v) (R ix)) := fun ⟨obs', res, mp, hR, hrs, hpo, hchk⟩ => by
    simp only [Bool.and_eq_true] at hchk
    obtain ⟨⟨c1, c2⟩, c3⟩ := hchk
    obtain ⟨v, k1, k2⟩ := hr.out h2 hrs
    refine ⟨h2.defers, v, k1, hext, ix, ?_⟩
    rw [hR]
    refine ⟨v, rfl, pull (nmOf mp) ρF, nmOf_bnd h2.gens, fun p hp => ?_, fun p hp => ?_, fun p hp q hq x x' b h1 h2' h3 h4 => ?_, ?_⟩
    · have h5 := List.all_eq_true.1 c3 p hp
      have h6 : lookR mp p.1 = none := by simpa using h5
      have e : nmOf mp p.1 0 = (p.1, 0) := by simp [nmOf, h6]
      show ρF (nmOf mp p.1 0).1 (nmOf mp p.1 0).2 = _
      rw [e]
      obtain ⟨y, h7, _⟩ := hobs p hp
      rw [h7]
      refine h2.pin _ _ _ ?_
      show (bif Nat.beq 0 0 && obs.any (fun q => Nat.beq q.1 p.1) then ρ p.1 0 else none) = some y
      have : obs.any (fun q => Nat.beq q.1 p.1) = true := List.any_eq_true.2 ⟨p, hp, by simp⟩
      rw [this]; exact h7
    · obtain ⟨y, h5, h6⟩ := h2.obj _ _ _ (hpo.get p hp)
      refine ⟨y, h5, ((ORep.ren.1 h6).mono (Known.sub fun b hb => ?_) fun _ _ => rfl).base fun b hb => (h6.blk_lt (fpO.ren.2 hb)).1⟩
      rcases hb with hb | ⟨q, hq, z, h7, h8⟩
      · exact .inl hb
      · exact .inr ⟨_, _, _, z, hpo.get q hq, h7, fpO.ren.2 h8⟩
    · have := h2.apart _ _ _ _ _ _ x x' b (hpo.get p hp) (hpo.get q hq) h1 h2' (fpO.ren.2 h3) (fpO.ren.2 h4)
      rw [nodupB.inj c1 p hp q hq this]
    · refine (SRep.ren.1 k2).mono (Known.sub fun b hb => ?_)
      rcases hb with hb | ⟨q, hq, z, h7, h8⟩
      · exact .inl hb
      · exact .inr ⟨_, _, _, z, hpo.get q hq, h7, fpO.ren.2 h8⟩
  cases e with
  | normal => exact key h1
  | ret => exact key h1
  | panic ch =>
    obtain ⟨hR, pv, rfl⟩ := h1
    exact ⟨h2.defers, hext, ix, by rw [hR]; exact ⟨pv, rfl⟩⟩
  | _ => exact h1.elim⟩
theorem GCallE.one {P : Program} {f : FuncId} {ins : List SV} {obs : Obs} {R : Option (Obs × SV)} (h : GCallE P f ins obs (fun _ : Unit => R)) : GCall P f ins obs R := ⟨h.1, fun M w ρ vs h1 h2 h3 h4 h5 h6 => (h.2 M w ρ vs h1 h2 h3 h4 h5 h6).mono fun _ _ ⟨h7, _, h8⟩ => ⟨h7, h8⟩⟩
theorem GCall_enterL {P : Program} {f : FuncId} {fn : Func} {c : Code} {N : Nat} {ins : List SV} {obs : Obs} {R : Option (Obs × SV)} {rs : ASt → SV → Prop} (hcf : ∀ (vs : Array Value) (w : World), (callFunc f vs).run P w = .ok (.enter f vs) w) (hf : P.funcs[f]? = some fn) (hb : fn.body = some c) (hN : fn.ntmps = N) (hr : ReadsS P fn rs) (hn : ins.length ≤ N)
    (h : (∀ a, SV.d a ∈ ins → okA a) → (∀ k T cs a, (k, AO.box T cs) ∈ obs → SV.d a ∈ cs → okA a) → ∀ M0 w0, (∀ b, w0.l b → ∃ p ∈ obs, ∃ h, w0.p p.1 0 = some h ∧ fpO p.2 h b) → Aw P N M0 w0 c (RtO rs obs R) (mk (argSS 0 ins) (lookO1 obs))) : GCall P f ins obs R :=
  GCallE.one (GCallE_enterL hcf hf hb hN hr hn fun h1 h2 M0 w0 hl => Aw_mono (h h1 h2 M0 w0 hl) fun _ _ h3 => ⟨(), h3⟩)
section
variable {P : Program} {N : Nat} {M0 : Nat → Prop} {w0 : Base} {ops : Array Oper} {Q : Exit → ASt → Prop} {o : Oper} {l : List Oper} {st : ASt}
/-- What was lent stands where it stood; the object k is none of it. -/
def Still (st : ASt) (k : Nat) : Obs → Prop
  | [] => True
  | p :: r => Nat.beq k p.1 = false ∧ (∃ o', st.ob p.1 = some (0, o') ∧ ∀ h b, fpO p.2 h b → fpO o' h b) ∧ Still st k r
theorem Still.get {k : Nat} : ∀ {obs : Obs}, Still st k obs → ∀ p ∈ obs, k ≠ p.1 ∧ ∃ o', st.ob p.1 = some (0, o') ∧ ∀ h b, fpO p.2 h b → fpO o' h b
  | [], _, p, hp => by cases hp
  | q :: r, ⟨h1, h2, h3⟩, p, hp => by
    rcases List.mem_cons.1 hp with rfl | hp
    · exact ⟨fun e => by rw [e] at h1; simp at h1, h2⟩
    · exact h3.get p hp
theorem lentL_apart {k g : Nat} {ob : AO} {obs : Obs} (hl : ∀ b, w0.l b → ∃ p ∈ obs, ∃ h, w0.p p.1 0 = some h ∧ fpO p.2 h b) (hob : st.ob k = some (g, ob)) (hst : Still st k obs) (a : Act) (w : World) (ρ : Rho) (hs : SimR N M0 w0 st ρ a w) : ∀ v b, ρ k g = some v → fpO ob v b → ¬ w0.l b := fun v b hv hb hlb => by
  obtain ⟨p, hp, h, h1, h2⟩ := hl b hlb
  obtain ⟨hne, o', h3, h4⟩ := hst.get p hp
  exact hne (hs.apart k g _ p.1 0 _ v h b hob h3 hv (hs.pin _ _ _ h1) hb (h4 _ _ h2))
theorem le_frzL {k g : Nat} {T : TypeId} {n : Nat} {rows : List (List AV)} {obs : Obs} (hl : ∀ b, w0.l b → ∃ p ∈ obs, ∃ h, w0.p p.1 0 = some h ∧ fpO p.2 h b) (is : List Nat) (hob : st.ob k = some (g, .arr T n rows)) (hst : Still st k obs) (his : AllOw st k g is) : Le N M0 w0 st (st.frz k is (.sl n rows)) := fun a w ⟨ρ, hs⟩ => ⟨ρ, (hs.frz (fun v b hv hb => lentL_apart hl hob hst a w ρ hs v b hv hb) is hob his).1⟩
/-- A row of the call's own, in a call that is lent objects, told as data from here on. -/
theorem Aw_frzL {c : Code} {k g : Nat} {T : TypeId} {n : Nat} {rows : List (List AV)} {obs : Obs} (hl : ∀ b, w0.l b → ∃ p ∈ obs, ∃ h, w0.p p.1 0 = some h ∧ fpO p.2 h b) (is : List Nat) (hob : st.ob k = some (g, .arr T n rows)) (hst : Still st k obs) (his : AllOw st k g is) (h : Aw P N M0 w0 c Q (st.frz k is (.sl n rows))) : Aw P N M0 w0 c Q st := Aw_le (le_frzL hl is hob hst his) h
theorem Al_frzL {k g : Nat} {T : TypeId} {n : Nat} {rows : List (List AV)} {obs : Obs} (hl : ∀ b, w0.l b → ∃ p ∈ obs, ∃ h, w0.p p.1 0 = some h ∧ fpO p.2 h b) (is : List Nat) (hob : st.ob k = some (g, .arr T n rows)) (hst : Still st k obs) (his : AllOw st k g is) (h : Al P N M0 w0 ops Q l (st.frz k is (.sl n rows))) : Al P N M0 w0 ops Q l st := Al_le (le_frzL hl is hob hst his) h
/-- A row that lies in a variable's cell. -/
theorem Aw_frzcL {c : Code} {k g kb gb : Nat} (j : Nat) {T Tb : TypeId} {n : Nat} {rows : List (List AV)} {cs : List SV} {obs : Obs} (hl : ∀ b, w0.l b → ∃ p ∈ obs, ∃ h, w0.p p.1 0 = some h ∧ fpO p.2 h b) (is : List Nat) (hob : st.ob k = some (g, .arr T n rows)) (hst : Still st k obs) (hkk : Nat.beq kb k = false) (hobb : st.ob kb = some (gb, .box Tb cs)) (hj : cs[j]? = some (.ow k g)) (his : AllOw st k g is) (h : Aw P N M0 w0 c Q ((st.frz k is (.sl n rows)).put kb gb (.box Tb (cs.set j (.d (.sl n rows)))))) : Aw P N M0 w0 c Q st := Aw_le (le_frzc j (fun a w ρ hs v b hv hb => lentL_apart hl hob hst a w ρ hs v b hv hb) is hob hkk hobb hj his) h
theorem Pu_eqnilb {t yt : TypeId} {x : Operand} {k g off : Nat} {e : TypeId} (ht : P.underlying t = some (.pointer e)) (ho : o.op = .binOp .eql t x (.const (.pointer none)) yt) (hx : st.ev x = .bx k g off) : Pu P st o (.d (.v (.bool false))) := Pu_q fun B M ρ w a h2 h3 => by
  have hm := h2 x (by simp [opsOf, ho, Op.operands])
  rw [hx] at hm
  obtain ⟨y, b, h4, h5, h6⟩ := hm
  refine ⟨.bool false, ?_, .v _ trivial⟩
  have hc : a.eval (.const (.pointer none)) = .pointer none := rfl
  have hp : P.underlying t = some (.pointer (P.pointee t)) := by rw [ht]; simp [Program.pointee, ht]
  have key : (do eqGuard .eql t x (.const (.pointer none)) (.pointer (some ⟨b, off, none⟩)) (.pointer none); binOp .eql t (.pointer (some ⟨b, off, none⟩)) (.pointer none) : Sem Value).run P w = .ok (.bool false) w := by simp [go_sem, eqGuard, run_eql_pointer_nil w t _ hp, run_neq_pointer_nil w t _ hp]
  simp only [execOp, ho, h6, hc, Sem.run_bind, Sem.run_pure] at key ⊢
  rw [key]; rfl
theorem Pu_eqnilN {t yt : TypeId} {x : Operand} {e : TypeId} (ht : P.underlying t = some (.pointer e)) (ho : o.op = .binOp .eql t x (.const (.pointer none)) yt) (hx : st.ev x = .d (.v (.pointer none))) : Pu P st o (.d (.v (.bool true))) := Pu_q fun B M ρ w a h2 h3 => by
  have hm := h2 x (by simp [opsOf, ho, Op.operands])
  rw [hx] at hm
  obtain ⟨h6, _⟩ := rep_v hm
  refine ⟨.bool true, ?_, .v _ trivial⟩
  have hc : a.eval (.const (.pointer none)) = .pointer none := rfl
  have hp : P.underlying t = some (.pointer (P.pointee t)) := by rw [ht]; simp [Program.pointee, ht]
  have key : (do eqGuard .eql t x (.const (.pointer none)) (.pointer none) (.pointer none); binOp .eql t (.pointer none) (.pointer none) : Sem Value).run P w = .ok (.bool true) w := by simp [go_sem, eqGuard, run_eql_pointer_nil w t _ hp, run_neq_pointer_nil w t _ hp]
  simp only [execOp, ho, h6, hc, Sem.run_bind, Sem.run_pure] at key ⊢
  rw [key]; rfl
theorem Pu_neqnilb {t yt : TypeId} {x : Operand} {k g off : Nat} {e : TypeId} (ht : P.underlying t = some (.pointer e)) (ho : o.op = .binOp .neq t x (.const (.pointer none)) yt) (hx : st.ev x = .bx k g off) : Pu P st o (.d (.v (.bool true))) := Pu_q fun B M ρ w a h2 h3 => by
  have hm := h2 x (by simp [opsOf, ho, Op.operands])
  rw [hx] at hm
  obtain ⟨y, b, h4, h5, h6⟩ := hm
  refine ⟨.bool true, ?_, .v _ trivial⟩
  have hc : a.eval (.const (.pointer none)) = .pointer none := rfl
  have hp : P.underlying t = some (.pointer (P.pointee t)) := by rw [ht]; simp [Program.pointee, ht]
  have key : (do eqGuard .neq t x (.const (.pointer none)) (.pointer (some ⟨b, off, none⟩)) (.pointer none); binOp .neq t (.pointer (some ⟨b, off, none⟩)) (.pointer none) : Sem Value).run P w = .ok (.bool true) w := by simp [go_sem, eqGuard, run_eql_pointer_nil w t _ hp, run_neq_pointer_nil w t _ hp]
  simp only [execOp, ho, h6, hc, Sem.run_bind, Sem.run_pure] at key ⊢
  rw [key]; rfl
theorem Pu_neqnilN {t yt : TypeId} {x : Operand} {e : TypeId} (ht : P.underlying t = some (.pointer e)) (ho : o.op = .binOp .neq t x (.const (.pointer none)) yt) (hx : st.ev x = .d (.v (.pointer none))) : Pu P st o (.d (.v (.bool false))) := Pu_q fun B M ρ w a h2 h3 => by
  have hm := h2 x (by simp [opsOf, ho, Op.operands])
  rw [hx] at hm
  obtain ⟨h6, _⟩ := rep_v hm
  refine ⟨.bool false, ?_, .v _ trivial⟩
  have hc : a.eval (.const (.pointer none)) = .pointer none := rfl
  have hp : P.underlying t = some (.pointer (P.pointee t)) := by rw [ht]; simp [Program.pointee, ht]
  have key : (do eqGuard .neq t x (.const (.pointer none)) (.pointer none) (.pointer none); binOp .neq t (.pointer none) (.pointer none) : Sem Value).run P w = .ok (.bool false) w := by simp [go_sem, eqGuard, run_eql_pointer_nil w t _ hp, run_neq_pointer_nil w t _ hp]
  simp only [execOp, ho, h6, hc, Sem.run_bind, Sem.run_pure] at key ⊢
  rw [key]; rfl
theorem nodup_len {α : Type} : ∀ (l m : List α), l.Nodup → (∀ x ∈ l, x ∈ m) → l.length ≤ m.length
  | [], m, _, _ => Nat.zero_le _
  | x :: r, m, hn, hm => by
    obtain ⟨s, t, rfl⟩ := List.append_of_mem (hm x (List.mem_cons_self ..))
    have hc := List.nodup_cons.1 hn
    have := nodup_len r (s ++ t) hc.2 fun y hy => by
      have h1 := hm y (List.mem_cons_of_mem _ hy)
      simp only [List.mem_append, List.mem_cons] at h1 ⊢
      rcases h1 with h | rfl | h
      · exact .inl h
      · exact (hc.1 hy).elim
      · exact .inr h
    simp only [List.length_append, List.length_cons] at *
    omega
theorem le_mapT {κ α : Type} {kv : κ → Value} {ok : κ → Prop} {enc : α → AV} {b n n' k g : Nat} {m m' : κ → Option α} (ks : List κ) (hob : st.ob k = some (g, .op (mapO kv ok enc b n m))) (hm : m = m') (hks : ∀ c, (m' c).isSome = true → c ∈ ks) (hn : ks.length = n') : Le N M0 w0 st (st.put k g (.op (mapO kv ok enc b n' m'))) := by
  rintro a w ⟨ρ, hs⟩
  subst hm
  obtain ⟨y, hy, hF, rfl, es, clock, h1, h2, h3, h4, h5⟩ := hs.obj k g _ hob
  have hsz : es.size ≤ n' := by
    have hnd : (es.toList.map (·.key)).Nodup := List.pairwise_map.2 ((MapKept.stamped_iff es clock).1 h2).2.2
    have := nodup_len (es.toList.map (·.key)) (ks.map kv) hnd fun x hx => by
      obtain ⟨e, he, rfl⟩ := List.mem_map.1 hx
      obtain ⟨c, v, _, hk, hc, _⟩ := h4 e he
      rw [hk]
      exact List.mem_map_of_mem (hks c (by rw [hc]; rfl))
    simp at this
    omega
  exact ⟨ρ, hs.mod hob hy ⟨rfl, rfl, rfl⟩ (Nat.le_refl _) (fun _ _ _ => rfl) (fun M' hK hle => ⟨hF, rfl, es, clock, h1, h2, hsz, fun e he => by
    obtain ⟨c, v, g1, g2, g3, g4⟩ := h4 e he
    exact ⟨c, v, g1, g2, g3, g4.mono hK⟩, h5⟩) (fun c hc => hc)⟩
theorem Al_mapT {κ α : Type} {kv : κ → Value} {ok : κ → Prop} {enc : α → AV} {b n n' k g : Nat} {m m' : κ → Option α} (ks : List κ) (hob : st.ob k = some (g, .op (mapO kv ok enc b n m))) (hm : m = m') (hks : ∀ c, (m' c).isSome = true → c ∈ ks) (hn : ks.length = n') (h : Al P N M0 w0 ops Q l (st.put k g (.op (mapO kv ok enc b n' m')))) : Al P N M0 w0 ops Q l st := Al_le (le_mapT ks hob hm hks hn) h
/-- Results of a call that is lent objects: a variable of many cells, and a slot. -/
def ResN1S (r n r' : Nat) (st : ASt) (res : SV) : Prop := ∃ a, res = .d a ∧ ResN1 r n r' st a
theorem ReadsS.cN1 {fn : Func} {r t n r' : Nat} (h : fn.results = #[.cell r t, .tmp r']) (ht : ∀ w, (isAgg t).run P w = .ok true w) (hz : ∀ w, (sizeOf t).run P w = .ok n w) : ReadsS P fn (ResN1S r n r') := ⟨fun {N M0 w0 st ρ a w res} hs ⟨res', hres, k, g, off, T, cs, rw', b, h1, h2, h3, h4, h5, h6⟩ => by
  subst hres
  have hm := hs.slot r
  rw [h1] at hm
  obtain ⟨y, b', k1, k2, k3⟩ := hm
  obtain ⟨y', k4, hO⟩ := hs.obj k g _ h2
  rw [k1] at k4; cases k4
  obtain ⟨v, k5, k6⟩ := loadvarN ht hz hO k2 h3 h4
  refine ⟨.tuple #[v, a.tmps.getD r' undef], ?_, ?_⟩
  · have ha : (asAddr (a.tmps.getD r undef)).run P w = .ok ⟨b', off, none⟩ w := by rw [k3]; rfl
    rw [Array.getD_eq_getD_getElem?] at ha
    simp [results, h, Sem.run_bind, ha, k5, Array.getD_eq_getD_getElem?]
  · rw [h6]
    exact .tup _ [_, _] rfl fun j c x h7 h8 => by
      match j with
      | 0 => simp at h7 h8; subst h7 h8; exact k6
      | 1 => simp at h7 h8; subst h7 h8; rw [← Array.getD_eq_getD_getElem?]; exact h5 _ _ _ _ (hs.slot r')
      | j + 2 => simp at h7⟩
/-- Two slots that hold the same: each is brought to what it holds by itself. -/
theorem Sub.two {s t v : SV} (h1 : s = v) (h2 : t = v) : Sub s t := Sub.eq (h1.trans h2.symm)
end
end Go.Proofs.YtmbaeloiepjakaaGreat.A
namespace Go.Proofs.YtmbaeloiepjakaaGreat.A
open Go Go.RowKit
section
variable {P : Program} {N : Nat} {M0 : Nat → Prop} {w0 : Base} {ops : Array Oper} {Q : Exit → ASt → Prop} {o : Oper} {l : List Oper} {st : ASt}
end
end Go.Proofs.YtmbaeloiepjakaaGreat.A
end

section
namespace Go.Proofs
open Go.Shelf
def Tryz.lays190_ren : Go.Shelf.Ren := ⟨fun | 190 => 120 | 125 => 137 | 258 => 136 | 128 => 155 | 129 => 156 | 302 => 146 | 303 => 147 | 304 => 148 | 305 => 149 | 306 => 150 | 307 => 151 | 308 => 152 | 309 => 153 | 310 => 154 | 333 => 162 | 329 => 163 | 330 => 164 | 334 => 165 | 335 => 166 | 336 => 167 | 344 => 169 | n => n, fun | 31 => 121 | 9 => 9 | 3 => 3 | 46 => 152 | 0 => 0 | 51 => 167 | 53 => 169 | 4 => 4 | 183 => 160 | 182 => 159 | 131 => 154 | 5 => 5 | 218 => 173 | 222 => 177 | 228 => 180 | 229 => 181 | n => n, fun | n => n⟩
theorem Tryz.lays190 : Go.Proofs.Lays.n190 Tryz.prog Tryz.lays190_ren := {
  mixed := by kernel_rfl
  f125 := Tryz.func137.trans (congrArg some (by kernel_rfl))
  f128 := Tryz.func155.trans (congrArg some (by kernel_rfl))
  f129 := Tryz.func156.trans (congrArg some (by kernel_rfl))
  f190 := Tryz.func120.trans (congrArg some (by kernel_rfl))
  f258 := Tryz.func136.trans (congrArg some (by kernel_rfl))
  f302 := Tryz.func146.trans (congrArg some (by kernel_rfl))
  f303 := Tryz.func147.trans (congrArg some (by kernel_rfl))
  f304 := Tryz.func148.trans (congrArg some (by kernel_rfl))
  f305 := Tryz.func149.trans (congrArg some (by kernel_rfl))
  f306 := Tryz.func150.trans (congrArg some (by kernel_rfl))
  f307 := Tryz.func151.trans (congrArg some (by kernel_rfl))
  f308 := Tryz.func152.trans (congrArg some (by kernel_rfl))
  f309 := Tryz.func153.trans (congrArg some (by kernel_rfl))
  f310 := Tryz.func154.trans (congrArg some (by kernel_rfl))
  f329 := Tryz.func163.trans (congrArg some (by kernel_rfl))
  f330 := Tryz.func164.trans (congrArg some (by kernel_rfl))
  f333 := Tryz.func162.trans (congrArg some (by kernel_rfl))
  f334 := Tryz.func165.trans (congrArg some (by kernel_rfl))
  f335 := Tryz.func166.trans (congrArg some (by kernel_rfl))
  f336 := Tryz.func167.trans (congrArg some (by kernel_rfl))
  f344 := Tryz.func169.trans (congrArg some (by kernel_rfl))
  t0 := Tryz.underlying0
  a0 := Tryz.isAgg0
  z0 := Tryz.sizeOf0
  v0 := Tryz.zeroValue0
  t3 := Tryz.underlying3
  a3 := Tryz.isAgg3
  z3 := Tryz.sizeOf3
  v3 := Tryz.zeroValue3
  t4 := Tryz.underlying4
  a4 := Tryz.isAgg4
  z4 := Tryz.sizeOf4
  v4 := Tryz.zeroValue4
  t5 := Tryz.underlying5
  a5 := Tryz.isAgg5
  z5 := Tryz.sizeOf5
  v5 := Tryz.zeroValue5
  t9 := Tryz.underlying9
  a9 := Tryz.isAgg9
  z9 := Tryz.sizeOf9
  v9 := Tryz.zeroValue9
  t31 := Tryz.underlying121
  a31 := Tryz.isAgg121
  z31 := Tryz.sizeOf121
  v31 := Tryz.zeroValue121
  t46 := Tryz.underlying152
  a46 := Tryz.isAgg152
  z46 := Tryz.sizeOf152
  v46 := Tryz.zeroValue152
  t51 := Tryz.underlying167
  a51 := Tryz.isAgg167
  z51 := Tryz.sizeOf167
  v51 := Tryz.zeroValue167
  t53 := Tryz.underlying169
  a53 := Tryz.isAgg169
  z53 := Tryz.sizeOf169
  v53 := Tryz.zeroValue169
  t131 := Tryz.underlying154
  a131 := Tryz.isAgg154
  z131 := Tryz.sizeOf154
  v131 := Tryz.zeroValue154
  t182 := Tryz.underlying159
  a182 := Tryz.isAgg159
  z182 := Tryz.sizeOf159
  v182 := Tryz.zeroValue159
  t183 := Tryz.underlying160
  a183 := Tryz.isAgg160
  z183 := Tryz.sizeOf160
  v183 := Tryz.zeroValue160
  t218 := Tryz.underlying173
  a218 := Tryz.isAgg173
  z218 := Tryz.sizeOf173
  v218 := Tryz.zeroValue173
  t222 := Tryz.underlying177
  a222 := Tryz.isAgg177
  z222 := Tryz.sizeOf177
  v222 := Tryz.zeroValue177
  t228 := Tryz.underlying180
  a228 := Tryz.isAgg180
  z228 := Tryz.sizeOf180
  v228 := Tryz.zeroValue180
  t229 := Tryz.underlying181
  a229 := Tryz.isAgg181
  z229 := Tryz.sizeOf181
  v229 := Tryz.zeroValue181 }
open Go.Sort Go.RowKit in
theorem Tryz.slices_Sort_string (blk off cap : Nat) (ss : List (List UInt8)) (w : World) (hH : Holds encStr w blk off ss.toArray) (hblk : blk < w.heap.size) (hsz : ss.length < 4611686018427387904) :
    Calls Tryz.prog 120 #[.slice (some ⟨blk, off, none⟩) ss.length cap] w fun e w' =>
      e = .returned (.tuple #[]) ∧ ∃ n os, w' = grow (putRow encStr (Sort.ahead w n) blk off (ss.mergeSort fun x y => decide (x ≤ y)).toArray) os := Any.slices_Sort_string Tryz.lays190 blk off cap ss w hH hblk hsz
open Go.RowKit Go.Sort in
/-- .. and plain. (LAID: no walk: one application.) -/
theorem Tryz.slices_Sort_string_none (p : Option Addr) (cap : Nat) (w : World) :
    Calls Tryz.prog 120 #[.slice p 0 cap] w fun e w' => e = .returned (.tuple #[]) ∧ w' = w := Any.slices_Sort_string_none Tryz.lays190 p cap w
end Go.Proofs
end

section
namespace Go.Proofs
open Go.RowKit Go.Maps Go.Sort Go.Shelf
def Tryz.sorted_ren : Go.Shelf.Ren := ⟨fun | 6 => 107 | 8 => 119 | 11 => 135 | 9 => 120 | n => n, fun | 0 => 0 | 24 => 121 | 26 => 9 | 28 => 137 | 33 => 86 | n => n, fun | n => n⟩
theorem Tryz.sorted_lays : SlLaysZ.n6 Tryz.prog Tryz.sorted_ren := {
  mixed := by kernel_rfl
  f6 := ⟨Tryz.f107.name, by kernel_rfl, Tryz.func107.trans (congrArg some (by kernel_rfl))⟩
  f8 := ⟨Tryz.f119.name, by kernel_rfl, Tryz.func119.trans (congrArg some (by kernel_rfl))⟩
  f11 := ⟨Tryz.f135.name, by kernel_rfl, Tryz.func135.trans (congrArg some (by kernel_rfl))⟩
  t0 := Tryz.underlying0
  a0 := Tryz.isAgg0
  z0 := Tryz.sizeOf0
  v0 := Tryz.zeroValue0
  t24 := Tryz.underlying121
  a24 := Tryz.isAgg121
  z24 := Tryz.sizeOf121
  v24 := Tryz.zeroValue121
  t26 := Tryz.underlying9
  a26 := Tryz.isAgg9
  z26 := Tryz.sizeOf9
  v26 := Tryz.zeroValue9
  t28 := Tryz.underlying137
  a28 := Tryz.isAgg137
  z28 := Tryz.sizeOf137
  v28 := Tryz.zeroValue137
  i26 := by kernel_rfl }
theorem Tryz.sorts_in (m : Nat) : AnyZ.SortsIn Tryz.prog Tryz.sorted_ren Fence.wide m :=
  ⟨fun blk off cap ss W hH hblk hsz => callsIn_wide.2 (Tryz.slices_Sort_string blk off cap ss W hH hblk hsz),
   fun p cap W => callsIn_wide.2 (Tryz.slices_Sort_string_none p cap W)⟩
end Go.Proofs
namespace Go.Proofs.YtmbaeloiepjakaaGreat
open Go Go.RowKit Go.Maps Go.Sort Go.Shelf A R
abbrev keyS (s : ByteArray) : Value := .string s
abbrev okS (s : ByteArray) : Prop := s.size ≤ A.maxI
theorem keyS_T : KeyT Tryz.prog 9 ByteArray keyS okS := KeyT.of (Maps.string_keyed Tryz.underlying9) (fun a ha => ⟨_, Go.WideMaps.keyOf_string_mk Tryz.underlying9 ha⟩) fun a b h => by cases h; rfl
/-- Texts that rise. -/
def Rise (ks : List ByteArray) : Prop := ks.Pairwise fun a b => Op.bytesLess a.toList b.toList = true
theorem enc_flat : ∀ (ks : List ByteArray), (ks.map (·.data.toList)).map encStr = (ks.map fun s => [Value.string s]).flatten
  | [] => rfl
  | a :: r => by simp only [List.map_cons, List.flatten_cons]; rw [enc_flat r]; rfl
def Tryz.keysV_ren : Go.Shelf.Ren := ⟨fun | 7 => 108 | 10 => 121 | n => n, fun | 0 => 0 | 3 => 65 | 4 => 4 | 23 => 113 | 26 => 9 | 27 => 136 | 28 => 137 | 33 => 86 | n => n, fun | n => n⟩
theorem Tryz.keysV : SlLaysZ.n7 Tryz.prog Tryz.keysV_ren := {
  mixed := by kernel_rfl
  f7 := ⟨Tryz.f108.name, by kernel_rfl, Tryz.func108.trans (congrArg some (by kernel_rfl))⟩
  f10 := ⟨Tryz.f121.name, by kernel_rfl, Tryz.func121.trans (congrArg some (by kernel_rfl))⟩
  t0 := Tryz.underlying0
  a0 := Tryz.isAgg0
  z0 := Tryz.sizeOf0
  v0 := Tryz.zeroValue0
  t4 := Tryz.underlying4
  a4 := Tryz.isAgg4
  z4 := Tryz.sizeOf4
  v4 := Tryz.zeroValue4
  t23 := Tryz.underlying113
  a23 := Tryz.isAgg113
  z23 := Tryz.sizeOf113
  v23 := Tryz.zeroValue113
  t26 := Tryz.underlying9
  a26 := Tryz.isAgg9
  z26 := Tryz.sizeOf9
  v26 := Tryz.zeroValue9
  t27 := Tryz.underlying136
  a27 := Tryz.isAgg136
  z27 := Tryz.sizeOf136
  v27 := Tryz.zeroValue136
  t28 := Tryz.underlying137
  a28 := Tryz.isAgg137
  z28 := Tryz.sizeOf137
  v28 := Tryz.zeroValue137
  t33 := Tryz.underlying86
  a33 := Tryz.isAgg86
  z33 := Tryz.sizeOf86
  v33 := Tryz.zeroValue86 }
set_option maxRecDepth 100000 in
theorem keysV_g {κ α : Type} (kv : κ → Value) (ok : κ → Prop) (enc : α → AV) (b n : Nat) (m : κ → Option α) : GCall Tryz.prog 108 [.ow 1001 0] [(1001, .op (mapO kv ok enc b n m))] (some ([(1001, .op (mapO kv ok enc b n m)), (1002, .box 113 [.ow 1001 0])], .fnb 121 [] [.bx 1002 0 0])) := by
  refine GCall_enter (fun _ _ => by kernel_rfl) Tryz.func108 rfl Tryz.ntmps108 (ReadsS.r1 Tryz.results108) (Nat.le_of_ble_eq_true rfl) (fun hok hokB M0 w0 => ?_)
  refine Aw_seq (Aw_region ?_)
  refine Al_box1 rfl rfl rfl (by decide) (by kernel_rfl) (by conv => lhs; whnf) rfl (fun g1 => ?_)
  refine Al_p Pu_mvr ?_
  refine Al_nil (Aw_seq (Aw_region ?_))
  refine Al_p (Pu_makeFuncS [] [.bx 1 g1 0] rfl trivial ⟨Sub.rfl, trivial⟩) ?_
  refine Al_p Pu_mvr ?_
  refine Al_nil ?_
  refine Aw_ret ?_
  exact ⟨_, _, [(1002, 1, g1)], rfl, Sub.rfl, ⟨rfl, rfl, trivial⟩, rfl⟩ -- ret 0
set_option maxHeartbeats 1000000 in
theorem sortedV_g {α : Type} (enc : α → AV) (b n : Nat) (m : ByteArray → Option α) (ks : List ByteArray) (hr : Rise ks) (hk : ∀ k, (m k).isSome = true ↔ k ∈ ks) (hn : n ≤ 1000000) : GCall Tryz.prog 107 [.fnb 121 [] [.bx 1002 0 0]] [(1001, .op (mapO keyS okS enc b n m)), (1002, .box 113 [.ow 1001 0])] (some ([(1001, .op (mapO keyS okS enc b n m)), (1003, .arr 9 1 (ks.map fun s => [tv s]))], .ow 1003 0)) := ⟨fun _ _ => by kernel_rfl, fun M w ρ vs hM hbnd ha hobs hfps hap => by
  obtain ⟨h1, e1, _, hh1, hmp⟩ := hobs (1001, .op (mapO keyS okS enc b n m)) (by simp)
  obtain ⟨h2, e2, b2, cs2, rfl, _, hb2, hsz2, hcs2⟩ := hobs (1002, .box 113 [.ow 1001 0]) (by simp)
  have hmb : M b := hfps b ⟨_, List.mem_cons_self .., h1, e1, rfl⟩
  have hcell : w.cell? ⟨b2, 0, none⟩ = some (.map (some b)) := by
    have h0 : 0 < cs2.size := by rw [hsz2]; exact Nat.one_pos
    have h3 : cs2[0]? = some cs2[0] := Array.getElem?_eq_getElem h0
    obtain ⟨⟨h4, _⟩, _⟩ := hcs2 0 (.ow 1001 0) cs2[0] rfl h3
    rw [e1] at h4
    rw [Lib.cell_of_heap hb2]
    show cs2[0]? = _
    rw [h3, ← Option.some.inj h4, hh1]
  match vs, ha with
  | [x], ha =>
  obtain ⟨us, vs', rfl, ⟨hu, _⟩, hv1, hv2⟩ := ha.2 0 _ x rfl rfl
  obtain rfl : us = [] := List.eq_nil_of_length_eq_zero hu
  match vs', hv1, hv2 with
  | [y], _, hv2 =>
  obtain ⟨z, bz, ez, hz1, rfl⟩ := hv2 0 _ y rfl rfl
  rw [e2] at ez
  obtain rfl := Option.some.inj ez
  have hbz : b2 = bz := by simpa [blk] using hz1
  subst hbz
  obtain ⟨es, clock, hbm, hst, hsz, hent, hall⟩ := hmp
  have hrd : ∀ x ∈ es.toList, ∃ c, okS c ∧ x.key = keyS c ∧ (m c).isSome = true ∧ WideElems.rd (H := Unit) Tryz.prog 9 (fun _ => some (.lit (.bool true), [])) x = some (.string c.data.toList, .lit (.bool true)) := fun x hx => by
    obtain ⟨c, v, h3, h4, h5, _⟩ := hent x hx
    refine ⟨c, h3, h4, by rw [h5]; rfl, ?_⟩
    have := WideElems.rd_mk (H := Unit) (P := Tryz.prog) (k := 9) (R := fun _ => some (.lit (.bool true), [])) (key := x.key) (val := x.val) (born := x.born) (kl := .string c.data.toList) (yv := (.lit (.bool true), [])) (by rw [h4]; exact WideMaps.keyOf_string_mk Tryz.underlying9 h3) rfl
    exact this
  have hown : w.ownsMap (H := Unit) Tryz.prog 9 (fun _ => some (.lit (.bool true), [])) b n (.map ((es.toList.map (WideElems.rg Tryz.prog 9 (fun _ => some (.lit (.bool true), [])))).foldr DataW.insert [])) :=
    ⟨es, clock, hbm, ⟨by have : maxLen = 9223372036854775807 := rfl; omega, hst, fun x hx => by obtain ⟨c, _, _, _, h6⟩ := hrd x hx; exact ⟨_, h6⟩⟩, hsz, rfl⟩
  have hsl := hown.size_le
  have hlt2 : b2 < w.heap.size := (Array.getElem?_eq_some_iff.1 hb2).1
  have hseq := AnyZ.keys_gives (ρ := Tryz.keysV_ren) { Tryz.keysV with } Fence.wide 2 trivial rfl (by omega) b2 b n _ w hlt2 hcell hown
  have hS := AnyZ.sorted_in Tryz.sorted_lays Fence.wide 5 trivial trivial trivial trivial rfl (by omega) (Tryz.sorts_in _) (enters_of Tryz.func120 (by kernel_rfl) rfl) 121 #[.pointer (some ⟨b2, 0, none⟩)] trivial (enters_of Tryz.func121 (by kernel_rfl) rfl) _ _ (Nat.le_trans hsl (by have : maxLen = 9223372036854775807 := rfl; omega)) (by omega) _ hseq
  refine (callsIn_wide.1 hS).mono fun e w' ⟨v, ss, he, hperm, hrow, hnil, hbel⟩ => ?_
  have hext : Ev.Ext w w' := hbel
  have hkp : ∀ c ∈ ks, okS c := fun c hc => by
    obtain ⟨x, hx⟩ := Option.isSome_iff_exists.1 ((hk c).2 hc)
    obtain ⟨e, he, hek⟩ := hall c x hx
    obtain ⟨c', _, h3, h4, _⟩ := hent e he
    rw [h4] at hek
    cases hek; exact h3
  have hinj : ∀ a c : ByteArray, a.data.toList = c.data.toList → a = c := fun a c h => ByteArray.ext (Array.toList_inj.1 h)
  have hlt : (ks.map (·.data.toList)).Pairwise (· < ·) := by
    rw [List.pairwise_map]
    refine hr.imp fun {a c} h => ?_
    rw [ByteArray.toList_eq, ByteArray.toList_eq, bytesLess_eq] at h
    simpa using h
  have hnd : (ks.map (·.data.toList)).Nodup := hlt.imp fun {a c} h e => by rw [e] at h; exact List.lt_irrefl _ h
  have hpk : (ks.map (·.data.toList)).Perm (strKeys (.map ((es.toList.map (WideElems.rg (H := Unit) Tryz.prog 9 (fun _ => some (.lit (.bool true), [])))).foldr DataW.insert []))) := by
    obtain ⟨es', hD, hpw, _⟩ := hown.entries (Maps.string_keyed Tryz.underlying9)
    cases hD
    have hmem : ∀ p : Lit × DataW Unit, p ∈ (es.toList.map (WideElems.rg (H := Unit) Tryz.prog 9 (fun _ => some (.lit (.bool true), [])))).foldr DataW.insert [] ↔ ∃ x ∈ es.toList, ∃ c, x.key = keyS c ∧ (m c).isSome = true ∧ p = (.string c.data.toList, .lit (.bool true)) := fun p => by
      rw [mem_sorted, List.mem_map]
      constructor
      · rintro ⟨x, hx, rfl⟩
        obtain ⟨c, _, h4, h5, h6⟩ := hrd x hx
        exact ⟨x, hx, c, h4, h5, WideElems.rg_of h6⟩
      · rintro ⟨x, hx, c, h4, _, rfl⟩
        obtain ⟨c', _, h4', _, h6⟩ := hrd x hx
        rw [h4] at h4'
        cases h4'
        exact ⟨x, hx, WideElems.rg_of h6⟩
    refine perm_strKeys hpw (fun p hp => ?_) hnd fun x => ?_
    · obtain ⟨_, _, c, _, _, rfl⟩ := (hmem p).1 hp
      exact ⟨_, rfl⟩
    · rw [Maps.has_eq, List.any_eq_true, List.mem_map]
      constructor
      · rintro ⟨c, hc, rfl⟩
        obtain ⟨y, hy⟩ := Option.isSome_iff_exists.1 ((hk c).2 hc)
        obtain ⟨e0, he0, hek⟩ := hall c y hy
        exact ⟨_, (hmem _).2 ⟨e0, he0, c, hek, (hk c).2 hc, rfl⟩, by simp [Lit.sameKey]⟩
      · rintro ⟨p, hp, hs⟩
        obtain ⟨_, _, c, _, hsm, rfl⟩ := (hmem p).1 hp
        refine ⟨c, (hk c).1 hsm, ?_⟩
        simpa [Lit.sameKey] using hs
  have hsort : ss.mergeSort (fun x y => decide (x ≤ y)) = ks.map (·.data.toList) := by
    have h3 := mergeSort_of_perm (hperm.trans hpk.symm)
    refine h3.trans (List.mergeSort_of_pairwise ?_)
    refine hlt.imp fun {a c} h => ?_
    simpa using List.le_of_lt h
  have hss : ss.length = ks.length := by rw [← List.length_mergeSort ss (le := fun x y => decide (x ≤ y)), hsort, List.length_map]
  have hvals : (ss.mergeSort (fun x y => decide (x ≤ y))).map encStr = (ks.map fun s => [Value.string s]).flatten := by
    rw [hsort, enc_flat]
  rw [hvals, hss] at hrow
  let ρ' : Rho := fun k g => if k = 1003 ∧ g = 0 then some v else ρ k g
  have r1 : ρ' 1001 0 = ρ 1001 0 := if_neg (by decide)
  have r2 : ρ' 1002 0 = ρ 1002 0 := if_neg (by decide)
  have r3 : ρ' 1003 0 = some v := if_pos ⟨rfl, rfl⟩
  have hblk : ∀ c, blk v = some c → w.heap.size ≤ c := fun c hc => by
    rcases hrow.2 with ⟨rfl, _⟩ | ⟨gb, cap, cur, rfl, hbase, _⟩
    · cases hc
    · simp [blk] at hc; omega
  have hf' : ∀ c, fps ρ' [(1001, .op (mapO keyS okS enc b n m)), (1003, .arr 9 1 (ks.map fun s => [tv s]))] c → c = b ∨ blk v = some c := fun c ⟨p, hp, z, hz, hc⟩ => by
    rcases List.mem_cons.1 hp with rfl | hp
    · exact .inl hc
    · rcases List.mem_cons.1 hp with rfl | hp
      · rw [show ρ' 1003 0 = some v from r3] at hz
        cases hz; exact .inr hc
      · cases hp
  have hkn : Known M (fun c => M c ∨ fps ρ' [(1001, .op (mapO keyS okS enc b n m)), (1003, .arr 9 1 (ks.map fun s => [tv s]))] c) w w' := fun c hc hn => ⟨fun h => by
    rcases h with h | h
    · exact hn h
    · rcases hf' c h with rfl | h
      · exact hn hmb
      · have := hblk c h; omega, hext.block c hc⟩
  have hbl : b < w.heap.size := hM b hmb
  have hks : ks.length ≤ n := by
    have := hpk.length_eq
    rw [List.length_map] at this
    have h5 : (strKeys (.map ((es.toList.map (WideElems.rg (H := Unit) Tryz.prog 9 (fun _ => some (.lit (.bool true), [])))).foldr DataW.insert []))).length = Maps.size (.map ((es.toList.map (WideElems.rg (H := Unit) Tryz.prog 9 (fun _ => some (.lit (.bool true), [])))).foldr DataW.insert [])) := by
      rw [Maps.size_eq]; exact List.length_map ..
    omega
  refine ⟨⟨hext.os, hext.tape, hext.output, hext.size, fun c hc _ => hext.block c hc⟩, v, he, ρ', ?_, fun p hp => ?_, fun p hp => ?_, fun p hp q hq x x' c hx hx' hc hc' => ?_, ?_⟩
  · obtain ⟨G, hG⟩ := hbnd
    refine ⟨G + 1, fun k g h => ?_⟩
    by_cases e : k = 1003 ∧ g = 0
    · omega
    · have : ρ' k g = ρ k g := if_neg e
      rw [this] at h
      have := hG k g h; omega
  · rcases List.mem_cons.1 hp with rfl | hp
    · exact r1
    · rcases List.mem_cons.1 hp with rfl | hp
      · exact r2
      · cases hp
  · rcases List.mem_cons.1 hp with rfl | hp
    · refine ⟨h1, r1.trans e1, fun c hc => .inr ⟨_, List.mem_cons_self .., h1, e1, hc⟩, hh1, ?_⟩
      refine R.Mp.mono (V := fun w v x => Rep M w (enc x) v) ⟨es, clock, hbm, hst, hsz, hent, hall⟩ (hext.block b hbl) fun v x hv => hv.mono hkn
    · rcases List.mem_cons.1 hp with rfl | hp
      · refine ⟨v, r3, ks.map fun s => [Value.string s], ?_, ⟨by simp, fun i r u hi hu => ?_⟩, ?_, ?_, fun c hc => .inl (hblk c hc)⟩
        · have h6 := hrow
          rw [List.length_map]
          refine ⟨h6.1, ?_⟩
          rcases h6.2 with h7 | ⟨gb, cap, cur, h7, hbase, h8⟩
          · exact .inl h7
          · exact .inr ⟨gb, cap, cur, h7, Nat.zero_le _, h8⟩
        · rw [List.getElem?_map] at hi hu
          obtain ⟨a, h8, rfl⟩ := Option.map_eq_some_iff.1 hi
          rw [h8] at hu
          simp only [Option.map_some, Option.some.injEq] at hu
          subst hu
          refine ⟨rfl, rfl, fun j c x hj hx => ?_⟩
          match j with
          | 0 =>
            simp at hj hx
            subst hj hx
            exact ⟨.v _ (hkp a (List.mem_of_getElem? h8)), rfl⟩
          | j + 1 => simp at hj
        · rw [List.length_map]
          rcases hrow.2 with ⟨rfl, h7⟩ | ⟨gb, cap, cur, rfl, _⟩
          · exact ⟨none, 0, by simp at h7; simp [h7]⟩
          · exact ⟨_, cap, rfl⟩
        · rw [List.length_map]
          simp only [A.maxI]; omega
      · cases hp
  · rcases List.mem_cons.1 hp with rfl | hp <;> rcases List.mem_cons.1 hq with rfl | hq
    · rfl
    · rcases List.mem_cons.1 hq with rfl | hq
      · have hcb : c = b := hc
        rw [show ρ' 1003 0 = some v from r3] at hx'
        cases hx'
        have := hblk c hc'
        omega
      · cases hq
    · rcases List.mem_cons.1 hp with rfl | hp
      · have hcb : c = b := hc'
        rw [show ρ' 1003 0 = some v from r3] at hx
        cases hx
        have := hblk c hc
        omega
      · cases hp
    · rcases List.mem_cons.1 hp with rfl | hp
      · rcases List.mem_cons.1 hq with rfl | hq
        · rfl
        · cases hq
      · cases hp
  · refine ⟨r3, ?_⟩
    rcases hrow.2 with ⟨rfl, _⟩ | ⟨gb, cap, cur, rfl, _⟩ <;> rfl⟩
end Go.Proofs.YtmbaeloiepjakaaGreat
end

section
namespace Go.Proofs.YtmbaeloiepjakaaGreat.A
open Go Go.RowKit
/-- From n on all wait for what stands ahead of n. -/
def preB (ops : Array Oper) (n : Nat) : Bool := (List.range ops.size).all fun j => decide (j < n) || (List.range n).all fun i => (Ev.anc ops j (match ops[j]? with | some o => Ev.depsOf o | none => [])).contains i
theorem pre_ready {ops : Array Oper} {listed : Array Bool} {n j : Nat} (ht : preB ops n = true) (hc : Ev.Closed ops listed) (hj : j ∈ Region.ready .any ops listed) (hk : n ≤ j) : ∀ i, i < n → listed[i]? = some true := by
  obtain ⟨_, o, ho, hall⟩ := mem_ready.1 hj
  have hlt : j < ops.size := (Array.getElem?_eq_some_iff.1 ho).1
  have h1 := List.all_eq_true.1 ht j (List.mem_range.2 hlt)
  rw [ho] at h1
  simp only [Bool.or_eq_true, decide_eq_true_eq, List.all_eq_true] at h1
  intro i hi
  have h2 := (h1.resolve_left (by omega)) i (List.mem_range.2 hi)
  exact Ev.anc_listed hc j _ (Ev.deps_listed hall) i (by simpa using h2)
def drawPB (N : Nat) (l : List Oper) (n : Nat) : Bool := Ev.distinct (l.take n) && Ev.backB l.toArray && preB l.toArray n && drB N l n && (l.take n).all fun o => match o.dst with | some d => decide (d < N) | none => false
theorem back_lt {ops : Array Oper} {i d : Nat} {o : Oper} (hb : Ev.backB ops = true) (ho : ops[i]? = some o) (hd : d ∈ Ev.depsOf o) : d < i := by
  have hlt : i < ops.size := (Array.getElem?_eq_some_iff.1 ho).1
  have h1 := List.all_eq_true.1 hb i (List.mem_range.2 hlt)
  rw [ho] at h1
  simp only [Array.all_eq_true_iff_forall_mem, Bool.or_eq_true, Bool.not_eq_true', decide_eq_true_eq] at h1
  obtain ⟨e, he, hbi, rfl⟩ := Ev.mem_deps hd
  rcases h1 e (by simpa using he) with h | h
  · rw [h] at hbi; cases hbi
  · exact h
section
variable {P : Program} {N : Nat} {M0 : Nat → Prop} {w0 : Base} {Q : Exit → ASt → Prop} {st : ASt}
theorem drawP_go {l : List Oper} {k0 n m : Nat} {ss : Nat → SV} (hok : drawPB N l n = true) (hnm : l.length = n + m)
    (hst : ∀ i o, k0 ≤ i → (l.take n)[i]? = some o → ∃ d, o.dst = some d ∧ St P l.toArray (stL (l.take n) ss (fun x => decide (k0 ≤ x) && decide (x < i)) st) o (ss i))
    (hfin : Ad P N M0 w0 l.toArray Q m (List.replicate n true ++ List.replicate m false).toArray (stL (l.take n) ss (fun x => decide (k0 ≤ x)) st)) :
    ∀ (fuel : Nat) (listed : Array Bool), listed.size = l.length → Ev.Closed l.toArray listed → (∀ i, i < k0 → listed[i]? = some true) → (∀ i, n ≤ i → i < l.length → listed[i]? = some false) → listed.count false = fuel →
      Ad P N M0 w0 l.toArray Q fuel listed (stL (l.take n) ss (fun i => decide (k0 ≤ i) && listed.getD i false) st) := by
  simp only [drawPB, Bool.and_eq_true] at hok
  obtain ⟨⟨⟨⟨hd, hb⟩, ht⟩, hdr⟩, hds⟩ := hok
  have hsz : l.toArray.size = l.length := by simp
  have hget : ∀ (j : Nat), l.toArray[j]? = l[j]? := fun j => by simp
  have htk : ∀ (j : Nat), j < n → (l.take n)[j]? = l[j]? := fun j hj => by rw [List.getElem?_take, if_pos hj]
  have hlen : (l.take n).length = n := by simp; omega
  have fin : ∀ (fuel : Nat) (listed : Array Bool), listed.size = l.length → (∀ i, n ≤ i → i < l.length → listed[i]? = some false) → listed.count false = fuel → (∀ i, i < n → listed[i]? = some true) →
      Ad P N M0 w0 l.toArray Q fuel listed (stL (l.take n) ss (fun i => decide (k0 ≤ i) && listed.getD i false) st) := by
    intro fuel listed hs hun hfu hall
    have e1 : listed = (List.replicate n true ++ List.replicate m false).toArray := by
      apply Array.ext'
      apply List.ext_getElem?
      intro i
      rw [Array.getElem?_toList]
      rcases Nat.lt_or_ge i n with h | h
      · rw [hall i h, List.getElem?_append_left (by simpa using h), List.getElem?_replicate, if_pos h]
      · rw [List.getElem?_append_right (by simpa using h), List.getElem?_replicate, List.length_replicate]
        rcases Nat.lt_or_ge i l.length with h2 | h2
        · rw [hun i h h2, if_pos (by omega)]
        · rw [if_neg (by omega), Array.getElem?_eq_none (by omega)]
    have e2 : fuel = m := by rw [← hfu, e1]; simp [List.count_replicate]
    have e : stL (l.take n) ss (fun i => decide (k0 ≤ i) && listed.getD i false) st = stL (l.take n) ss (fun x => decide (k0 ≤ x)) st := stL_congr (fun i hi => by
      have := hall i (by omega)
      simp [Array.getD_eq_getD_getElem?, this]) (fun _ _ _ => rfl)
    rw [e, e2, e1]
    exact hfin
  intro fuel
  induction fuel with
  | zero =>
    intro listed hs hcl hk0 hun hn
    refine fin 0 listed hs hun hn fun i hi => ?_
    cases hl : listed[i]? with
    | none => rw [Array.getElem?_eq_none_iff] at hl; omega
    | some b =>
      cases b with
      | true => rfl
      | false =>
        have : false ∈ listed := Array.mem_of_getElem? hl
        have := Array.count_pos_iff.2 this
        omega
  | succ fuel ih =>
    intro listed hs hcl hk0 hun hn
    by_cases hall : ∀ (i : Nat), i < n → listed[i]? = some true
    · exact fin (fuel + 1) listed hs hun hn hall
    refine ⟨fun a w hsim => ⟨fun h0 => ?_, fun j hj => ?_⟩⟩
    · exfalso
      apply hall
      intro i
      induction i using Nat.strongRecOn with
      | _ i ih' =>
        intro hi
        cases hl : listed[i]? with
        | none => rw [Array.getElem?_eq_none_iff] at hl; omega
        | some b =>
          cases b with
          | true => rfl
          | false =>
            have := Ev.ready_of_least hb (by simpa using hs) (by simp; omega) hl (fun k hk => ih' k hk (by omega))
            rw [h0] at this
            cases this
    obtain ⟨hju, o, hoj, hdone⟩ := mem_ready.1 hj
    have hjo : j < l.length := by
      have := (Array.getElem?_eq_some_iff.1 hoj).1
      simpa using this
    have hlt : j < listed.size := by omega
    have hjl : listed[j]? = some false := by simp [Array.getD, hlt] at hju; simp [hlt, hju]
    have hjn' : j < n := by
      rcases Nat.lt_or_ge j n with h | h
      · exact h
      · exact (hall (pre_ready ht hcl hj h)).elim
    have hoj' : l[j]? = some o := by rw [← hget]; exact hoj
    have hdl : ∀ d ∈ Ev.depsOf o, listed[d]? = some true := Ev.deps_listed hdone
    have hold : ∀ (i : Nat), i ≠ j → (listed.setIfInBounds j true)[i]? = listed[i]? := fun i hij => by
      rw [Array.getElem?_setIfInBounds, if_neg (Ne.symm hij)]
    have hcl' : Ev.Closed l.toArray (listed.setIfInBounds j true) := fun i o' hi ho' d hd' => by
      have keep : ∀ (y : Nat), listed[y]? = some true → (listed.setIfInBounds j true)[y]? = some true := fun y hy => by
        by_cases e : y = j
        · subst e; simp [hlt]
        · rw [hold y e]; exact hy
      by_cases hij : i = j
      · subst hij
        rw [hoj] at ho'
        cases ho'
        exact keep d (hdl d hd')
      · rw [hold i hij] at hi
        exact keep d (hcl i o' hi ho' d hd')
    have hcnt : (listed.setIfInBounds j true).count false = fuel := by
      have := Array.count_set (xs := listed) (i := j) (a := true) (b := false) hlt
      rw [Array.setIfInBounds, dif_pos hlt]
      have h3 : listed[j] = false := by simpa [hlt] using hjl
      have h4 : 0 < listed.count false := Array.count_pos_iff.2 (Array.mem_iff_getElem.2 ⟨j, hlt, h3⟩)
      rw [this]
      simp [h3]
      omega
    have hLL : ∀ i, (listed.setIfInBounds j true).getD i false = (listed.getD i false || decide (i = j)) := fun i => by
      by_cases e : i = j
      · subst e; simp [Array.getD_eq_getD_getElem?, hlt]
      · simp [Array.getD_eq_getD_getElem?, hold i e, e]
    have hun' : ∀ i, n ≤ i → i < l.length → (listed.setIfInBounds j true)[i]? = some false := fun i h1 h2 => by
      rw [hold i (by omega)]; exact hun i h1 h2
    have hkj : k0 ≤ j := by
      rcases Nat.lt_or_ge j k0 with h | h
      · have := hk0 j h
        rw [hjl] at this; simp at this
      · exact h
    have hk0' : ∀ i, i < k0 → (listed.setIfInBounds j true)[i]? = some true := fun i hi => by rw [hold i (by omega)]; exact hk0 i hi
    have hjt : (l.take n)[j]? = some o := by rw [htk j hjn']; exact hoj'
    obtain ⟨d, hdo, hS⟩ := hst j o hkj hjt
    have hmem : o ∈ l.take n := List.mem_of_getElem? hjt
    have hdN := List.all_eq_true.1 hds o hmem
    rw [hdo] at hdN
    simp only [decide_eq_true_eq] at hdN
    have hdrj := List.all_eq_true.1 hdr j (List.mem_range.2 hjn')
    rw [hoj'] at hdrj
    simp only [Bool.and_eq_true] at hdrj
    obtain ⟨⟨hops, hgd⟩, hconst⟩ := hdrj
    have hsl : ∀ t, opB (l.take n) j o t = true → (stL (l.take n) ss (fun i => decide (k0 ≤ i) && listed.getD i false) st).sl t = (stL (l.take n) ss (fun x => decide (k0 ≤ x) && decide (x < j)) st).sl t := by
      intro t hop
      by_cases hin : inB (l.take n) t = true
      · simp only [opB, hin, Bool.not_true, Bool.false_or, List.any_eq_true, List.mem_range, Bool.and_eq_true, beq_iff_eq] at hop
        obtain ⟨i, hi, hid, hic⟩ := hop
        obtain ⟨oi, hoi, hoid⟩ := Option.bind_eq_some_iff.1 hid
        have hli := hdl i (by simpa using hic)
        rcases Nat.lt_or_ge i k0 with hik | hik
        · have hex : ∀ (L : Nat → Bool), L i = false → (stL (l.take n) ss L st).sl t = st.sl t := fun L hL => stL_out fun i' o' h1 h2 => by
            rcases Nat.lt_trichotomy i' i with h | h | h
            · exact (dist_ne hd h1 hoi h h2 hoid).elim
            · subst h; exact hL
            · exact (dist_ne hd hoi h1 h hoid h2).elim
          rw [hex _ (by simp [show ¬ k0 ≤ i from by omega]), hex _ (by simp [show ¬ k0 ≤ i from by omega])]
        · rw [stL_at hd hoi hoid (by simp [Array.getD_eq_getD_getElem?, hli, hik]), stL_at hd hoi hoid (by simp [hik]; exact hi)]
      · have hout : ∀ (i : Nat) (o' : Oper), (l.take n)[i]? = some o' → o'.dst ≠ some t := fun i o' h1 h2 => hin (by
          simp only [inB, List.any_eq_true, beq_iff_eq]
          exact ⟨o', List.mem_of_getElem? h1, h2⟩)
        rw [stL_out fun i o' h1 h2 => absurd h2 (hout i o' h1), stL_out fun i o' h1 h2 => absurd h2 (hout i o' h1)]
    have hS2 : St P l.toArray (stL (l.take n) ss (fun i => decide (k0 ≤ i) && listed.getD i false) st) o (ss j) := by
      refine St_frame hS (fun x hx => ?_) (fun j' b oj dj h1 h2 h3 => ?_) (fun k g ob h => h)
      · cases x with
        | tmp t => exact hsl t (List.all_eq_true.1 hops _ hx)
        | _ => rfl
      · rw [hget] at h2
        rw [h1] at hgd
        simp only [h2, h3, Bool.and_eq_true, decide_eq_true_eq] at hgd
        exact hsl dj hgd.1
    refine wpOp_of_list hoj ((Al_st (l := []) (Q := Then (Ad P N M0 w0 l.toArray Q fuel (listed.setIfInBounds j true)) Q) hS2 hdo hdN hconst (fun j' b oj dj h1 h2 h3 => ?_) (Al_nil ?_)).out a w hsim) (fun a' w' ⟨st', h1, h2⟩ => h1.out a' w' h2) (fun c a' w' h => h) (fun ⟨a', w', h⟩ => ⟨a', w', h⟩)
    · rw [hget] at h2
      rw [h1] at hgd
      simp only [h2, h3, Bool.and_eq_true, decide_eq_true_eq] at hgd
      exact hgd.2
    · have := ih (listed.setIfInBounds j true) (by simpa using hs) hcl' hk0' hun' hcnt
      have e2 : (stL (l.take n) ss (fun i => decide (k0 ≤ i) && listed.getD i false) st).set d (ss j) = stL (l.take n) ss (fun i => decide (k0 ≤ i) && (listed.setIfInBounds j true).getD i false) st := stL_set hd hjt hdo (fun i => by rw [hLL]; by_cases e : i = j <;> simp [e, hkj])
      show Ad P N M0 w0 l.toArray Q fuel (listed.setIfInBounds j true) _
      rw [e2]
      exact this
/-- The first k0 are done; of the next ones, up to n, all are pure. -/
theorem Ad_drawP {l : List Oper} {listed : Array Bool} {fuel : Nat} (k0 n m : Nat) (hok : drawPB N l n = true) (hk : k0 ≤ n) (hnm : l.length = n + m) (hl : listed = (List.replicate k0 true ++ List.replicate (n - k0 + m) false).toArray) (hf : fuel = n - k0 + m)
    (h : Dr P l.toArray (fun st' => Ad P N M0 w0 l.toArray Q m (List.replicate n true ++ List.replicate m false).toArray st') ((l.take n).drop k0) st) : Ad P N M0 w0 l.toArray Q fuel listed st := by
  have hok' := hok
  simp only [drawPB, Bool.and_eq_true] at hok'
  obtain ⟨⟨⟨⟨hd, hb⟩, _⟩, _⟩, _⟩ := hok'
  subst hl hf
  obtain ⟨ss, h2, h3⟩ : ∃ ss : Nat → SV, (∀ i o, k0 ≤ i → (l.take n)[i]? = some o → ∃ d, o.dst = some d ∧ St P l.toArray (stL (l.take n) ss (fun x => decide (k0 ≤ x) && decide (x < i)) st) o (ss i)) ∧ Ad P N M0 w0 l.toArray Q m (List.replicate n true ++ List.replicate m false).toArray (stL (l.take n) ss (fun x => decide (k0 ≤ x)) st) := by
    have gen : ∀ (r : List Oper) (j : Nat) (ss0 : Nat → SV), k0 ≤ j → (l.take n).drop j = r → Dr P l.toArray (fun st' => Ad P N M0 w0 l.toArray Q m (List.replicate n true ++ List.replicate m false).toArray st') r (stL (l.take n) ss0 (fun x => decide (k0 ≤ x) && decide (x < j)) st) →
        ∃ ss : Nat → SV, (∀ i, i < j → ss i = ss0 i) ∧ (∀ i o, j ≤ i → (l.take n)[i]? = some o → ∃ d, o.dst = some d ∧ St P l.toArray (stL (l.take n) ss (fun x => decide (k0 ≤ x) && decide (x < i)) st) o (ss i)) ∧ Ad P N M0 w0 l.toArray Q m (List.replicate n true ++ List.replicate m false).toArray (stL (l.take n) ss (fun x => decide (k0 ≤ x)) st) := by
      intro r
      induction r with
      | nil =>
        intro j ss0 hj hr hD
        have hlj : (l.take n).length ≤ j := by
          have := congrArg List.length hr
          simp only [List.length_drop, List.length_nil] at this
          omega
        refine ⟨ss0, fun _ _ => rfl, fun i o hi ho => ?_, ?_⟩
        · have := (List.getElem?_eq_some_iff.1 ho).1
          omega
        · have e : stL (l.take n) ss0 (fun x => decide (k0 ≤ x) && decide (x < j)) st = stL (l.take n) ss0 (fun x => decide (k0 ≤ x)) st := stL_congr (fun i hi => by simp [show i < j from by omega]) (fun _ _ _ => rfl)
          rw [← e]
          exact hD
      | cons o r ih =>
        intro j ss0 hj hr hD
        obtain ⟨d, s, hdo, hS, hD2⟩ := hD
        have hlt : j < (l.take n).length := by
          have := congrArg List.length hr
          simp only [List.length_drop, List.length_cons] at this
          omega
        have hoj : (l.take n)[j]? = some o := by
          have := congrArg (·[0]?) hr
          simpa [List.getElem?_drop] using this
        have hr2 : (l.take n).drop (j + 1) = r := by
          have := congrArg (List.drop 1) hr
          simpa [List.drop_drop, Nat.add_comm] using this
        let ss1 : Nat → SV := fun i => if i = j then s else ss0 i
        have e1 : (stL (l.take n) ss0 (fun x => decide (k0 ≤ x) && decide (x < j)) st) = stL (l.take n) ss1 (fun x => decide (k0 ≤ x) && decide (x < j)) st := stL_congr (fun _ _ => rfl) (fun i _ hi => by
          simp only [Bool.and_eq_true, decide_eq_true_eq] at hi
          show ss0 i = if i = j then s else ss0 i
          rw [if_neg (by omega)])
        have e2 : (stL (l.take n) ss1 (fun x => decide (k0 ≤ x) && decide (x < j)) st).set d s = stL (l.take n) ss1 (fun x => decide (k0 ≤ x) && decide (x < j + 1)) st := by
          have hs1 : ss1 j = s := if_pos rfl
          have := stL_set (st := st) (ss := ss1) (L := fun x => decide (k0 ≤ x) && decide (x < j)) (L' := fun x => decide (k0 ≤ x) && decide (x < j + 1)) hd hoj hdo (fun i => by
            by_cases e : i = j
            · subst e; simp [hj]
            · have : (i < j + 1) ↔ i < j := by omega
              simp [e, this])
          rw [hs1] at this
          exact this
        rw [e1, e2] at hD2
        obtain ⟨ss, g1, g2, g3⟩ := ih (j + 1) ss1 (by omega) hr2 hD2
        refine ⟨ss, fun i hi => ?_, fun i o' hi ho' => ?_, g3⟩
        · rw [g1 i (by omega)]
          show (if i = j then s else ss0 i) = _
          rw [if_neg (by omega)]
        · rcases Nat.lt_or_ge j i with h | h
          · exact g2 i o' h ho'
          · obtain rfl : i = j := by omega
            rw [hoj] at ho'; cases ho'
            refine ⟨d, hdo, ?_⟩
            have e3 : stL (l.take n) ss (fun x => decide (k0 ≤ x) && decide (x < i)) st = stL (l.take n) ss0 (fun x => decide (k0 ≤ x) && decide (x < i)) st := stL_congr (fun _ _ => rfl) (fun y _ hy => by
              simp only [Bool.and_eq_true, decide_eq_true_eq] at hy
              rw [g1 y (by omega)]
              show (if y = i then s else ss0 y) = _
              rw [if_neg (by omega)])
            rw [e3, g1 i (by omega), show ss1 i = s from if_pos rfl]
            exact hS
    have e0 : stL (l.take n) (fun _ => .any) (fun x => decide (k0 ≤ x) && decide (x < k0)) st = st := by
      refine Eq.trans (stL_congr (fun i _ => ?_) (fun _ _ _ => rfl)) (stL_none (l := l.take n) (ss := fun _ => .any) (st := st))
      simp only [Bool.and_eq_false_iff, decide_eq_false_iff_not]; omega
    obtain ⟨ss, _, g2, g3⟩ := gen ((l.take n).drop k0) k0 (fun _ => .any) (Nat.le_refl _) rfl (by rw [e0]; exact h)
    exact ⟨ss, g2, g3⟩
  have := drawP_go (k0 := k0) hok hnm h2 h3 (n - k0 + m) (List.replicate k0 true ++ List.replicate (n - k0 + m) false).toArray (by simp; omega) (fun i o h1 ho d hd' => ?_) (fun i hi => by rw [List.getElem?_toArray, List.getElem?_append_left (by simpa using hi), List.getElem?_replicate, if_pos hi]) (fun i h1 h2 => by rw [List.getElem?_toArray, List.getElem?_append_right (by simp; omega), List.getElem?_replicate, if_pos (by simp; omega)]) (by simp [List.count_replicate])
  · have e : stL (l.take n) ss (fun i => decide (k0 ≤ i) && (List.replicate k0 true ++ List.replicate (n - k0 + m) false).toArray.getD i false) st = st := by
      refine Eq.trans (stL_congr (fun i _ => ?_) (fun _ _ _ => rfl)) stL_none
      rw [Array.getD_eq_getD_getElem?, List.getElem?_toArray]
      rcases Nat.lt_or_ge i k0 with h | h
      · simp [show ¬ k0 ≤ i from by omega]
      · rw [List.getElem?_append_right (by simpa using h), List.getElem?_replicate]
        split <;> simp
    rw [e] at this
    exact this
  · have hi : i < k0 := by
      rcases Nat.lt_or_ge i k0 with h | h
      · exact h
      · rw [List.getElem?_toArray, List.getElem?_append_right (by simpa using h), List.getElem?_replicate] at h1
        split at h1 <;> simp at h1
    have hdi : d < i := back_lt hb ho hd'
    rw [List.getElem?_toArray, List.getElem?_append_left (by simp; omega), List.getElem?_replicate, if_pos (by omega)]
/-- From n on all but nA wait for what stands ahead of n. -/
def preAB (ops : Array Oper) (n nA : Nat) : Bool := (List.range ops.size).all fun j => decide (j < n) || (Nat.beq j nA || (List.range n).all fun i => (Ev.anc ops j (match ops[j]? with | some o => Ev.depsOf o | none => [])).contains i)
theorem preA_ready {ops : Array Oper} {listed : Array Bool} {n nA j : Nat} (ht : preAB ops n nA = true) (hc : Ev.Closed ops listed) (hj : j ∈ Region.ready .any ops listed) (hk : n ≤ j) (hA : j ≠ nA) : ∀ i, i < n → listed[i]? = some true := by
  obtain ⟨_, o, ho, hall⟩ := mem_ready.1 hj
  have hlt : j < ops.size := (Array.getElem?_eq_some_iff.1 ho).1
  have h1 := List.all_eq_true.1 ht j (List.mem_range.2 hlt)
  rw [ho] at h1
  simp only [Bool.or_eq_true, decide_eq_true_eq, List.all_eq_true] at h1
  intro i hi
  rcases h1 with h1 | h1 | h1
  · omega
  · exact (hA (Nat.eq_of_beq_eq_true h1)).elim
  · have h2 := h1 i (List.mem_range.2 hi)
    exact Ev.anc_listed hc j _ (Ev.deps_listed hall) i (by simpa using h2)
def drawPAB (N : Nat) (l : List Oper) (n nA dA : Nat) : Bool := Ev.distinct (l.take n) && Ev.backB l.toArray && preAB l.toArray n nA && drB N l n && ((l.take n).all fun o => match o.dst with | some d => decide (d < N) && !Nat.beq d dA | none => false) && (l.take n).all fun o => ((opsOf o).all fun | .tmp t => !Nat.beq t dA | _ => true) && match o.guard with | some (j, _) => (match l[j]? with | some oj => (match oj.dst with | some dj => !Nat.beq dj dA | none => true) | none => true) | none => true
theorem drawPA_go {l : List Oper} {n nA m dA : Nat} {oA : Oper} {T : TypeId} {z : Value} {zs : List AV} {ss : Nat → SV} (hok : drawPAB N l n nA dA = true) (hnm : l.length = n + (m + 1)) (hnA : n ≤ nA) (hA : l[nA]? = some oA) (ho : oA.op = .alloc T) (hgA : oA.guard = none) (hdA : oA.dst = some dA) (hNA : dA < N) (hz : ∀ w, (zeroValue T).run P w = .ok z w) (hzs : z.cells.toList.map AV.v = zs) (hv : z.cells.toList.all (fun z => decide (vok z)) = true) (hfree : st.ob dA = none)
    (hst : ∀ i o, (l.take n)[i]? = some o → ∃ d, o.dst = some d ∧ St P l.toArray (stL (l.take n) ss (fun x => decide (x < i)) st) o (ss i))
    (hfin1 : Ad P N M0 w0 l.toArray Q (m + 1) (List.replicate n true ++ List.replicate (m + 1) false).toArray (stL (l.take n) ss (fun _ => true) st))
    (hfin2 : ∀ g, Ad P N M0 w0 l.toArray Q m ((List.replicate n true ++ List.replicate (m + 1) false).toArray.setIfInBounds nA true) (alcS dA g (.box T (zs.map .d)) (stL (l.take n) ss (fun _ => true) st))) :
    ∀ (fuel : Nat) (listed : Array Bool) (og : Option Nat), listed.size = l.length → Ev.Closed l.toArray listed → listed[nA]? = some og.isSome → (∀ i, n ≤ i → i ≠ nA → i < l.length → listed[i]? = some false) → listed.count false = fuel →
      Ad P N M0 w0 l.toArray Q fuel listed (alcO dA (.box T (zs.map .d)) og (stL (l.take n) ss (fun i => listed.getD i false) st)) := by
  simp only [drawPAB, Bool.and_eq_true] at hok
  obtain ⟨⟨⟨⟨⟨hd, hb⟩, ht⟩, hdr⟩, hds⟩, hdA2⟩ := hok
  have hnl : nA < l.length := (List.getElem?_eq_some_iff.1 hA).1
  have hsz : l.toArray.size = l.length := by simp
  have hget : ∀ (j : Nat), l.toArray[j]? = l[j]? := fun j => by simp
  have htk : ∀ (j : Nat), j < n → (l.take n)[j]? = l[j]? := fun j hj => by rw [List.getElem?_take, if_pos hj]
  have hlen : (l.take n).length = n := by simp; omega
  have fin : ∀ (fuel : Nat) (listed : Array Bool) (og : Option Nat), listed.size = l.length → listed[nA]? = some og.isSome → (∀ i, n ≤ i → i ≠ nA → i < l.length → listed[i]? = some false) → listed.count false = fuel → (∀ i, i < n → listed[i]? = some true) →
      Ad P N M0 w0 l.toArray Q fuel listed (alcO dA (.box T (zs.map .d)) og (stL (l.take n) ss (fun i => listed.getD i false) st)) := by
    intro fuel listed og hs hog hun hfu hall
    have e : stL (l.take n) ss (fun i => listed.getD i false) st = stL (l.take n) ss (fun _ => true) st := stL_congr (fun i hi => by
      have := hall i (by omega)
      simp [Array.getD_eq_getD_getElem?, this]) (fun _ _ _ => rfl)
    have e1 : listed = if og.isSome then (List.replicate n true ++ List.replicate (m + 1) false).toArray.setIfInBounds nA true else (List.replicate n true ++ List.replicate (m + 1) false).toArray := by
      apply Array.ext'
      apply List.ext_getElem?
      intro i
      rw [Array.getElem?_toList, Array.getElem?_toList]
      have base : ∀ i, i ≠ nA → listed[i]? = (List.replicate n true ++ List.replicate (m + 1) false).toArray[i]? := fun i hi => by
        rw [List.getElem?_toArray (xs := List.replicate n true ++ List.replicate (m + 1) false)]
        rcases Nat.lt_or_ge i n with h | h
        · rw [hall i h, List.getElem?_append_left (by simpa using h), List.getElem?_replicate, if_pos h]
        · rw [List.getElem?_append_right (by simpa using h), List.getElem?_replicate, List.length_replicate]
          rcases Nat.lt_or_ge i l.length with h2 | h2
          · rw [hun i h hi h2, if_pos (by omega)]
          · rw [if_neg (by omega), Array.getElem?_eq_none (by omega)]
      by_cases hi : i = nA
      · subst hi
        rw [hog]
        cases og with
        | none =>
          simp only [Option.isSome_none, Bool.false_eq_true, if_false]
          rw [List.getElem?_toArray, List.getElem?_append_right (by simpa using hnA), List.getElem?_replicate, if_pos (by simp; omega)]
        | some g =>
          simp only [Option.isSome_some, if_true]
          rw [Array.getElem?_setIfInBounds_self_of_lt (by simp; omega)]
      · rw [base i hi]
        split
        · rw [Array.getElem?_setIfInBounds_ne (Ne.symm hi)]
        · rfl
    rw [e]
    cases og with
    | none =>
      simp only [Option.isSome_none, Bool.false_eq_true, if_false] at e1
      have e2 : fuel = m + 1 := by rw [← hfu, e1]; simp [List.count_replicate]
      rw [e2, e1]
      exact hfin1
    | some g =>
      simp only [Option.isSome_some, if_true] at e1
      have e2 : fuel = m := by
        have h3 : nA < (List.replicate n true ++ List.replicate (m + 1) false).toArray.size := by simp; omega
        have h4 : (List.replicate n true ++ List.replicate (m + 1) false).toArray[nA] = false := by
          have : (List.replicate n true ++ List.replicate (m + 1) false).toArray[nA]? = some false := by
            rw [List.getElem?_toArray, List.getElem?_append_right (by simpa using hnA), List.getElem?_replicate, if_pos (by simp; omega)]
          exact (Array.getElem?_eq_some_iff.1 this).2
        have h5 := Array.count_set (xs := (List.replicate n true ++ List.replicate (m + 1) false).toArray) (i := nA) (a := true) (b := false) h3
        rw [← hfu, e1, Array.setIfInBounds, dif_pos h3, h5, h4]
        simp [List.count_replicate]
      rw [e2, e1]
      exact hfin2 g
  intro fuel
  induction fuel with
  | zero =>
    intro listed og hs hcl hog hun hn
    refine fin 0 listed og hs hog hun hn fun i hi => ?_
    cases hl : listed[i]? with
    | none => rw [Array.getElem?_eq_none_iff] at hl; omega
    | some b =>
      cases b with
      | true => rfl
      | false =>
        have : false ∈ listed := Array.mem_of_getElem? hl
        have := Array.count_pos_iff.2 this
        omega
  | succ fuel ih =>
    intro listed og hs hcl hog hun hn
    by_cases hall : ∀ (i : Nat), i < n → listed[i]? = some true
    · exact fin (fuel + 1) listed og hs hog hun hn hall
    refine ⟨fun a w hsim => ⟨fun h0 => ?_, fun j hj => ?_⟩⟩
    · exfalso
      apply hall
      intro i
      induction i using Nat.strongRecOn with
      | _ i ih' =>
        intro hi
        cases hl : listed[i]? with
        | none => rw [Array.getElem?_eq_none_iff] at hl; omega
        | some b =>
          cases b with
          | true => rfl
          | false =>
            have := Ev.ready_of_least hb (by simpa using hs) (by simp; omega) hl (fun k hk => ih' k hk (by omega))
            rw [h0] at this
            cases this
    obtain ⟨hju, o, hoj, hdone⟩ := mem_ready.1 hj
    have hjo : j < l.length := by
      have := (Array.getElem?_eq_some_iff.1 hoj).1
      simpa using this
    have hlt : j < listed.size := by omega
    have hjl : listed[j]? = some false := by simp [Array.getD, hlt] at hju; simp [hlt, hju]
    have hoj' : l[j]? = some o := by rw [← hget]; exact hoj
    have hdl : ∀ d ∈ Ev.depsOf o, listed[d]? = some true := Ev.deps_listed hdone
    have hold : ∀ (i : Nat), i ≠ j → (listed.setIfInBounds j true)[i]? = listed[i]? := fun i hij => by
      rw [Array.getElem?_setIfInBounds, if_neg (Ne.symm hij)]
    have hcl' : Ev.Closed l.toArray (listed.setIfInBounds j true) := fun i o' hi ho' d hd' => by
      have keep : ∀ (y : Nat), listed[y]? = some true → (listed.setIfInBounds j true)[y]? = some true := fun y hy => by
        by_cases e : y = j
        · subst e; simp [hlt]
        · rw [hold y e]; exact hy
      by_cases hij : i = j
      · subst hij
        rw [hoj] at ho'
        cases ho'
        exact keep d (hdl d hd')
      · rw [hold i hij] at hi
        exact keep d (hcl i o' hi ho' d hd')
    have hcnt : (listed.setIfInBounds j true).count false = fuel := by
      have := Array.count_set (xs := listed) (i := j) (a := true) (b := false) hlt
      rw [Array.setIfInBounds, dif_pos hlt]
      have h3 : listed[j] = false := by simpa [hlt] using hjl
      have h4 : 0 < listed.count false := Array.count_pos_iff.2 (Array.mem_iff_getElem.2 ⟨j, hlt, h3⟩)
      rw [this]
      simp [h3]
      omega
    have hLL : ∀ i, (listed.setIfInBounds j true).getD i false = (listed.getD i false || decide (i = j)) := fun i => by
      by_cases e : i = j
      · subst e; simp [Array.getD_eq_getD_getElem?, hlt]
      · simp [Array.getD_eq_getD_getElem?, hold i e, e]
    by_cases hjn : j = nA
    · subst hjn
      rw [hA] at hoj'; cases hoj'
      have hog' : og = none := by
        rw [hjl] at hog
        cases og with
        | none => rfl
        | some g => simp at hog
      subst hog'
      refine wpOp_of_list hoj ((Al_alloc (l := []) (Q := Then (Ad P N M0 w0 l.toArray Q fuel (listed.setIfInBounds j true)) Q) ho hgA hdA hNA hz hzs hv (fun g => Al_nil ?_)).out a w hsim) (fun a' w' ⟨st', h1, h2⟩ => h1.out a' w' h2) (fun c a' w' h => h) (fun ⟨a', w', h⟩ => ⟨a', w', h⟩)
      have hun' : ∀ i, n ≤ i → i ≠ j → i < l.length → (listed.setIfInBounds j true)[i]? = some false := fun i h1 h2 h3 => by
        rw [hold i h2]; exact hun i h1 h2 h3
      have := ih (listed.setIfInBounds j true) (some g) (by simpa using hs) hcl' (by simp [hlt]) hun' hcnt
      have e : stL (l.take n) ss (fun i => (listed.setIfInBounds j true).getD i false) st = stL (l.take n) ss (fun i => listed.getD i false) st := stL_congr (fun i hi => by
        rw [hLL i]
        simp at hi
        simp [show i ≠ j by omega]) (fun _ _ _ => rfl)
      rw [e] at this
      exact this
    · have hjn' : j < n := by
        rcases Nat.lt_or_ge j n with h | h
        · exact h
        · exact (hall (preA_ready ht hcl hj h hjn)).elim
      have hun' : ∀ i, n ≤ i → i ≠ nA → i < l.length → (listed.setIfInBounds j true)[i]? = some false := fun i h1 h2 h3 => by
        rw [hold i (by omega)]; exact hun i h1 h2 h3
      have hjt : (l.take n)[j]? = some o := by rw [htk j hjn']; exact hoj'
      obtain ⟨d, hdo, hS⟩ := hst j o hjt
      have hmem : o ∈ l.take n := List.mem_of_getElem? hjt
      have hdN := List.all_eq_true.1 hds o hmem
      rw [hdo] at hdN
      simp only [Bool.and_eq_true, decide_eq_true_eq, Bool.not_eq_true'] at hdN
      have hddA : d ≠ dA := fun e => by rw [e] at hdN; simp at hdN
      have hno := List.all_eq_true.1 hdA2 o hmem
      simp only [Bool.and_eq_true] at hno
      have hdrj := List.all_eq_true.1 hdr j (List.mem_range.2 hjn')
      rw [hoj'] at hdrj
      simp only [Bool.and_eq_true] at hdrj
      obtain ⟨⟨hops, hgd⟩, hconst⟩ := hdrj
      have hsl : ∀ t, opB (l.take n) j o t = true → t ≠ dA → (alcO dA (.box T (zs.map .d)) og (stL (l.take n) ss (fun i => listed.getD i false) st)).sl t = (stL (l.take n) ss (fun x => decide (x < j)) st).sl t := by
        intro t hop hne
        have e1 : (alcO dA (.box T (zs.map .d)) og (stL (l.take n) ss (fun i => listed.getD i false) st)).sl t = (stL (l.take n) ss (fun i => listed.getD i false) st).sl t := by
          cases og with
          | none => rfl
          | some g =>
            show (bif Nat.beq t dA then _ else _) = _
            have : Nat.beq t dA = false := by
              cases hb : Nat.beq t dA with
              | false => rfl
              | true => exact absurd (Nat.eq_of_beq_eq_true hb) hne
            rw [this]; rfl
        rw [e1]
        by_cases hin : inB (l.take n) t = true
        · simp only [opB, hin, Bool.not_true, Bool.false_or, List.any_eq_true, List.mem_range, Bool.and_eq_true, beq_iff_eq] at hop
          obtain ⟨i, hi, hid, hic⟩ := hop
          obtain ⟨oi, hoi, hoid⟩ := Option.bind_eq_some_iff.1 hid
          have hli := hdl i (by simpa using hic)
          rw [stL_at hd hoi hoid (by simp [Array.getD_eq_getD_getElem?, hli]), stL_at hd hoi hoid (by simpa using hi)]
        · have hout : ∀ (i : Nat) (o' : Oper), (l.take n)[i]? = some o' → o'.dst ≠ some t := fun i o' h1 h2 => hin (by
            simp only [inB, List.any_eq_true, beq_iff_eq]
            exact ⟨o', List.mem_of_getElem? h1, h2⟩)
          rw [stL_out fun i o' h1 h2 => absurd h2 (hout i o' h1), stL_out fun i o' h1 h2 => absurd h2 (hout i o' h1)]
      have hS2 : St P l.toArray (alcO dA (.box T (zs.map .d)) og (stL (l.take n) ss (fun i => listed.getD i false) st)) o (ss j) := by
        refine St_frame hS (fun x hx => ?_) (fun j' b oj dj h1 h2 h3 => ?_) (fun k g ob h => ?_)
        · cases x with
          | tmp t =>
            have h1 := List.all_eq_true.1 hops _ hx
            have h2 := List.all_eq_true.1 hno.1 _ hx
            exact hsl t h1 (fun e => by rw [e] at h2; simp at h2)
          | _ => rfl
        · rw [hget] at h2
          rw [h1] at hgd
          simp only [h2, h3, Bool.and_eq_true, decide_eq_true_eq] at hgd
          have h4 := hno.2
          rw [h1] at h4
          simp only [h2, h3, Bool.not_eq_true'] at h4
          exact hsl dj hgd.1 (fun e => by rw [e] at h4; simp at h4)
        · cases og with
          | none => exact h
          | some g' =>
            show (bif Nat.beq k dA then _ else st.ob k) = _
            have h' : st.ob k = some (g, ob) := h
            have : Nat.beq k dA = false := by
              cases hb : Nat.beq k dA with
              | false => rfl
              | true =>
                have := Nat.eq_of_beq_eq_true hb
                subst this
                rw [hfree] at h'; cases h'
            rw [this]; exact h'
      refine wpOp_of_list hoj ((Al_st (l := []) (Q := Then (Ad P N M0 w0 l.toArray Q fuel (listed.setIfInBounds j true)) Q) hS2 hdo hdN.1 hconst (fun j' b oj dj h1 h2 h3 => ?_) (Al_nil ?_)).out a w hsim) (fun a' w' ⟨st', h1, h2⟩ => h1.out a' w' h2) (fun c a' w' h => h) (fun ⟨a', w', h⟩ => ⟨a', w', h⟩)
      · rw [hget] at h2
        rw [h1] at hgd
        simp only [h2, h3, Bool.and_eq_true, decide_eq_true_eq] at hgd
        exact hgd.2
      · have := ih (listed.setIfInBounds j true) og (by simpa using hs) hcl' (by rw [hold nA (Ne.symm hjn)]; exact hog) hun' hcnt
        have e : (alcO dA (.box T (zs.map .d)) og (stL (l.take n) ss (fun i => listed.getD i false) st)).set d (ss j) = alcO dA (.box T (zs.map .d)) og (stL (l.take n) ss (fun i => (listed.setIfInBounds j true).getD i false) st) := by
          have e2 : (stL (l.take n) ss (fun i => listed.getD i false) st).set d (ss j) = stL (l.take n) ss (fun i => (listed.setIfInBounds j true).getD i false) st := stL_set hd hjt hdo hLL
          cases og with
          | none => exact e2
          | some g => show (alcS _ _ _ _).set d (ss j) = alcS _ _ _ _; rw [alcS_set hddA, e2]
        show Ad P N M0 w0 l.toArray Q fuel (listed.setIfInBounds j true) _
        rw [e]
        exact this
/-- A region that draws its order: pure operations ahead, and a variable that is made somewhere; the rest is walked order by order. -/
theorem Aw_drawPA {id : Nat} {l : List Oper} (n nA m : Nat) {oA : Oper} {dA : Nat} {T : TypeId} {z : Value} {zs : List AV} (hm : P.follows .mixedOrders = true) (hok : drawPAB N l n nA dA = true) (hnm : l.length = n + (m + 1)) (hnA : n ≤ nA) (hA : l[nA]? = some oA) (ho : oA.op = .alloc T) (hgA : oA.guard = none) (hdA : oA.dst = some dA) (hNA : dA < N) (hz : ∀ w, (zeroValue T).run P w = .ok z w) (hzs : z.cells.toList.map AV.v = zs) (hv : z.cells.toList.all (fun z => decide (vok z)) = true) (hfree : st.ob dA = none)
    (h : Dr P l.toArray (fun st' => Ad P N M0 w0 l.toArray Q (m + 1) (List.replicate n true ++ List.replicate (m + 1) false).toArray st' ∧ ∀ g, Ad P N M0 w0 l.toArray Q m ((List.replicate n true ++ List.replicate (m + 1) false).toArray.setIfInBounds nA true) ((st'.put dA g (.box T (zs.map .d))).set dA (.bx dA g 0))) (l.take n) st) : Aw P N M0 w0 (.region id l.toArray true) Q st := by
  have hd : Ev.distinct (l.take n) = true := by
    simp only [drawPAB, Bool.and_eq_true] at hok
    exact hok.1.1.1.1.1
  have hnl : nA < l.length := (List.getElem?_eq_some_iff.1 hA).1
  have h0 : stL (l.take n) (fun _ => .any) (fun i => decide (i < 0)) st = st := by
    refine Eq.trans (stL_congr (fun i _ => ?_) (fun _ _ _ => rfl)) (stL_none (l := l.take n) (ss := fun _ => .any) (st := st))
    simp
  obtain ⟨ss, _, h2, h3, h4⟩ := dr_all hd (l.take n) 0 (fun _ => .any) rfl (by rw [h0]; exact h)
  refine Aw_drawn hm ?_
  have := drawPA_go hok hnm hnA hA ho hgA hdA hNA hz hzs hv hfree (fun i o hi => h2 i o (Nat.zero_le _) hi) h3 (fun g => h4 g) l.length (List.replicate l.length false).toArray none (by simp) (fun i o h1 _ d _ => by
    exfalso
    rw [List.getElem?_toArray, List.getElem?_replicate] at h1
    split at h1 <;> simp at h1) (by simp [List.getElem?_replicate, hnl]) (fun i _ _ hi => by simp [List.getElem?_replicate, hi]) (by simp [Array.count_replicate])
  have e : stL (l.take n) ss (fun i => (List.replicate l.length false).toArray.getD i false) st = st := by
    refine Eq.trans (stL_congr (fun i _ => ?_) (fun _ _ _ => rfl)) stL_none
    rw [Array.getD_eq_getD_getElem?, List.getElem?_toArray, List.getElem?_replicate]
    split <;> rfl
  rw [e] at this
  exact this
end
end Go.Proofs.YtmbaeloiepjakaaGreat.A
end

section
namespace Go.Proofs.YtmbaeloiepjakaaGreat
open Go.RowKit R
def SameTo (l m : List ByteArray) (k : Nat) : Prop := ∀ (i : Nat) (a b : ByteArray), i < k → l[i]? = some a → m[i]? = some b → (a.toList == b.toList) = true
theorem SameTo.next {l m : List ByteArray} {k : Nat} (h : SameTo l m k) {a b : ByteArray} (ha : l[k]? = some a) (hb : m[k]? = some b) (he : (a.toList == b.toList) = true) : SameTo l m (k + 1) := fun i x y hi hx hy => by
  by_cases e : i = k
  · subst e; rw [ha] at hx; rw [hb] at hy; cases hx; cases hy; exact he
  · exact h i x y (by omega) hx hy
def pv (l : List Rng) (k : Nat) : ByteArray := if k = 0 then ⟨#[]⟩ else (l.getD (k - 1) ⟨⟨#[]⟩, ⟨#[]⟩⟩).t
end Go.Proofs.YtmbaeloiepjakaaGreat
end

section
namespace Go.Proofs.YtmbaeloiepjakaaGreat
open Go.RowKit A R
open A.RowT
instance : RowI Rng where
  row := Rng.row
  into h _ := by
    obtain ⟨rfl, h2, h3⟩ := h
    exact cellsc (.v _ h2) rfl (cells1 (.v _ h3) rfl)
  back h := by
    obtain ⟨x1, xs1, rfl, h1_1, h2_1, g1⟩ := uncons h
    obtain ⟨rfl, k1⟩ := repv h1_1
    obtain ⟨x2, xs2, rfl, h1_2, h2_2, g2⟩ := uncons g1
    obtain ⟨rfl, k2⟩ := repv h1_2
    obtain rfl := uncons0 g2
    exact ⟨rfl, k1, k2⟩
namespace S
def shape (c : SRow) : Bool := !(decide (c.parents.length < 1) || decide (6 < c.parents.length) || decide (8 < c.ranges.length) || !decide (c.owners.length = c.ranges.length) || !whole c.ranges)
def badP (p : Int) : Bool := decide (p < -1) || decide (6 ≤ p)
def badO (n : Nat) (x : Int) : Bool := decide (x < 1) || decide (2 ^ n ≤ x)
/-- A row that is written. -/
def written (c : SRow) : Bool := shape c && (!c.parents.any badP && !c.owners.any (badO c.parents.length))
end S
namespace S
end S
end Go.Proofs.YtmbaeloiepjakaaGreat
end

section
namespace Go.Proofs.YtmbaeloiepjakaaGreat.A
open Go Go.RowKit
section
variable {P : Program} {st : ASt} {o : Oper}
end
end Go.Proofs.YtmbaeloiepjakaaGreat.A
namespace Go.Proofs.YtmbaeloiepjakaaGreat
open Go.RowKit A R
open A.RowT
namespace T
/-- A row that may be. -/
def ok (c : SRow) : Bool := S.shape c && !c.owners.any (S.badO c.parents.length)
/-- The sites that own a key. -/
def owners (c : SRow) (key : ByteArray) : Nat := if ok c then (if findR c.ranges key < 0 then 0 else (c.owners.getD (findR c.ranges key).toNat 0).toNat) else 0
end T
theorem idxF_le {α : Type} (p : α → Bool) (l : List α) : -1 ≤ idxF p l ∧ idxF p l < l.length ∨ l = [] ∧ idxF p l = -1 := by
  unfold idxF
  cases h : l.findIdx? p with
  | none =>
    cases l with
    | nil => exact .inr ⟨rfl, rfl⟩
    | cons x r => exact .inl ⟨by simp, by simp; omega⟩
  | some i =>
    have : i < l.length := by
      rw [List.findIdx?_eq_some_iff_getElem] at h
      exact h.1
    exact .inl ⟨by simp only []; omega, by simp only []; omega⟩
theorem find_vok (l : List Rng) (key : ByteArray) (h : l.length ≤ 1000000) : vok (.int .i64 (findR l key)) := by
  show A.inI _
  unfold findR
  simp only [A.inI]
  rcases idxF_le (fun r => K.hasB r.f r.t key) l with h1 | ⟨_, h1⟩ <;> omega
theorem find_a (l : List Rng) (key : ByteArray) (hl : l.length ≤ 1000000) : ACall Tryz.prog 79 [.sl 2 (l.map Rng.row), tv key] (iv (findR l key)) := A.ofv (fun _ _ => by kernel_rfl) (find_vok l key hl) fun M w vs ha => by
  obtain ⟨x, xs, rfl, h1, h2⟩ := allc ha
  obtain ⟨rfl, _⟩ := A.all1 h2
  exact find_any x l key _ w (sl_of (α := Rng) h1)
end Go.Proofs.YtmbaeloiepjakaaGreat
namespace Go.Proofs.YtmbaeloiepjakaaGreat
open Go.RowKit A R
open A.RowT
end Go.Proofs.YtmbaeloiepjakaaGreat
namespace Go.Proofs.YtmbaeloiepjakaaGreat
open Go.RowKit A R
namespace T
end T
namespace T
end T
end Go.Proofs.YtmbaeloiepjakaaGreat
end
