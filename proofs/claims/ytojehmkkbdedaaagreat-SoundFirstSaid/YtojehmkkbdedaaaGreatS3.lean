/- What the proofs need in common, laid together (3 of 5): no condition. -/
import Derived.Test.YtojehmkkbdedaaaGreatS2
import Derived.Laws.OwnMore
import Derived.Shelf.Sort.Plain
import Derived.Shelf.Slices.In.SortNone
import Derived.DeepKeys4
set_option linter.unusedSimpArgs false
set_option linter.unusedVariables false
set_option linter.constructorNameAsVariable false

section
namespace Go.Proofs.YtojehmkkbdedaaaGreat
open Go.RowKit A R
open A.RowT
namespace D
def cmpS (a b : ByteArray) : Int := if Op.bytesLess a.toList b.toList then -1 else if Op.bytesLess b.toList a.toList then 1 else 0
theorem cmp_lt {a b : ByteArray} : cmpS a b < 0 ↔ Op.bytesLess a.toList b.toList = true := by
  unfold cmpS
  cases h : Op.bytesLess a.toList b.toList <;> cases Op.bytesLess b.toList a.toList <;> simp
theorem cmp_ge {a b : ByteArray} (h : Op.bytesLess a.toList b.toList = false) : 0 ≤ cmpS a b := Int.not_lt.1 fun e => by rw [cmp_lt.1 e] at h; cases h
theorem cmp_eq {a b : ByteArray} : cmpS a b = 0 ↔ a.toList = b.toList := by
  unfold cmpS
  cases h : Op.bytesLess a.toList b.toList <;> cases h2 : Op.bytesLess b.toList a.toList <;> simp
  · exact K.bl_tri _ _ h h2
  · intro e; rw [e, K.bl_irrefl] at h2; cases h2
  · intro e; rw [e, K.bl_irrefl] at h; cases h
  · intro e; rw [e, K.bl_irrefl] at h; cases h
/-- A row of deps that rises. -/
def Srt (p : List Dep) : Prop := p.Pairwise fun x y => Op.bytesLess x.key.toList y.key.toList = true
/-- And all of which may be. -/
structure Good (p : List Dep) : Prop where
  srt : Srt p
  ok : ∀ x ∈ p, okB x = true
/-- Where a key is, or would be. -/
def pos : List Dep → ByteArray → Nat
  | [], _ => 0
  | x :: r, k => if Op.bytesLess x.key.toList k.toList then pos r k + 1 else 0
theorem pos_le : ∀ (p : List Dep) (k : ByteArray), pos p k ≤ p.length
  | [], _ => Nat.le_refl _
  | x :: r, k => by
    unfold pos
    have := pos_le r k
    split
    · simp; omega
    · simp
theorem pos_lo : ∀ (p : List Dep) (k : ByteArray) (j : Nat) (hj : j < p.length), j < pos p k → Op.bytesLess p[j].key.toList k.toList = true
  | [], _, j, hj, _ => by cases hj
  | x :: r, k, j, hj, h => by
    unfold pos at h
    split at h
    · rename_i hx
      cases j with
      | zero => exact hx
      | succ j => exact pos_lo r k j (by simpa using hj) (by omega)
    · omega
theorem pos_hi : ∀ (p : List Dep) (k : ByteArray), Srt p → ∀ (j : Nat) (hj : j < p.length), pos p k ≤ j → Op.bytesLess p[j].key.toList k.toList = false
  | [], _, _, j, hj, _ => by cases hj
  | x :: r, k, hs, j, hj, h => by
    have hc := List.pairwise_cons.1 hs
    unfold pos at h
    split at h
    · cases j with
      | zero => omega
      | succ j => exact pos_hi r k hc.2 j (by simpa using hj) (by omega)
    · rename_i hx
      have hx : Op.bytesLess x.key.toList k.toList = false := by simpa using hx
      cases j with
      | zero => exact hx
      | succ j =>
        cases h2 : Op.bytesLess (x :: r)[j + 1].key.toList k.toList with
        | false => rfl
        | true =>
          have h3 := hc.1 _ (List.getElem_mem (by simpa using hj : j < r.length))
          have := K.bl_trans _ _ _ h3 h2
          rw [hx] at this; cases this
def hasK (p : List Dep) (k : ByteArray) : Bool := p.any fun x => x.key.toList == k.toList
theorem pos_has {p : List Dep} {k : ByteArray} (hs : Srt p) : (decide (pos p k < p.length) && decide (cmpS (p.getD (pos p k) default).key k = 0)) = hasK p k := by
  unfold hasK
  cases h : p.any fun x => x.key.toList == k.toList with
  | true =>
    obtain ⟨x, hx, he⟩ := List.any_eq_true.1 h
    obtain ⟨j, hj, rfl⟩ := List.getElem_of_mem hx
    have he : p[j].key.toList = k.toList := by simpa using he
    have h1 : pos p k = j := by
      rcases Nat.lt_trichotomy (pos p k) j with h2 | h2 | h2
      · have h3 := pos_hi p k hs (pos p k) (by omega) (Nat.le_refl _)
        have h4 := List.pairwise_iff_getElem.1 hs (pos p k) j (by omega) hj h2
        rw [he] at h4; rw [h4] at h3; cases h3
      · exact h2
      · have h3 := pos_lo p k j hj h2
        rw [he, K.bl_irrefl] at h3; cases h3
    rw [h1]
    simp [hj, cmp_eq.2 he]
  | false =>
    by_cases h1 : pos p k < p.length
    · have h2 : ¬ cmpS (p.getD (pos p k) default).key k = 0 := fun e => by
        have e := cmp_eq.1 e
        rw [List.any_eq_false] at h
        exact h p[pos p k] (List.getElem_mem h1) (by simpa [h1] using e)
      simp only [h2, decide_false, Bool.and_false]
    · simp [h1]
theorem byte_inj {a b : ByteArray} (h : a.toList = b.toList) : a = b := by
  rw [ByteArray.toList_eq, ByteArray.toList_eq] at h
  exact ByteArray.ext (Array.toList_inj.1 h)
theorem pos_at {p : List Dep} {k : ByteArray} (hs : Srt p) (h : hasK p k = true) : ∃ hj : pos p k < p.length, p[pos p k].key = k := by
  rw [← pos_has hs] at h
  simp only [Bool.and_eq_true, decide_eq_true_eq] at h
  refine ⟨h.1, ?_⟩
  have := cmp_eq.1 h.2
  simp only [List.getD_eq_getElem?_getD, h.1, List.getElem?_eq_getElem, Option.getD_some] at this
  exact byte_inj this
/-- A key's stamp. -/
def get (p : List Dep) (k : ByteArray) : Int × Int := match p.find? fun x => x.key.toList == k.toList with
  | some x => (x.n, x.s)
  | none => (0, 0)
theorem get_no {p : List Dep} {k : ByteArray} (h : hasK p k = false) : get p k = (0, 0) := by
  unfold get
  have : p.find? (fun x => x.key.toList == k.toList) = none := by
    rw [List.find?_eq_none]
    intro x hx
    have := List.any_eq_false.1 h x hx
    simpa using this
  rw [this]
theorem get_first : ∀ {p : List Dep} {k : ByteArray} {j : Nat} (hj : j < p.length), p[j].key.toList = k.toList → (∀ (i : Nat) (hi : i < p.length), i < j → ¬ p[i].key.toList = k.toList) → get p k = (p[j].n, p[j].s)
  | [], _, j, hj, _, _ => by cases hj
  | x :: r, k, 0, _, h, _ => by
    unfold get
    rw [List.find?_cons_of_pos (by simpa using h)]; rfl
  | x :: r, k, j + 1, hj, h, hn => by
    have h0 := hn 0 (by simp) (by omega)
    have ih := get_first (p := r) (k := k) (j := j) (by simpa using hj) (by simpa using h) (fun i hi hij => by have := hn (i + 1) (by simpa using hi) (by omega); rwa [List.getElem_cons_succ] at this)
    unfold get at *
    rw [List.find?_cons_of_neg (by simpa using h0), ih]; rfl
theorem get_pos {p : List Dep} {k : ByteArray} (hs : Srt p) (h : hasK p k = true) {x : Dep} (hx : p.getD (pos p k) default = x) : get p k = (x.n, x.s) := by
  obtain ⟨hj, he⟩ := pos_at hs h
  have : p[pos p k] = x := by rw [← hx]; simp [hj]
  rw [← this]
  refine get_first hj (by rw [he]) fun i hi hij e => ?_
  have := pos_lo p k i hi hij
  rw [e, K.bl_irrefl] at this; cases this
theorem addF_true : ∀ (r : List Dep) (d : Dep), (∀ x ∈ r, eqB x d = false) → addF r d true = r
  | [], d, _ => by simp [addF]
  | x :: r, d, h => by
    rw [addF, if_neg (by simp [h x (by simp)]), if_pos rfl, addF_true r d fun y hy => h y (by simp [hy])]
theorem eq_toList {x d : Dep} : eqB x d = true ↔ x.key.toList = d.key.toList := by unfold eqB; simp
theorem addF_srt : ∀ (p : List Dep) (d : Dep), Srt p → addF p d false = (if hasK p d.key then p.take (pos p d.key) ++ (if lessB (p.getD (pos p d.key) default).n (p.getD (pos p d.key) default).s d.n d.s then d else p.getD (pos p d.key) default) :: p.drop (pos p d.key + 1) else p.take (pos p d.key) ++ d :: p.drop (pos p d.key))
  | [], d, _ => by simp [addF, hasK, pos]
  | x :: r, d, hs => by
    have hc := List.pairwise_cons.1 hs
    have ih := addF_srt r d hc.2
    rw [addF]
    cases he : eqB x d with
    | true =>
      have he' := eq_toList.1 he
      have hp : pos (x :: r) d.key = 0 := by unfold pos; rw [he', K.bl_irrefl]; rfl
      have hh : hasK (x :: r) d.key = true := by simp [hasK, he']
      have hr : addF r d true = r := addF_true r d fun y hy => by
        cases h : eqB y d with
        | false => rfl
        | true =>
          have := hc.1 y hy
          rw [eq_toList.1 h, he', K.bl_irrefl] at this; cases this
      rw [if_pos rfl, hr, if_pos hh, hp]
      simp
    | false =>
      have hne : ¬ x.key.toList = d.key.toList := fun e => by rw [eq_toList.2 e] at he; cases he
      cases hl : ltB x d with
      | true =>
        have hl' : Op.bytesLess x.key.toList d.key.toList = true := hl
        have hp : pos (x :: r) d.key = pos r d.key + 1 := by rw [pos, if_pos hl']
        have hh : hasK (x :: r) d.key = hasK r d.key := by unfold hasK; rw [List.any_cons]; simp [hne]
        rw [if_neg (by simp), if_neg (by simp), if_pos rfl, ih, hp, hh]
        cases hasK r d.key <;> simp
      | false =>
        have hl' : Op.bytesLess x.key.toList d.key.toList = false := hl
        have hp : pos (x :: r) d.key = 0 := by rw [pos, if_neg (by simp [hl'])]
        have hlt : Op.bytesLess d.key.toList x.key.toList = true := by
          cases h : Op.bytesLess d.key.toList x.key.toList with
          | true => rfl
          | false => exact absurd (K.bl_tri _ _ hl' h) hne
        have hno : ∀ y ∈ r, eqB y d = false := fun y hy => by
          cases h : eqB y d with
          | false => rfl
          | true =>
            have := K.bl_trans _ _ _ hlt (hc.1 y hy)
            rw [eq_toList.1 h, K.bl_irrefl] at this; cases this
        have hh : hasK (x :: r) d.key = false := by
          unfold hasK
          rw [List.any_eq_false]
          intro y hy
          rcases List.mem_cons.1 hy with rfl | hy
          · simpa using hne
          · have := hno y hy; unfold eqB at this; simp [this]
        rw [if_neg (by simp), if_neg (by simp), if_neg (by simp), addF_true r d hno, hh, hp]
        simp
theorem add_no {p : List Dep} {d : Dep} (h : okB d = false) : add p d = p := by unfold add; rw [h]; rfl
theorem add_new {p : List Dep} {d : Dep} (hs : Srt p) (h : okB d = true) (hk : hasK p d.key = false) : add p d = p.take (pos p d.key) ++ d :: p.drop (pos p d.key) := by
  unfold add
  rw [if_pos h, addF_srt p d hs, hk]; rfl
theorem add_old {p : List Dep} {d : Dep} (hs : Srt p) (h : okB d = true) (hk : hasK p d.key = true) : add p d = p.set (pos p d.key) (if lessB (p.getD (pos p d.key) default).n (p.getD (pos p d.key) default).s d.n d.s then d else p.getD (pos p d.key) default) := by
  unfold add
  obtain ⟨hj, _⟩ := pos_at hs hk
  rw [if_pos h, addF_srt p d hs, if_pos hk, List.set_eq_take_append_cons_drop, if_pos hj]
theorem add_good {p : List Dep} (hp : Good p) (d : Dep) : Good (add p d) := by
  cases hd : okB d with
  | false => rw [add_no hd]; exact hp
  | true =>
    refine ⟨?_, fun x hx => ?_⟩
    · have key : ∀ (p : List Dep), Srt p → (∀ x : Dep, (∀ y ∈ p, Op.bytesLess x.key.toList y.key.toList = true) → Op.bytesLess x.key.toList d.key.toList = true → ∀ y ∈ addF p d false, Op.bytesLess x.key.toList y.key.toList = true) ∧ Srt (addF p d false) := by
        intro p
        induction p with
        | nil => intro _; exact ⟨fun x _ h y hy => by simp [addF] at hy; subst hy; exact h, by simp [addF, Srt]⟩
        | cons z r ih =>
          intro hs
          have hc := List.pairwise_cons.1 hs
          have hmem : ∀ (q : List Dep) (put : Bool) (y : Dep), y ∈ addF q d put → y ∈ q ∨ y = d := fun q put y => addF_mem q d put y
          refine ⟨fun x h1 h2 y hy => ?_, ?_⟩
          · rcases hmem _ _ _ hy with h | rfl
            · exact h1 y h
            · exact h2
          · rw [addF]
            split
            · rename_i he
              have he' := eq_toList.1 he
              have hr : addF r d true = r := addF_true r d fun y hy => by
                cases h : eqB y d with
                | false => rfl
                | true =>
                  have := hc.1 y hy
                  rw [eq_toList.1 h, he', K.bl_irrefl] at this; cases this
              rw [hr]
              refine List.pairwise_cons.2 ⟨fun y hy => ?_, hc.2⟩
              have h3 := hc.1 y hy
              split
              · rw [← he']; exact h3
              · exact h3
            · rename_i he
              have hne : ¬ z.key.toList = d.key.toList := fun e => he (eq_toList.2 e)
              rw [if_neg (by simp)]
              split
              · rename_i hl
                exact List.pairwise_cons.2 ⟨(ih hc.2).1 z hc.1 hl, (ih hc.2).2⟩
              · rename_i hl
                have hl' : Op.bytesLess z.key.toList d.key.toList = false := by unfold ltB at hl; simpa using hl
                have hlt : Op.bytesLess d.key.toList z.key.toList = true := by
                  cases h : Op.bytesLess d.key.toList z.key.toList with
                  | true => rfl
                  | false => exact absurd (K.bl_tri _ _ hl' h) hne
                have hno : ∀ y ∈ r, eqB y d = false := fun y hy => by
                  cases h : eqB y d with
                  | false => rfl
                  | true =>
                    have := K.bl_trans _ _ _ hlt (hc.1 y hy)
                    rw [eq_toList.1 h, K.bl_irrefl] at this; cases this
                rw [addF_true r d hno]
                refine List.pairwise_cons.2 ⟨fun y hy => ?_, hs⟩
                rcases List.mem_cons.1 hy with rfl | hy
                · exact hlt
                · exact K.bl_trans _ _ _ hlt (hc.1 y hy)
      have := (key p hp.srt).2
      unfold add
      rw [if_pos hd]
      exact this
    · rcases add_mem p d x hx with h | rfl
      · exact hp.ok x h
      · exact hd
theorem less_eq (a b c d : Int) : (!(a == c && b == d) && (decide (a < c) || decide (a = c) && decide (b ≤ d))) = lessB a b c d := by
  unfold lessB
  by_cases h : a = c <;> by_cases h2 : b = d <;> simp [h, h2] <;> first | omega | (rw [Bool.eq_iff_iff]; simp; omega)
theorem good_nil : Good [] := ⟨.nil, fun x hx => by cases hx⟩
theorem ok_stamp {d : Dep} (h : okB d = true) : 1 ≤ d.n ∧ d.n ≤ 1099511627776 ∧ 0 ≤ d.s ∧ d.s < 6 := by
  unfold okB V.stampB at h
  simp only [Bool.and_eq_true, decide_eq_true_eq] at h
  obtain ⟨_, h⟩ := h
  refine ⟨?_, ?_, ?_, ?_⟩ <;> omega
end D
theorem check_a (s : ByteArray) : ACall Tryz.prog 64 [tv s] (bv (K.checkB s)) := A.ofv (fun _ _ => by kernel_rfl) trivial fun M w vs ha => by
  obtain ⟨rfl, h⟩ := A.all1 ha
  exact check_any s h w
set_option maxRecDepth 100000 in
theorem stcheck_a (n s : Int) : ACall Tryz.prog 68 [.row [iv n, iv s]] (bv (V.stampB n s)) := by
  refine ACall_enter (fun _ _ => by kernel_rfl) Tryz.func68 rfl Tryz.ntmps68 Tryz.results68 (Nat.le_of_ble_eq_true rfl) (fun hok M0 w0 hnl => ?_)
  refine Aw_seq (Aw_region ?_)
  refine Al_p (Pu_boxN rfl rfl) ?_
  refine Al_p Pu_mvr ?_
  refine Al_nil (Aw_seq (Aw_region ?_))
  refine Al_p (Pu_field 0 rfl Tryz.underlying43 rfl rfl Tryz.sizeOf3 rfl) ?_
  refine Al_p (Pu_load1 rfl Tryz.isAgg3 rfl rfl) ?_
  refine Al_p (Pu_cmp rfl rfl rfl rfl) ?_
  refine Al_p Pu_mvl ?_
  refine Al_st (St_gd [] rfl rfl rfl rfl trivial (fun hg7 => Pu_field 0 rfl Tryz.underlying43 rfl rfl Tryz.sizeOf3 rfl)) rfl (by decide) (by kernel_rfl) (by intro j b oj dj h1 h2 h3; cases h1; cases h2; cases h3; decide) ?_
  refine Al_st (St_gd [7] rfl rfl rfl rfl ⟨⟨_, rfl⟩, trivial⟩ (fun hg8 => Pu_load1 rfl Tryz.isAgg3 rfl rfl)) rfl (by decide) (by kernel_rfl) (by intro j b oj dj h1 h2 h3; cases h1; cases h2; cases h3; decide) ?_
  refine Al_st (St_gd [8] rfl rfl rfl rfl ⟨⟨_, rfl⟩, trivial⟩ (fun hg9 => Pu_cmp rfl rfl rfl rfl)) rfl (by decide) (by kernel_rfl) (by intro j b oj dj h1 h2 h3; cases h1; cases h2; cases h3; decide) ?_
  refine Al_p (Pu_and rfl rfl rfl rfl) ?_
  refine Al_p Pu_mvl ?_
  refine Al_st (St_gd [] rfl rfl rfl rfl trivial (fun hg12 => Pu_field 1 rfl Tryz.underlying43 rfl rfl Tryz.sizeOf3 rfl)) rfl (by decide) (by kernel_rfl) (by intro j b oj dj h1 h2 h3; cases h1; cases h2; cases h3; decide) ?_
  refine Al_st (St_gd [12] rfl rfl rfl rfl ⟨⟨_, rfl⟩, trivial⟩ (fun hg13 => Pu_load1 rfl Tryz.isAgg3 rfl rfl)) rfl (by decide) (by kernel_rfl) (by intro j b oj dj h1 h2 h3; cases h1; cases h2; cases h3; decide) ?_
  refine Al_st (St_gd [13] rfl rfl rfl rfl ⟨⟨_, rfl⟩, trivial⟩ (fun hg14 => Pu_cmp rfl rfl rfl rfl)) rfl (by decide) (by kernel_rfl) (by intro j b oj dj h1 h2 h3; cases h1; cases h2; cases h3; decide) ?_
  refine Al_p (Pu_and rfl rfl rfl rfl) ?_
  refine Al_p Pu_mvl ?_
  refine Al_st (St_gd [] rfl rfl rfl rfl trivial (fun hg17 => Pu_field 1 rfl Tryz.underlying43 rfl rfl Tryz.sizeOf3 rfl)) rfl (by decide) (by kernel_rfl) (by intro j b oj dj h1 h2 h3; cases h1; cases h2; cases h3; decide) ?_
  refine Al_st (St_gd [17] rfl rfl rfl rfl ⟨⟨_, rfl⟩, trivial⟩ (fun hg18 => Pu_load1 rfl Tryz.isAgg3 rfl rfl)) rfl (by decide) (by kernel_rfl) (by intro j b oj dj h1 h2 h3; cases h1; cases h2; cases h3; decide) ?_
  refine Al_st (St_gd [18] rfl rfl rfl rfl ⟨⟨_, rfl⟩, trivial⟩ (fun hg19 => Pu_cmp rfl rfl rfl rfl)) rfl (by decide) (by kernel_rfl) (by intro j b oj dj h1 h2 h3; cases h1; cases h2; cases h3; decide) ?_
  refine Al_p (Pu_and rfl rfl rfl rfl) ?_
  refine Al_p Pu_mvr ?_
  refine Al_nil ?_
  refine Aw_ret ?_
  exact Sub.bool (by unfold V.stampB; simp [Bool.and_assoc]) -- ret 0
set_option maxRecDepth 100000 in
theorem less_a (a b c d : Int) : ACall Tryz.prog 40 [.row [iv a, iv b], .row [iv c, iv d]] (bv (D.lessB a b c d)) := by
  refine ACall_enter (fun _ _ => by kernel_rfl) Tryz.func40 rfl Tryz.ntmps40 Tryz.results40 (Nat.le_of_ble_eq_true rfl) (fun hok M0 w0 hnl => ?_)
  refine Aw_seq (Aw_region ?_)
  refine Al_p (Pu_boxN rfl rfl) ?_
  refine Al_p (Pu_boxN rfl rfl) ?_
  refine Al_p Pu_mvr ?_
  refine Al_nil (Aw_seq (Aw_region ?_))
  refine Al_p (Pu_loadN rfl Tryz.isAgg43 Tryz.sizeOf43 rfl (Nat.le_of_ble_eq_true rfl)) ?_
  refine Al_p (Pu_loadN rfl Tryz.isAgg43 Tryz.sizeOf43 rfl (Nat.le_of_ble_eq_true rfl)) ?_
  refine Al_p (Pu_eqrow [.int .i64 _, .int .i64 _] [.int .i64 _, .int .i64 _] (fun w => nev43 _ _ _ _ _ _ w) rfl rfl rfl) ?_
  refine Al_p Pu_mvl ?_
  refine Al_st (St_gd [] rfl rfl rfl rfl trivial (fun hg9 => Pu_field 0 rfl Tryz.underlying43 rfl rfl Tryz.sizeOf3 rfl)) rfl (by decide) (by kernel_rfl) (by intro j b oj dj h1 h2 h3; cases h1; cases h2; cases h3; decide) ?_
  refine Al_st (St_gd [9] rfl rfl rfl rfl ⟨⟨_, rfl⟩, trivial⟩ (fun hg10 => Pu_load1 rfl Tryz.isAgg3 rfl rfl)) rfl (by decide) (by kernel_rfl) (by intro j b oj dj h1 h2 h3; cases h1; cases h2; cases h3; decide) ?_
  refine Al_st (St_gd [] rfl rfl rfl rfl trivial (fun hg11 => Pu_field 0 rfl Tryz.underlying43 rfl rfl Tryz.sizeOf3 rfl)) rfl (by decide) (by kernel_rfl) (by intro j b oj dj h1 h2 h3; cases h1; cases h2; cases h3; decide) ?_
  refine Al_st (St_gd [11] rfl rfl rfl rfl ⟨⟨_, rfl⟩, trivial⟩ (fun hg12 => Pu_load1 rfl Tryz.isAgg3 rfl rfl)) rfl (by decide) (by kernel_rfl) (by intro j b oj dj h1 h2 h3; cases h1; cases h2; cases h3; decide) ?_
  refine Al_st (St_gd [10, 12] rfl rfl rfl rfl ⟨⟨_, rfl⟩, ⟨_, rfl⟩, trivial⟩ (fun hg13 => Pu_cmp rfl rfl rfl rfl)) rfl (by decide) (by kernel_rfl) (by intro j b oj dj h1 h2 h3; cases h1; cases h2; cases h3; decide) ?_
  refine Al_st (St_gd [13] rfl rfl rfl rfl ⟨⟨_, rfl⟩, trivial⟩ (fun hg14 => by exact Pu_move (.inl rfl) (by conv => lhs; whnf))) rfl (by decide) (by kernel_rfl) (by intro j b oj dj h1 h2 h3; cases h1; cases h2; cases h3; decide) ?_
  refine Al_st (St_gd2 [] rfl rfl rfl rfl trivial (fun hp15 hg15 => Pu_field 0 rfl Tryz.underlying43 rfl rfl Tryz.sizeOf3 rfl)) rfl (by decide) (by kernel_rfl) (by intro j b oj dj h1 h2 h3; cases h1; cases h2; cases h3; decide) ?_
  refine Al_st (St_gd2 [15] rfl rfl rfl rfl ⟨⟨_, rfl⟩, trivial⟩ (fun hp16 hg16 => Pu_load1 rfl Tryz.isAgg3 rfl rfl)) rfl (by decide) (by kernel_rfl) (by intro j b oj dj h1 h2 h3; cases h1; cases h2; cases h3; decide) ?_
  refine Al_st (St_gd2 [] rfl rfl rfl rfl trivial (fun hp17 hg17 => Pu_field 0 rfl Tryz.underlying43 rfl rfl Tryz.sizeOf3 rfl)) rfl (by decide) (by kernel_rfl) (by intro j b oj dj h1 h2 h3; cases h1; cases h2; cases h3; decide) ?_
  refine Al_st (St_gd2 [17] rfl rfl rfl rfl ⟨⟨_, rfl⟩, trivial⟩ (fun hp18 hg18 => Pu_load1 rfl Tryz.isAgg3 rfl rfl)) rfl (by decide) (by kernel_rfl) (by intro j b oj dj h1 h2 h3; cases h1; cases h2; cases h3; decide) ?_
  refine Al_st (St_gd2 [16, 18] rfl rfl rfl rfl ⟨⟨_, rfl⟩, ⟨_, rfl⟩, trivial⟩ (fun hp19 hg19 => Pu_cmp rfl rfl rfl rfl)) rfl (by decide) (by kernel_rfl) (by intro j b oj dj h1 h2 h3; cases h1; cases h2; cases h3; decide) ?_
  refine Al_st (St_gd2 [19] rfl rfl rfl rfl ⟨⟨_, rfl⟩, trivial⟩ (fun hp20 hg20 => by exact Pu_move (.inl rfl) (by conv => lhs; whnf))) rfl (by decide) (by kernel_rfl) (by intro j b oj dj h1 h2 h3; cases h1; cases h2; cases h3; decide) ?_
  refine Al_st (St_gd2 [] rfl rfl rfl rfl trivial (fun hp21 hg21 => Pu_field 1 rfl Tryz.underlying43 rfl rfl Tryz.sizeOf3 rfl)) rfl (by decide) (by kernel_rfl) (by intro j b oj dj h1 h2 h3; cases h1; cases h2; cases h3; decide) ?_
  refine Al_st (St_gd2 [21] rfl rfl rfl rfl ⟨⟨_, rfl⟩, trivial⟩ (fun hp22 hg22 => Pu_load1 rfl Tryz.isAgg3 rfl rfl)) rfl (by decide) (by kernel_rfl) (by intro j b oj dj h1 h2 h3; cases h1; cases h2; cases h3; decide) ?_
  refine Al_st (St_gd2 [] rfl rfl rfl rfl trivial (fun hp23 hg23 => Pu_field 1 rfl Tryz.underlying43 rfl rfl Tryz.sizeOf3 rfl)) rfl (by decide) (by kernel_rfl) (by intro j b oj dj h1 h2 h3; cases h1; cases h2; cases h3; decide) ?_
  refine Al_st (St_gd2 [23] rfl rfl rfl rfl ⟨⟨_, rfl⟩, trivial⟩ (fun hp24 hg24 => Pu_load1 rfl Tryz.isAgg3 rfl rfl)) rfl (by decide) (by kernel_rfl) (by intro j b oj dj h1 h2 h3; cases h1; cases h2; cases h3; decide) ?_
  refine Al_st (St_gd2 [22, 24] rfl rfl rfl rfl ⟨⟨_, rfl⟩, ⟨_, rfl⟩, trivial⟩ (fun hp25 hg25 => Pu_cmp rfl rfl rfl rfl)) rfl (by decide) (by kernel_rfl) (by intro j b oj dj h1 h2 h3; cases h1; cases h2; cases h3; decide) ?_
  refine Al_st (St_gd2 [20] rfl rfl rfl rfl ⟨⟨_, rfl⟩, trivial⟩ (fun hp26 hg26 => Pu_andG rfl rfl (fun h => ⟨⟨hp26, hg26⟩, h⟩) rfl rfl)) rfl (by decide) (by kernel_rfl) (by intro j b oj dj h1 h2 h3; cases h1; cases h2; cases h3; decide) ?_
  refine Al_st (St_gd [14] rfl rfl rfl rfl ⟨⟨_, rfl⟩, trivial⟩ (fun hg27 => Pu_orG rfl rfl rfl (fun h => ⟨hg27, h⟩) rfl)) rfl (by decide) (by kernel_rfl) (by intro j b oj dj h1 h2 h3; cases h1; cases h2; cases h3; decide) ?_
  refine Al_p (Pu_and rfl rfl rfl rfl) ?_
  refine Al_p Pu_mvr ?_
  refine Al_nil ?_
  refine Aw_ret ?_
  exact Sub.bool (D.less_eq a b c d) -- ret 0
theorem isnan_a (s : ByteArray) : ACall Tryz.prog 89 [tv s] (bv false) := by
  refine ACall_enter (fun _ _ => by kernel_rfl) Tryz.func89 rfl Tryz.ntmps89 Tryz.results89 (Nat.le_of_ble_eq_true rfl) (fun hok M0 w0 hnl => ?_)
  refine Aw_seq (Aw_region ?_)
  refine Al_p Pu_mvr ?_
  refine Al_nil (Aw_seq (Aw_region ?_))
  refine Al_p Pu_mvl ?_
  refine Al_p Pu_mvl ?_
  refine Al_p (Pu_str rfl rfl rfl rfl) ?_
  refine Al_p Pu_mvr ?_
  refine Al_nil ?_
  refine Aw_ret ?_
  exact Sub.bool (by simp) -- ret 0
set_option maxRecDepth 100000 in
theorem cmps_a (s t : ByteArray) : ACall Tryz.prog 78 [tv s, tv t] (iv (D.cmpS s t)) := by
  refine ACall_enter (fun _ _ => by kernel_rfl) Tryz.func78 rfl Tryz.ntmps78 Tryz.results78 (Nat.le_of_ble_eq_true rfl) (fun hok M0 w0 hnl => ?_)
  refine Aw_seq (Aw_region ?_)
  refine Al_p Pu_mvr ?_
  refine Al_nil (Aw_seq (Aw_region ?_))
  refine Al_p Pu_mvl ?_
  refine Al_p (Pu_call (isnan_a s) rfl ⟨Sub.rfl, trivial⟩) ?_
  refine Al_p Pu_mvr ?_
  refine Al_nil (Aw_seq (Aw_region ?_))
  refine Al_p Pu_mvl ?_
  refine Al_p (Pu_call (isnan_a t) rfl ⟨Sub.rfl, trivial⟩) ?_
  refine Al_p Pu_mvr ?_
  refine Al_nil (Aw_seq (Aw_seq (Aw_region ?_)))
  refine Al_p Pu_mvl ?_
  refine Al_nil ?_
  refine Aw_condF rfl (rfl) ?_
  refine Aw_skip (Aw_seq (Aw_seq (Aw_region ?_)))
  refine Al_p Pu_mvl ?_
  refine Al_nil ?_
  refine Aw_condF rfl (rfl) ?_
  refine Aw_skip (Aw_seq (Aw_seq (Aw_region ?_)))
  refine Al_p Pu_mvl ?_
  refine Al_p Pu_mvl ?_
  refine Al_p (Pu_str rfl rfl rfl rfl) ?_
  refine Al_nil ?_
  refine Aw_cond rfl (fun h16 => ?_) (fun h16 => ?_)
  · (try simp only [decide_eq_true_eq, decide_eq_false_iff_not, Bool.and_eq_true, Bool.or_eq_true, Bool.and_eq_false_iff, Bool.or_eq_false_iff, Bool.not_eq_true', Bool.not_eq_false', beq_iff_eq, Bool.not_eq_eq_eq_not, Bool.not_true, Bool.not_false, List.length_map, Bool.and_true, Bool.and_false, Bool.false_and, Bool.true_and, Bool.or_false, Bool.false_or] at h16)
    refine Aw_seq (Aw_region ?_)
    refine Al_p Pu_mvr ?_
    refine Al_nil ?_
    refine Aw_ret ?_
    exact Sub.num (by unfold D.cmpS; simp_all) -- ret 0
  · (try simp only [decide_eq_true_eq, decide_eq_false_iff_not, Bool.and_eq_true, Bool.or_eq_true, Bool.and_eq_false_iff, Bool.or_eq_false_iff, Bool.not_eq_true', Bool.not_eq_false', beq_iff_eq, Bool.not_eq_eq_eq_not, Bool.not_true, Bool.not_false, List.length_map, Bool.and_true, Bool.and_false, Bool.false_and, Bool.true_and, Bool.or_false, Bool.false_or] at h16)
    refine Aw_skip (Aw_seq (Aw_seq (Aw_region ?_)))
    refine Al_p Pu_mvl ?_
    refine Al_p Pu_mvl ?_
    refine Al_p (Pu_str rfl rfl rfl rfl) ?_
    refine Al_nil ?_
    refine Aw_cond rfl (fun h19 => ?_) (fun h19 => ?_)
    · (try simp only [decide_eq_true_eq, decide_eq_false_iff_not, Bool.and_eq_true, Bool.or_eq_true, Bool.and_eq_false_iff, Bool.or_eq_false_iff, Bool.not_eq_true', Bool.not_eq_false', beq_iff_eq, Bool.not_eq_eq_eq_not, Bool.not_true, Bool.not_false, List.length_map, Bool.and_true, Bool.and_false, Bool.false_and, Bool.true_and, Bool.or_false, Bool.false_or] at h19)
      have hlt : Op.bytesLess t.toList s.toList = true := by
        cases h : Op.bytesLess t.toList s.toList with
        | true => rfl
        | false => have := K.bl_tri _ _ (by simpa using h16) h; simp_all
      refine Aw_seq (Aw_region ?_)
      refine Al_p Pu_mvr ?_
      refine Al_nil ?_
      refine Aw_ret ?_
      exact Sub.num (by unfold D.cmpS; simp_all) -- ret 1
    · (try simp only [decide_eq_true_eq, decide_eq_false_iff_not, Bool.and_eq_true, Bool.or_eq_true, Bool.and_eq_false_iff, Bool.or_eq_false_iff, Bool.not_eq_true', Bool.not_eq_false', beq_iff_eq, Bool.not_eq_eq_eq_not, Bool.not_true, Bool.not_false, List.length_map, Bool.and_true, Bool.and_false, Bool.false_and, Bool.true_and, Bool.or_false, Bool.false_or] at h19)
      refine Aw_skip (Aw_seq (Aw_region ?_))
      refine Al_p Pu_mvr ?_
      refine Al_nil ?_
      refine Aw_ret ?_
      exact Sub.num (by unfold D.cmpS; simp_all) -- ret 2
set_option maxRecDepth 100000 in
theorem pfindc_a (d : Dep) (k : ByteArray) : ACall Tryz.prog 77 [.row d.row, tv k] (iv (D.cmpS d.key k)) := by
  refine ACall_enter (fun _ _ => by kernel_rfl) Tryz.func77 rfl Tryz.ntmps77 Tryz.results77 (Nat.le_of_ble_eq_true rfl) (fun hok M0 w0 hnl => ?_)
  refine Aw_seq (Aw_region ?_)
  refine Al_p (Pu_boxN rfl rfl) ?_
  refine Al_p Pu_mvr ?_
  refine Al_nil (Aw_seq (Aw_region ?_))
  refine Al_p (Pu_field 0 rfl Tryz.underlying45 rfl rfl Tryz.sizeOf9 rfl) ?_
  refine Al_p (Pu_load1 rfl Tryz.isAgg9 rfl rfl) ?_
  refine Al_p Pu_mvl ?_
  refine Al_p (Pu_call (cmps_a d.key k) rfl ⟨Sub.rfl, Sub.rfl, trivial⟩) ?_
  refine Al_p Pu_mvr ?_
  refine Al_nil ?_
  refine Aw_ret ?_
  exact Sub.rfl -- ret 0
set_option maxRecDepth 100000 in
theorem pfind_a (p : List Dep) (k : ByteArray) (hs : D.Srt p) (hl : p.length ≤ 1000000) : ACall Tryz.prog 54 [.sl 3 (p.map Dep.row), tv k] (.tup [iv (D.pos p k), bv (D.hasK p k)]) := by
  refine ACall_enter2 (fun _ _ => by kernel_rfl) Tryz.func54 rfl Tryz.ntmps54 Tryz.results54 (Nat.le_of_ble_eq_true rfl) (fun hok M0 w0 hnl => ?_)
  refine Aw_seq (Aw_region ?_)
  refine Al_p Pu_mvr ?_
  refine Al_p Pu_mvr ?_
  refine Al_nil (Aw_seq (Aw_region ?_))
  refine Al_p Pu_mvl ?_
  refine Al_p Pu_mvl ?_
  refine Al_p (Pu_call (bsearchD_a p (tv k) _ (fun x => D.cmpS x.key k) (D.pos p k) (fun x => pfindc_a x k) hl (D.pos_le p k) (fun j hj h => D.cmp_lt.2 (D.pos_lo p k j hj h)) (fun j hj h => D.cmp_ge (D.pos_hi p k hs j hj h))) rfl ⟨Sub.rfl, Sub.rfl, Sub.rfl, trivial⟩) ?_
  refine Al_p (Pu_extract rfl rfl rfl) ?_
  refine Al_p (Pu_extract rfl rfl rfl) ?_
  refine Al_p Pu_mvr ?_
  refine Al_p Pu_mvr ?_
  refine Al_nil ?_
  refine Aw_ret ?_
  exact ⟨Sub.rfl, Sub.bool (D.pos_has hs)⟩ -- ret 0
set_option maxRecDepth 100000 in
theorem pget_a (p : List Dep) (k : ByteArray) (hs : D.Srt p) (hl : p.length ≤ 1000000) : ACall Tryz.prog 33 [.sl 3 (p.map Dep.row), tv k] (.row [iv (D.get p k).1, iv (D.get p k).2]) := by
  refine ACall_enterG (fun _ _ => by kernel_rfl) Tryz.func33 rfl Tryz.ntmps33 (Reads.cN Tryz.results33 Tryz.isAgg43 Tryz.sizeOf43) (Nat.le_of_ble_eq_true rfl) (fun hok M0 w0 hnl => ?_)
  refine Aw_seq (Aw_region ?_)
  refine Al_alloc rfl rfl rfl (by decide) Tryz.zeroValue43 rfl (by kernel_rfl) (fun g4 => ?_)
  refine Al_nil (Aw_seq (Aw_region ?_))
  refine Al_p Pu_mvl ?_
  refine Al_p Pu_mvl ?_
  refine Al_p (Pu_call (pfind_a p k hs hl) rfl ⟨Sub.rfl, Sub.rfl, trivial⟩) ?_
  refine Al_p Pu_mvl ?_
  refine Al_p (Pu_extract rfl rfl rfl) ?_
  refine Al_p (Pu_extract rfl rfl rfl) ?_
  refine Al_p Pu_mvr ?_
  refine Al_p Pu_mvr ?_
  refine Al_nil (Aw_seq (Aw_seq (Aw_region ?_)))
  refine Al_p Pu_mvl ?_
  refine Al_p (Pu_not rfl rfl) ?_
  refine Al_nil ?_
  refine Aw_cond rfl (fun h14 => ?_) (fun h14 => ?_)
  · skip
    have hk : D.hasK p k = false := by simpa using h14
    refine Aw_seq (Aw_region ?_)
    refine Al_p (Pu_build (aa := []) rfl Tryz.underlying43 Tryz.zeroValue43 (places43 Tryz.underlying43) (by kernel_rfl) trivial rfl) ?_
    refine Al_storeN rfl rfl rfl (by kernel_rfl) Tryz.isAgg43 Tryz.sizeOf43 rfl rfl rfl rfl (Nat.le_of_ble_eq_true rfl) ?_
    refine Al_nil ?_
    refine Aw_ret ?_
    rw [D.get_no hk]; exact ⟨_, _, _, _, _, [_, _], rfl, rfl, rfl, rfl, rfl⟩ -- ret 0
  · skip
    have hk : D.hasK p k = true := by simpa using h14
    obtain ⟨hj, he⟩ := D.pos_at hs hk
    have hg : D.get p k = ((p.getD (D.pos p k) default).n, (p.getD (D.pos p k) default).s) := D.get_pos hs hk rfl
    refine Aw_skip (Aw_seq (Aw_region ?_))
    refine Al_p Pu_mvl ?_
    refine Al_p Pu_mvl ?_
    refine Al_p (Pu_index rfl Tryz.underlying46 Tryz.sizeOf45 rfl rfl (rfl) (mapgetD (d := default) hj)) ?_
    refine Al_p (Pu_field 1 rfl Tryz.underlying45 rfl rfl Tryz.sizeOf43 rfl) ?_
    refine Al_p (Pu_loadN rfl Tryz.isAgg43 Tryz.sizeOf43 rfl (Nat.le_of_ble_eq_true rfl)) ?_
    refine Al_storeN rfl rfl rfl (by kernel_rfl) Tryz.isAgg43 Tryz.sizeOf43 rfl rfl rfl rfl (Nat.le_of_ble_eq_true rfl) ?_
    refine Al_nil ?_
    refine Aw_ret ?_
    rw [hg]; exact ⟨_, _, _, _, _, [_, _], rfl, rfl, rfl, rfl, rfl⟩ -- ret 1
set_option maxRecDepth 100000 in
theorem pmay_a (d : Dep) : ACall Tryz.prog 74 [.row d.row] (bv (D.okB d)) := by
  refine ACall_enter (fun _ _ => by kernel_rfl) Tryz.func74 rfl Tryz.ntmps74 Tryz.results74 (Nat.le_of_ble_eq_true rfl) (fun hok M0 w0 hnl => ?_)
  refine Aw_seq (Aw_region ?_)
  refine Al_p (Pu_boxN rfl rfl) ?_
  refine Al_p Pu_mvr ?_
  refine Al_nil (Aw_seq (Aw_region ?_))
  refine Al_p (Pu_field 0 rfl Tryz.underlying45 rfl rfl Tryz.sizeOf9 rfl) ?_
  refine Al_p (Pu_load1 rfl Tryz.isAgg9 rfl rfl) ?_
  refine Al_p (Pu_call (check_a d.key) rfl ⟨Sub.rfl, trivial⟩) ?_
  refine Al_p Pu_mvl ?_
  refine Al_st (St_gd [] rfl rfl rfl rfl trivial (fun hg7 => Pu_field 1 rfl Tryz.underlying45 rfl rfl Tryz.sizeOf43 rfl)) rfl (by decide) (by kernel_rfl) (by intro j b oj dj h1 h2 h3; cases h1; cases h2; cases h3; decide) ?_
  refine Al_st (St_gd [7] rfl rfl rfl rfl ⟨⟨_, rfl⟩, trivial⟩ (fun hg8 => Pu_loadN rfl Tryz.isAgg43 Tryz.sizeOf43 rfl (Nat.le_of_ble_eq_true rfl))) rfl (by decide) (by kernel_rfl) (by intro j b oj dj h1 h2 h3; cases h1; cases h2; cases h3; decide) ?_
  refine Al_st (St_gd [8] rfl rfl rfl rfl ⟨⟨_, rfl⟩, trivial⟩ (fun hg9 => Pu_call (stcheck_a d.n d.s) rfl ⟨Sub.rfl, trivial⟩)) rfl (by decide) (by kernel_rfl) (by intro j b oj dj h1 h2 h3; cases h1; cases h2; cases h3; decide) ?_
  refine Al_p (Pu_and rfl rfl rfl rfl) ?_
  refine Al_p Pu_mvr ?_
  refine Al_nil ?_
  refine Aw_ret ?_
  exact Sub.rfl -- ret 0
def D.maxS (l : List (Int × Int)) : Int × Int := l.foldl (fun m s => if D.lessB m.1 m.2 s.1 s.2 then s else m) (0, 0)
theorem D.maxS_take (l : List (Int × Int)) {k : Nat} (hk : k < l.length) : D.maxS (l.take (k + 1)) = if D.lessB (D.maxS (l.take k)).1 (D.maxS (l.take k)).2 l[k].1 l[k].2 then l[k] else D.maxS (l.take k) := by
  rw [List.take_succ_eq_append_getElem hk]; unfold D.maxS; rw [List.foldl_append]; rfl
set_option maxRecDepth 100000 in
theorem smax_a (l : List (Int × Int)) : ACall Tryz.prog 53 [.sl 2 (l.map fun s => [iv s.1, iv s.2])] (.row [iv (D.maxS l).1, iv (D.maxS l).2]) := by
  refine ACall_enterG (fun _ _ => by kernel_rfl) Tryz.func53 rfl Tryz.ntmps53 (Reads.cN Tryz.results53 Tryz.isAgg43 Tryz.sizeOf43) (Nat.le_of_ble_eq_true rfl) (fun hok M0 w0 hnl => ?_)
  have hlen := (hok _ (List.mem_cons_self ..)).len
  rw [List.length_map] at hlen
  refine Aw_seq (Aw_region ?_)
  refine Al_alloc rfl rfl rfl (by decide) Tryz.zeroValue43 rfl (by kernel_rfl) (fun g2 => ?_)
  refine Al_nil (Aw_seq (Aw_region ?_))
  refine Al_alloc rfl rfl rfl (by decide) Tryz.zeroValue43 rfl (by kernel_rfl) (fun g3 => ?_)
  refine Al_nil (Aw_seq (Aw_seq (Aw_region ?_)))
  refine Al_p Pu_mvl ?_
  refine Al_p (Pu_len rfl Tryz.underlying63 rfl (by first | exact List.length_map .. | exact rfl)) ?_
  refine Al_p Pu_mvl ?_
  refine Al_nil (Aw_block ?_)
  refine Aw_loopk (ι := Nat) [2, 3, 6, 7] [2] (fun k => [(8, .d (iv k))]) (fun k => [(3, g3, .box 43 [.d (iv (D.maxS (l.take k)).1), .d (iv (D.maxS (l.take k)).2)])]) (fun k => k ≤ l.length) (fun k => l.length - k) (0) (Nat.zero_le _) ⟨Sub.rfl, trivial⟩ ⟨rfl, trivial⟩ ?_
  rintro k hk0
  refine Aw_seq (Aw_region ?_)
  refine Al_p (Pu_cmp rfl rfl rfl rfl) ?_
  refine Al_nil (Aw_seq ?_)
  refine Aw_cond rfl (fun h9 => ?_) (fun h9 => ?_)
  · (try simp only [decide_eq_true_eq, decide_eq_false_iff_not, Bool.and_eq_true, Bool.or_eq_true, Bool.and_eq_false_iff, Bool.or_eq_false_iff, Bool.not_eq_true', Bool.not_eq_false', beq_iff_eq, Bool.not_eq_eq_eq_not, Bool.not_true, Bool.not_false, List.length_map, Bool.and_true, Bool.and_false, Bool.false_and, Bool.true_and, Bool.or_false, Bool.false_or] at h9)
    have hk : k < l.length := by omega
    have hmt := D.maxS_take l hk
    refine Aw_skip ?_
    -- join 0: live [2, 3, 6, 7, 8], turned []
    refine Aw_seq (Aw_block (Aw_seq (Aw_region ?_)))
    refine Al_p (Pu_index rfl Tryz.underlying63 Tryz.sizeOf43 rfl rfl (rfl) (mapget hk)) ?_
    refine Al_p (Pu_loadN rfl Tryz.isAgg43 Tryz.sizeOf43 rfl (Nat.le_of_ble_eq_true rfl)) ?_
    refine Al_alloc rfl rfl rfl (by decide) Tryz.zeroValue43 rfl (by kernel_rfl) (fun g5 => ?_)
    refine Al_storeN rfl rfl rfl (by kernel_rfl) Tryz.isAgg43 Tryz.sizeOf43 rfl rfl rfl rfl (Nat.le_of_ble_eq_true rfl) ?_
    refine Al_nil (Aw_seq (Aw_region ?_))
    refine Al_p (Pu_loadbN (r := [_, _]) rfl Tryz.isAgg43 Tryz.sizeOf43 rfl rfl rfl rfl) ?_
    refine Al_p (Pu_loadbN (r := [_, _]) rfl Tryz.isAgg43 Tryz.sizeOf43 rfl rfl rfl rfl) ?_
    refine Al_p (Pu_call (less_a (D.maxS (l.take k)).1 (D.maxS (l.take k)).2 (l[k]'hk).1 (l[k]'hk).2) rfl ⟨Sub.rfl, Sub.rfl, trivial⟩) ?_
    refine Al_nil ?_
    refine Aw_cond rfl (fun h14 => ?_) (fun h14 => ?_)
    · skip
      rw [if_pos h14] at hmt
      refine Aw_region ?_
      refine Al_p (Pu_loadbN (r := [_, _]) rfl Tryz.isAgg43 Tryz.sizeOf43 rfl rfl rfl rfl) ?_
      refine Al_storeN rfl rfl rfl (by kernel_rfl) Tryz.isAgg43 Tryz.sizeOf43 rfl rfl rfl rfl (Nat.le_of_ble_eq_true rfl) ?_
      refine Al_nil (Aw_region ?_)
      refine Al_p (Pu_add rfl rfl rfl (fun h1 h2 => by simp only [A.inI, A.maxI] at *; omega)) ?_
      refine Al_p Pu_mvl ?_
      refine Al_nil ?_
      exact ⟨k + 1, by omega, by omega, Le.ov ⟨Sub.num (by omega), trivial⟩ ⟨Sub.rfl, Sub.rfl, Sub.rfl, Sub.rfl, trivial⟩ ⟨by rw [hmt]; rfl, trivial⟩ ⟨rfl, trivial⟩⟩ -- loop 0 next.0
    · skip
      rw [if_neg (by rw [h14]; decide)] at hmt
      refine Aw_skip (Aw_region ?_)
      refine Al_p (Pu_add rfl rfl rfl (fun h1 h2 => by simp only [A.inI, A.maxI] at *; omega)) ?_
      refine Al_p Pu_mvl ?_
      refine Al_nil ?_
      exact ⟨k + 1, by omega, by omega, Le.ov ⟨Sub.num (by omega), trivial⟩ ⟨Sub.rfl, Sub.rfl, Sub.rfl, Sub.rfl, trivial⟩ ⟨by rw [hmt]; rfl, trivial⟩ ⟨rfl, trivial⟩⟩ -- loop 0 next.1
  · (try simp only [decide_eq_true_eq, decide_eq_false_iff_not, Bool.and_eq_true, Bool.or_eq_true, Bool.and_eq_false_iff, Bool.or_eq_false_iff, Bool.not_eq_true', Bool.not_eq_false', beq_iff_eq, Bool.not_eq_eq_eq_not, Bool.not_true, Bool.not_false, List.length_map, Bool.and_true, Bool.and_false, Bool.false_and, Bool.true_and, Bool.or_false, Bool.false_or] at h9)
    obtain rfl : k = l.length := by omega
    rw [List.take_length]
    refine Aw_exit (Aw_seq (Aw_region ?_))
    refine Al_p (Pu_loadbN (r := [_, _]) rfl Tryz.isAgg43 Tryz.sizeOf43 rfl rfl rfl rfl) ?_
    refine Al_storeN rfl rfl rfl (by kernel_rfl) Tryz.isAgg43 Tryz.sizeOf43 rfl rfl rfl rfl (Nat.le_of_ble_eq_true rfl) ?_
    refine Al_nil ?_
    refine Aw_ret ?_
    exact ⟨_, _, _, _, _, [_, _], rfl, rfl, rfl, rfl, rfl⟩ -- ret 0
namespace D
theorem max_two {x d : Dep} (h : okB x = true) : maxS [(x.n, x.s), (d.n, d.s)] = if lessB x.n x.s d.n d.s then (d.n, d.s) else (x.n, x.s) := by
  have h1 := (ok_stamp h).1
  have h2 : lessB 0 0 x.n x.s = true := by
    unfold lessB
    rw [if_neg (by omega)]
    simp; omega
  unfold maxS
  simp only [List.foldl_cons, List.foldl_nil, h2, if_true]
theorem cells_at {p : List Dep} {j : Nat} (hj : j < p.length) : ((p.map Dep.row).flatten.drop (j * 3 + 1)).take 2 = [iv (p.getD j default).n, iv (p.getD j default).s] := by
  have hu : ∀ r ∈ p.map Dep.row, r.length = 3 := fun r hr => by obtain ⟨x, _, rfl⟩ := List.mem_map.1 hr; rfl
  rw [← List.drop_drop, ← flat_drop hu, List.drop_eq_getElem_cons (l := p.map Dep.row) (by simpa using hj)]
  simp [Dep.row, hj]
theorem cells_set {p : List Dep} {j : Nat} (hj : j < p.length) (n s : Int) : ((p.set j ⟨(p.getD j default).key, n, s⟩).map Dep.row).flatten = (p.map Dep.row).flatten.take (j * 3 + 1) ++ [iv n, iv s] ++ (p.map Dep.row).flatten.drop (j * 3 + 1 + 2) := by
  have hu : ∀ r ∈ p.map Dep.row, r.length = 3 := fun r hr => by obtain ⟨x, _, rfl⟩ := List.mem_map.1 hr; rfl
  have h1 : (p.map Dep.row).flatten.take (j * 3 + 1) = (p.map Dep.row).flatten.take (j * 3) ++ [tv (p.getD j default).key] := by
    rw [List.take_add, ← flat_drop hu, List.drop_eq_getElem_cons (l := p.map Dep.row) (by simpa using hj)]
    simp [Dep.row, hj]
  have h2 : (p.map Dep.row).flatten.drop (j * 3 + 1 + 2) = (p.map Dep.row).flatten.drop ((j + 1) * 3) := by congr 1; omega
  rw [h1, h2, ← flat_take hu, ← flat_drop hu, List.set_eq_take_append_cons_drop, if_pos hj]
  simp [Dep.row]
end D
set_option maxRecDepth 100000 in
set_option maxHeartbeats 1000000 in
theorem padd_a (p : List Dep) (d : Dep) (hp : D.Good p) (hl : p.length ≤ 1000) : ACall Tryz.prog 51 [.sl 3 (p.map Dep.row), .row d.row] (.sl 3 ((D.add p d).map Dep.row)) := by
  refine ACall_enter (fun _ _ => by kernel_rfl) Tryz.func51 rfl Tryz.ntmps51 Tryz.results51 (Nat.le_of_ble_eq_true rfl) (fun hok M0 w0 hnl => ?_)
  have hpl := D.pos_le p d.key
  refine Aw_seq (Aw_region ?_)
  refine Al_p (Pu_boxN rfl rfl) ?_
  refine Al_p Pu_mvr ?_
  refine Al_nil (Aw_seq (Aw_region ?_))
  refine Al_p Pu_mvl ?_
  refine Al_p (Pu_field 0 rfl Tryz.underlying45 rfl rfl Tryz.sizeOf9 rfl) ?_
  refine Al_p (Pu_load1 rfl Tryz.isAgg9 rfl rfl) ?_
  refine Al_p (Pu_call (pfind_a p d.key hp.srt (by omega)) rfl ⟨Sub.rfl, Sub.rfl, trivial⟩) ?_
  refine Al_p Pu_mvl ?_
  refine Al_p (Pu_extract rfl rfl rfl) ?_
  refine Al_p (Pu_extract rfl rfl rfl) ?_
  refine Al_p Pu_mvr ?_
  refine Al_p Pu_mvr ?_
  refine Al_nil (Aw_seq (Aw_block (Aw_seq (Aw_region ?_))))
  refine Al_p (Pu_loadN rfl Tryz.isAgg45 Tryz.sizeOf45 rfl (Nat.le_of_ble_eq_true rfl)) ?_
  refine Al_p (Pu_call (pmay_a d) rfl ⟨Sub.rfl, trivial⟩) ?_
  refine Al_p (Pu_not rfl rfl) ?_
  refine Al_p Pu_mvr ?_
  refine Al_nil ?_
  refine Aw_cond rfl (fun h15 => ?_) (fun h15 => ?_)
  · skip
    have hd : D.okB d = false := by simpa using h15
    refine Aw_seq (Aw_region ?_)
    refine Al_p Pu_mvl ?_
    refine Al_p Pu_mvr ?_
    refine Al_nil ?_
    refine Aw_ret ?_
    exact Sub.d (by rw [D.add_no hd]) -- ret 0
  · skip
    have hd : D.okB d = true := by simpa using h15
    refine Aw_seq (Aw_region ?_)
    refine Al_p Pu_mvl ?_
    refine Al_p (Pu_not rfl rfl) ?_
    refine Al_p Pu_mvr ?_
    refine Al_nil ?_
    refine Aw_cond rfl (fun h20 => ?_) (fun h20 => ?_)
    · skip
      have hk : D.hasK p d.key = false := by simpa using h20
      -- join 0: live [4], turned [4]
      refine Aw_seq ?_
      refine Aw_drawn (by kernel_rfl) ?_
      refine Ad_take 0 rfl (PuI_move (.inl rfl) (by conv => lhs; whnf)) rfl rfl (by decide) (by kernel_rfl) (by kernel_rfl) (by kernel_rfl) (by kernel_rfl) (fun _ _ h => h) ?_
      refine Ad_take 2 rfl (PuI_move (.inl rfl) (by conv => lhs; whnf)) rfl rfl (by decide) (by kernel_rfl) (by kernel_rfl) (by kernel_rfl) (by kernel_rfl) (fun _ _ h => h) ?_
      refine Ad_two 1 3 rfl rfl (by kernel_rfl) ?_ ?_
      · refine Al_gcall [] [(1001, 24)] (cloneD_g p (by omega)) rfl rfl rfl (by decide) (by kernel_rfl) trivial rfl ⟨Sub.rfl, trivial⟩ (fun g24 => ?_)
        refine Al_nil ?_
        refine Ad_one 3 rfl (by kernel_rfl) ?_
        refine Al_p (Pu_loadN rfl Tryz.isAgg45 Tryz.sizeOf45 rfl (Nat.le_of_ble_eq_true rfl)) ?_
        refine Al_nil ?_
        refine Ad_one 4 rfl (by kernel_rfl) ?_
        refine Al_sliceLit (aa := [(0, _)]) (rows := [d.row]) rfl rfl rfl (by decide) (by kernel_rfl) Tryz.underlying46 Tryz.sizeOf45 Tryz.zeroValue45 rfl (by decide) (by decide) (by decide) (by kernel_rfl) ⟨rfl, rfl, rfl, trivial⟩ (rfl) rfl rfl (fun g27 => ?_)
        refine Al_nil ?_
        refine Ad_one 5 rfl (by kernel_rfl) ?_
        refine Al_gcall [(1001, 24, g24), (1002, 27, g27)] [(1003, 28)] (insertD_g p d (D.pos p d.key) hpl (by omega)) rfl rfl rfl (by decide) (by kernel_rfl) ⟨rfl, rfl, trivial⟩ rfl ⟨Sub.rfl, Sub.rfl, Sub.rfl, trivial⟩ (fun g28 => ?_)
        refine Al_nil ?_
        refine Ad_take 6 rfl (PuI_move (.inr rfl) (by conv => lhs; whnf)) rfl rfl (by decide) (by kernel_rfl) (by kernel_rfl) (by kernel_rfl) (by kernel_rfl) (fun _ _ h => h) ?_
        refine Ad_done (by kernel_rfl) ?_
        refine Aw_frz hnl (k := 28) [4] rfl ⟨rfl, trivial⟩ ?_
        refine Aw_ret ?_
        exact Sub.d (by rw [D.add_new hp.srt hd hk]) -- ret 1
      · refine Al_p (Pu_loadN rfl Tryz.isAgg45 Tryz.sizeOf45 rfl (Nat.le_of_ble_eq_true rfl)) ?_
        refine Al_nil ?_
        refine Ad_two 1 4 rfl rfl (by kernel_rfl) ?_ ?_
        · refine Al_gcall [] [(1001, 24)] (cloneD_g p (by omega)) rfl rfl rfl (by decide) (by kernel_rfl) trivial rfl ⟨Sub.rfl, trivial⟩ (fun g24 => ?_)
          refine Al_nil ?_
          refine Ad_one 4 rfl (by kernel_rfl) ?_
          refine Al_sliceLit (aa := [(0, _)]) (rows := [d.row]) rfl rfl rfl (by decide) (by kernel_rfl) Tryz.underlying46 Tryz.sizeOf45 Tryz.zeroValue45 rfl (by decide) (by decide) (by decide) (by kernel_rfl) ⟨rfl, rfl, rfl, trivial⟩ (rfl) rfl rfl (fun g27 => ?_)
          refine Al_nil ?_
          refine Ad_one 5 rfl (by kernel_rfl) ?_
          refine Al_gcall [(1001, 24, g24), (1002, 27, g27)] [(1003, 28)] (insertD_g p d (D.pos p d.key) hpl (by omega)) rfl rfl rfl (by decide) (by kernel_rfl) ⟨rfl, rfl, trivial⟩ rfl ⟨Sub.rfl, Sub.rfl, Sub.rfl, trivial⟩ (fun g28 => ?_)
          refine Al_nil ?_
          refine Ad_take 6 rfl (PuI_move (.inr rfl) (by conv => lhs; whnf)) rfl rfl (by decide) (by kernel_rfl) (by kernel_rfl) (by kernel_rfl) (by kernel_rfl) (fun _ _ h => h) ?_
          refine Ad_done (by kernel_rfl) ?_
          refine Aw_frz hnl (k := 28) [4] rfl ⟨rfl, trivial⟩ ?_
          refine Aw_ret ?_
          exact Sub.d (by rw [D.add_new hp.srt hd hk]) -- ret 2
        · refine Al_sliceLit (aa := [(0, _)]) (rows := [d.row]) rfl rfl rfl (by decide) (by kernel_rfl) Tryz.underlying46 Tryz.sizeOf45 Tryz.zeroValue45 rfl (by decide) (by decide) (by decide) (by kernel_rfl) ⟨rfl, rfl, rfl, trivial⟩ (rfl) rfl rfl (fun g27 => ?_)
          refine Al_nil ?_
          refine Ad_one 1 rfl (by kernel_rfl) ?_
          refine Al_gcall [] [(1001, 24)] (cloneD_g p (by omega)) rfl rfl rfl (by decide) (by kernel_rfl) trivial rfl ⟨Sub.rfl, trivial⟩ (fun g24 => ?_)
          refine Al_nil ?_
          refine Ad_one 5 rfl (by kernel_rfl) ?_
          refine Al_gcall [(1001, 24, g24), (1002, 27, g27)] [(1003, 28)] (insertD_g p d (D.pos p d.key) hpl (by omega)) rfl rfl rfl (by decide) (by kernel_rfl) ⟨rfl, rfl, trivial⟩ rfl ⟨Sub.rfl, Sub.rfl, Sub.rfl, trivial⟩ (fun g28 => ?_)
          refine Al_nil ?_
          refine Ad_take 6 rfl (PuI_move (.inr rfl) (by conv => lhs; whnf)) rfl rfl (by decide) (by kernel_rfl) (by kernel_rfl) (by kernel_rfl) (by kernel_rfl) (fun _ _ h => h) ?_
          refine Ad_done (by kernel_rfl) ?_
          refine Aw_frz hnl (k := 28) [4] rfl ⟨rfl, trivial⟩ ?_
          refine Aw_ret ?_
          exact Sub.d (by rw [D.add_new hp.srt hd hk]) -- ret 3
    · skip
      have hk : D.hasK p d.key = true := by simpa using h20
      obtain ⟨hj, hje⟩ := D.pos_at hp.srt hk
      have hg : p.getD (D.pos p d.key) default = p[D.pos p d.key] := by simp [hj]
      have hok2 : D.okB (p.getD (D.pos p d.key) default) = true := by rw [hg]; exact hp.ok _ (List.getElem_mem hj)
      have hke : (p.getD (D.pos p d.key) default).key = d.key := by rw [hg, hje]
      have hmx := D.max_two (d := d) hok2
      have hma := smax_a [((p.getD (D.pos p d.key) default).n, (p.getD (D.pos p d.key) default).s), (d.n, d.s)]
      have hca := D.cells_at hj
      have hcs := D.cells_set hj (D.maxS [((p.getD (D.pos p d.key) default).n, (p.getD (D.pos p d.key) default).s), (d.n, d.s)]).1 (D.maxS [((p.getD (D.pos p d.key) default).n, (p.getD (D.pos p d.key) default).s), (d.n, d.s)]).2
      refine Aw_skip (Aw_seq (Aw_region ?_))
      refine Al_p Pu_mvl ?_
      refine Al_gcall [] [(1001, 30)] (cloneD_g p (by omega)) rfl rfl rfl (by decide) (by kernel_rfl) trivial rfl ⟨Sub.rfl, trivial⟩ (fun g30 => ?_)
      refine Al_p Pu_mvr ?_
      refine Al_nil (Aw_seq ?_)
      refine Aw_draw 13 (by kernel_rfl) (by kernel_rfl) ?_
      refine Dr_p Pu_mvl ?_
      refine Dr_p Pu_mvl ?_
      refine Dr_p Pu_mvl ?_
      refine Dr_p Pu_mvl ?_
      refine Dr_p (Pu_indexOw (j := D.pos p d.key) rfl Tryz.underlying46 Tryz.sizeOf45 rfl rfl rfl rfl (by rw [List.length_map]; exact hj)) ?_
      refine Dr_p (Pu_fieldb 1 rfl Tryz.underlying45 rfl rfl Tryz.sizeOf43 rfl) ?_
      refine Dr_p (Pu_loadArrN rfl Tryz.isAgg43 Tryz.sizeOf43 rfl rfl hca rfl) ?_
      refine Dr_p (Pu_field 1 rfl Tryz.underlying45 rfl rfl Tryz.sizeOf43 rfl) ?_
      refine Dr_p (Pu_loadN rfl Tryz.isAgg43 Tryz.sizeOf43 rfl (Nat.le_of_ble_eq_true rfl)) ?_
      refine Dr_p (Pu_buildSlice (aa := [(0, _), (1, _)]) rfl Tryz.underlying63 Tryz.sizeOf43 Tryz.zeroValue43 rfl (by decide) (by decide) (by decide) (by kernel_rfl) ⟨rfl, rfl, rfl, rfl, rfl, rfl, trivial⟩ ((rfl : _ = some [[iv (p.getD (D.pos p d.key) default).n, iv (p.getD (D.pos p d.key) default).s], [iv d.n, iv d.s]].flatten)) rfl rfl) ?_
      refine Dr_p (Pu_call (hma) rfl ⟨Sub.rfl, trivial⟩) ?_
      refine Dr_p (Pu_indexOw (j := D.pos p d.key) rfl Tryz.underlying46 Tryz.sizeOf45 rfl rfl rfl rfl (by rw [List.length_map]; exact hj)) ?_
      refine Dr_p (Pu_fieldb 1 rfl Tryz.underlying45 rfl rfl Tryz.sizeOf43 rfl) ?_
      refine Dr_nil ?_
      refine Al_storeArr ((p.set (D.pos p d.key) ⟨(p.getD (D.pos p d.key) default).key, _, _⟩).map Dep.row) rfl rfl rfl (by kernel_rfl) Tryz.sizeOf43 rfl rfl rfl rfl rfl (by rw [List.length_map]; omega) (by simp) (fun q hq => by obtain ⟨x, _, rfl⟩ := List.mem_map.1 hq; rfl) hcs ?_
      refine Al_nil (Aw_seq (Aw_region ?_))
      refine Al_p Pu_mvl ?_
      refine Al_p Pu_mvr ?_
      refine Al_nil ?_
      refine Aw_frz hnl (k := 30) [4] rfl ⟨rfl, trivial⟩ ?_
      refine Aw_ret ?_
      exact Sub.d (by
        rw [D.add_old hp.srt hd hk, hmx]
        congr 3
        split
        · rw [hke]
        · rfl) -- ret 4
end Go.Proofs.YtojehmkkbdedaaaGreat
end

section
namespace Go.Proofs.YtojehmkkbdedaaaGreat.A
open Go Go.RowKit
section
variable {P : Program} {N : Nat} {M0 : Nat → Prop} {w0 : Base} {ops : Array Oper} {Q : Exit → ASt → Prop} {o : Oper} {l : List Oper} {st : ASt}
theorem made_list {z : Value} (hz : z.cells = #[z]) (n : Nat) : (madeCells z.cells (n * 1)).toList = List.replicate n z := by
  rw [hz, Nat.mul_one]
  apply List.ext_getElem
  · simp [madeCells]
  · intro i h1 h2
    simp [madeCells, Nat.mod_one]
theorem rep_flat {α : Type} (n : Nat) (z : α) : (List.replicate n [z]).flatten = List.replicate n z := by
  induction n with
  | zero => rfl
  | succ n ih => rw [List.replicate_succ, List.flatten_cons, ih, List.replicate_succ]; rfl
theorem Al_make1 {d : Nat} {t e : TypeId} {x y : Operand} {n bytes : Nat} {z : Value} (ho : o.op = .makeSlice t x y) (hg : o.guard = none) (hd : o.dst = some d) (hN : d < N) (hc : conB o = true) (ht : P.underlying t = some (.slice e)) (hi : (P.info? e).map (fun i => (i.zero, i.size, i.bytes)) = some (some z, 1, bytes)) (hz : z.cells = #[z]) (hv : vok z) (hx : st.ev x = .d (.v (.int .i64 n))) (hy : st.ev y = .d (.v (.int .i64 n))) (hn : n ≤ 4294967296) (hby : bytes ≤ 32768)
    (h : ∀ g, Al P N M0 w0 ops Q l ((st.put d g (.arr e 1 (List.replicate n [.v z]))).set d (.ow d g))) : Al P N M0 w0 ops Q (o :: l) st := by
  refine ⟨?_⟩
  rintro a w ⟨ρ, hsim⟩
  have hev := hsim.ev hc
  have h1 := hev x (by simp [opsOf, ho, Op.operands])
  have h2 := hev y (by simp [opsOf, ho, Op.operands])
  rw [hx] at h1
  rw [hy] at h2
  obtain ⟨e1, _⟩ := rep_v h1
  obtain ⟨e2, _⟩ := rep_v h2
  obtain ⟨i, hi1, hi2⟩ := Option.map_eq_some_iff.1 hi
  simp only [Prod.mk.injEq] at hi2
  obtain ⟨i1, i2, i3⟩ := hi2
  have hmul : bytes * n ≤ 32768 * 4294967296 := Nat.mul_le_mul hby hn
  obtain ⟨w', hr, hown, hgr⟩ := run_make_full (P := P) w 0 t e i z 1 ht hi1 i1 i2 .i64 .i64 n (by rw [i3]; omega) (by unfold maxLen; omega) (Nat.zero_le _)
  rw [made_list hz] at hown
  have hmax : n ≤ maxI := by unfold maxI; omega
  have hE : Ev.Ext w w' := ⟨hgr.os, hgr.tape, hgr.output, hgr.size, fun b hb => hgr.block b hb (fun e => by cases e)⟩
  obtain ⟨g', ρ', k1, k2⟩ := hsim.upd (w' := w') d ⟨hgr.os, hgr.tape, hgr.output⟩ hgr.size (fun b hb _ => hE.block b hb) (x' := .slice (some ⟨w.heap.size, 0, none⟩) n n) (o' := .arr e 1 (List.replicate n [.v z])) (fun b hb => by simp [blk] at hb; exact .inl (by omega))
    (fun M' ρ' hK _ => ⟨List.replicate n [z], ⟨by simp, by
      rw [rep_flat, List.length_replicate]
      exact hown.2⟩, ⟨by simp, fun i r v h3 h4 => by
      rw [List.getElem?_replicate] at h3 h4
      split at h3
      · rename_i hin
        rw [if_pos hin] at h4
        simp only [Option.some.injEq] at h3 h4
        subst h3 h4
        refine ⟨rfl, rfl, fun j c x h5 h6 => ?_⟩
        match j, h5, h6 with
        | 0, h5, h6 =>
          simp only [List.getElem?_cons_zero, Option.some.injEq] at h5 h6
          subst h5 h6
          exact ⟨.v _ hv, hv.one⟩
        | j + 1, h5, h6 => simp at h5
      · cases h3⟩, ⟨_, n, by rw [List.length_replicate]⟩, by rw [List.length_replicate]; exact hmax, fun b hb => by
      simp only [blk, Option.some.injEq] at hb
      subst hb
      exact .inl hsim.ext.size⟩)
  refine wpList_plain hg fun K hK => wp_upon ?_
  have e' : (execOp a.eval o).run P w = .ok (.value (.slice (some ⟨w.heap.size, 0, none⟩) n n)) w' := by
    simp only [execOp, ho, Sem.run_bind, e1, e2, hr, Result.andThen_ok, Sem.run_pure]
  rw [e']
  refine hK _ _ ((h g').out _ _ ⟨ρ', ?_⟩)
  rw [hd]
  exact k1.set hN ⟨k2, rfl⟩
end
end Go.Proofs.YtojehmkkbdedaaaGreat.A
namespace Go.Proofs.YtojehmkkbdedaaaGreat.A
open Go Go.RowKit
/-- A map of the call's own: its block, how many entries it has at most, and what stands there. -/
def mapO {κ α : Type} (kv : κ → Value) (ok : κ → Prop) (enc : α → AV) (b n : Nat) (m : κ → Option α) : OP where
  F := fun c => c = b
  I := fun M w _ h => h = .map (some b) ∧ R.Mp kv ok (fun w v x => Rep M w (enc x) v) w b n m
  mono := fun {M M' w w' ρ h} k hb hI => ⟨hI.1, hI.2.mono (hb b rfl) fun v x hv => hv.mono k⟩
  rho := fun _ h => h
  lt := fun {M w ρ h} hI c hc => by subst hc; exact hI.2.lt
section
variable {P : Program} {N : Nat} {M0 : Nat → Prop} {w0 : Base} {ops : Array Oper} {Q : Exit → ASt → Prop} {o : Oper} {l : List Oper} {st : ASt}
theorem Al_makeMap {κ α : Type} (kv : κ → Value) (ok : κ → Prop) (enc : α → AV) {d : Nat} {t : TypeId} (ho : o.op = .makeMap t none) (hg : o.guard = none) (hd : o.dst = some d) (hN : d < N)
    (h : ∀ b g, Al P N M0 w0 ops Q l ((st.put d g (.op (mapO kv ok enc b 0 (fun _ => none)))).set d (.ow d g))) : Al P N M0 w0 ops Q (o :: l) st := by
  refine ⟨?_⟩
  rintro a w ⟨ρ, hsim⟩
  obtain ⟨g', ρ', r1, r2, r3⟩ := hsim.upd2 (w' := w.alloc (.map #[] 0)) d ⟨rfl, rfl, rfl⟩ (by simp) (fun b hb _ => heap_alloc_old w _ hb) (x' := .map (some w.heap.size)) (o' := .op (mapO kv ok enc w.heap.size 0 (fun _ => none))) (fun b hb => .inl (by have : b = w.heap.size := hb; omega))
    (fun M' ρ' hK _ => ⟨fun b hb => .inl (by have : b = w.heap.size := hb; have := hsim.ext.size; omega), rfl, R.Mp.made kv ok _ w⟩)
  refine wpList_plain hg fun K hK => wp_upon ?_
  have e : (execOp a.eval o).run P w = .ok (.value (.map (some w.heap.size))) (w.alloc (.map #[] 0)) := by
    simp only [execOp, ho, Option.map_none, Sem.run_bind, run_makeMap, Result.andThen_ok, Sem.run_pure]
  rw [e]
  refine hK _ _ ((h w.heap.size g').out _ _ ⟨ρ', ?_⟩)
  rw [hd]
  exact r1.set hN ⟨r2, rfl⟩
/-- What reads aas a datum is just one value. -/
def Only (a : AV) (x : Value) : Prop := ∀ (M : Nat → Prop) (w : World) (y : Value), Rep M w a y → y = x
theorem Only.v (x : Value) : Only (.v x) x := fun M w y h => by cases h; rfl
theorem Only.row (us : List Value) : Only (.row (us.map .v)) (.agg us.toArray) := fun M w y h => by
  cases h with
  | row cs vs hl h1 hr =>
    congr 2
    apply List.ext_getElem?
    intro j
    rw [List.length_map] at hl
    rcases Nat.lt_or_ge j us.length with hj | hj
    · have h2 := hr j (.v us[j]) (vs[j]'(by omega)) (by simp [hj]) (by simp [hl, hj])
      have : vs[j]'(by omega) = us[j] := by generalize vs[j]'(by omega) = u at h2; cases h2; rfl
      rw [List.getElem?_eq_getElem hj, List.getElem?_eq_getElem (by omega), this]
    · rw [List.getElem?_eq_none hj, List.getElem?_eq_none (by omega)]
/-- What a lookup tells. -/
def lookA {α : Type} (enc : α → AV) (z : AV) : Option α → AV
  | some x => enc x
  | none => z
theorem Pu_lookup {κ α : Type} {kv : κ → Value} {ok : κ → Prop} {enc : α → AV} {b n : Nat} {m : κ → Option α} {t kt e : TypeId} {x y : Operand} {k g : Nat} {ky z : AV} {zv : Value} {c : κ} (T : R.KeyT P kt κ kv ok) (ho : o.op = .lookup t x y false) (ht : P.underlying t = some (.map kt e)) (hz : ∀ w, (zeroValue e).run P w = .ok zv w) (hzr : ∀ M w, Rep M w z zv) (hx : st.ev x = .ow k g) (hob : st.ob k = some (g, .op (mapO kv ok enc b n m))) (hy : st.ev y = .d ky) (hky : Only ky (kv c)) (hok : ok c) : Pu P st o (.d (lookA enc z (m c))) := fun B M ρ w a hM h2 h3 hev K hK => by
  have h1 := h2 x (by simp [opsOf, ho, Op.operands])
  have h4 := h2 y (by simp [opsOf, ho, Op.operands])
  rw [hx] at h1
  rw [hy] at h4
  obtain ⟨k1, _⟩ := h1
  obtain ⟨u, hu, _, he, hmp⟩ := h3 k g _ hob
  rw [k1] at hu; cases hu
  have hyv := hky _ _ _ h4
  obtain ⟨v, hr, hv1, hv2⟩ := hmp.look T ht hz c hok false
  have e : (execOp a.eval o).run P w = .ok (.value v) w := by
    simp only [execOp, ho, he, hyv, hr, Sem.run_bind, Result.andThen_ok, Sem.run_pure, Bool.false_eq_true, if_false]
  rw [e]
  refine hK _ _ (Kn.refl _) ?_
  cases hm : m c with
  | none => rw [hv2 hm]; exact hzr M w
  | some x => exact hv1 x hm
theorem Pu_lookup2 {κ α : Type} {kv : κ → Value} {ok : κ → Prop} {enc : α → AV} {b n : Nat} {m : κ → Option α} {t kt e : TypeId} {x y : Operand} {k g : Nat} {ky z : AV} {zv : Value} {c : κ} (T : R.KeyT P kt κ kv ok) (ho : o.op = .lookup t x y true) (ht : P.underlying t = some (.map kt e)) (hz : ∀ w, (zeroValue e).run P w = .ok zv w) (hzr : ∀ M w, Rep M w z zv) (hx : st.ev x = .ow k g) (hob : st.ob k = some (g, .op (mapO kv ok enc b n m))) (hy : st.ev y = .d ky) (hky : Only ky (kv c)) (hok : ok c) : Pu P st o (.d (.tup [lookA enc z (m c), .v (.bool (m c).isSome)])) := fun B M ρ w a hM h2 h3 hev K hK => by
  have h1 := h2 x (by simp [opsOf, ho, Op.operands])
  have h4 := h2 y (by simp [opsOf, ho, Op.operands])
  rw [hx] at h1
  rw [hy] at h4
  obtain ⟨k1, _⟩ := h1
  obtain ⟨u, hu, _, he, hmp⟩ := h3 k g _ hob
  rw [k1] at hu; cases hu
  have hyv := hky _ _ _ h4
  obtain ⟨v, hr, hv1, hv2⟩ := hmp.look T ht hz c hok true
  have e : (execOp a.eval o).run P w = .ok (.value (.tuple #[v, .bool (m c).isSome])) w := by
    simp only [execOp, ho, he, hyv, hr, Sem.run_bind, Result.andThen_ok, Sem.run_pure, if_true]
  rw [e]
  refine hK _ _ (Kn.refl _) (.tup _ [v, .bool (m c).isSome] rfl fun j a x h5 h6 => ?_)
  match j, h5, h6 with
  | 0, h5, h6 =>
    simp at h5 h6
    subst h5 h6
    cases hm : m c with
    | none => rw [hv2 hm]; exact hzr M w
    | some x => exact hv1 x hm
  | 1, h5, h6 =>
    simp at h5 h6
    subst h5 h6
    exact .v _ trivial
  | j + 2, h5, _ => simp at h5
theorem look_bool (o : Option Bool) : lookA (fun x : Bool => bv x) (bv false) o = bv (o.getD false) := by cases o <;> rfl
theorem Pu_lookupB {κ : Type} {kv : κ → Value} {ok : κ → Prop} {b n : Nat} {m : κ → Option Bool} {t kt e : TypeId} {x y : Operand} {k g : Nat} {ky : AV} {c : κ} {r : Bool} (T : R.KeyT P kt κ kv ok) (ho : o.op = .lookup t x y false) (ht : P.underlying t = some (.map kt e)) (hz : ∀ w, (zeroValue e).run P w = .ok (.bool false) w) (hx : st.ev x = .ow k g) (hob : st.ob k = some (g, .op (mapO kv ok (fun x : Bool => bv x) b n m))) (hy : st.ev y = .d ky) (hky : Only ky (kv c)) (hok : ok c) (hr : (m c).getD false = r) : Pu P st o (.d (bv r)) := by
  have h := Pu_lookup (z := bv false) T ho ht hz (fun M w => .v _ trivial) hx hob hy hky hok
  rw [look_bool, hr] at h
  exact h
theorem Al_mapUpdate {κ α : Type} [DecidableEq κ] {kv : κ → Value} {ok : κ → Prop} {enc : α → AV} {b n : Nat} {m : κ → Option α} {t kt e : TypeId} {x y z : Operand} {k g : Nat} {ky : AV} {c : κ} {v : α} (T : R.KeyT P kt κ kv ok) (ho : o.op = .mapUpdate t x y z) (hg : o.guard = none) (hd : o.dst = none) (hc : conB o = true) (ht : P.underlying t = some (.map kt e)) (hn : n < maxLen) (hx : st.ev x = .ow k g) (hob : st.ob k = some (g, .op (mapO kv ok enc b n m))) (hy : st.ev y = .d ky) (hky : Only ky (kv c)) (hok : ok c) (hz : Sub (st.ev z) (.d (enc v)))
    (h : Al P N M0 w0 ops Q l (st.put k g (.op (mapO kv ok enc b (n + 1) (fun c' => if c' = c then some v else m c'))))) : Al P N M0 w0 ops Q (o :: l) st := by
  refine ⟨?_⟩
  rintro a w ⟨ρ, hsim⟩
  have hev := hsim.ev hc
  have h1 := hev x (by simp [opsOf, ho, Op.operands])
  have h4 := hev y (by simp [opsOf, ho, Op.operands])
  have h5 := hz _ _ _ _ (hev z (by simp [opsOf, ho, Op.operands]))
  rw [hx] at h1
  rw [hy] at h4
  obtain ⟨k1, _⟩ := h1
  obtain ⟨u, hu, hF, he, hmp⟩ := hsim.obj k g _ hob
  rw [k1] at hu; cases hu
  have hyv := hky _ _ _ h4
  have hb : Mt M0 ρ st.ob b := .inr ⟨k, g, _, _, hob, k1, rfl⟩
  have hkn : ∀ w', w.grownBy w' (some b) → w'.heap.size = w.heap.size → Known (Mt M0 ρ st.ob) (Mt M0 ρ st.ob) w w' := fun w' hgr _ c' hc' hm => ⟨hm, hgr.block c' hc' (fun e => hm (by simp only [Option.some.injEq] at e; exact e ▸ hb))⟩
  obtain ⟨w', hr, hmp', hgr, hsz⟩ := hmp.store T ht hn c hok (a.eval z) v (fun w' hgr hs v x hv => hv.mono (hkn w' hgr hs)) h5
  have hs2 := hsim.mod (w' := w') hob k1 ⟨hgr.os, hgr.tape, hgr.output⟩ hgr.size (fun c' hc' hne => hgr.block c' hc' (fun e => hne (by simp only [Option.some.injEq] at e; exact e))) (o' := .op (mapO kv ok enc b (n + 1) (fun c' => if c' = c then some v else m c'))) (fun M' hK hle => ⟨hF, he, hmp'.mono rfl fun v x hv => hv.mono (Known.sub hle)⟩) (fun c' hc' => hc')
  refine wpList_plain hg fun K hK => wp_upon ?_
  have e : (execOp a.eval o).run P w = .ok .skip w' := by
    simp only [execOp, ho, he, hyv, hr, Sem.run_bind, Result.andThen_ok, Sem.run_pure]
  rw [e]
  refine hK _ _ (h.out _ _ ⟨ρ, ?_⟩)
  rw [hd]
  exact hs2
def rowS (b : Nat) (T : TypeId) (cs : List SV) : OP where
  F := fun c => 0 < cs.length ∧ c = b
  I := fun M w ρ h => ∃ ad cap, h = .slice ad cs.length cap ∧ cs.length ≤ maxI ∧ (0 < cs.length → ad = some ⟨b, 0, none⟩ ∧ ∃ vs, w.heap[b]? = some (.cells vs T (0, 0)) ∧ vs.size = cap ∧ cs.length ≤ cap ∧ cap ≤ maxLen ∧ ∀ (j : Nat) (s : SV) (x : Value), cs[j]? = some s → vs[j]? = some x → SRep M w ρ s x ∧ x.oneCell' = true)
  mono := fun {M M' w w' ρ h} k hb ⟨ad, cap, h1, h2, h3⟩ => ⟨ad, cap, h1, h2, fun hp => by
    obtain ⟨h4, vs, h5, h6, h7, h8, h9⟩ := h3 hp
    exact ⟨h4, vs, by rw [hb b ⟨hp, rfl⟩]; exact h5, h6, h7, h8, fun j s x hj hx => ⟨(h9 j s x hj hx).1.mono k, (h9 j s x hj hx).2⟩⟩⟩
  rho := fun {M w ρ ρ' h} hr ⟨ad, cap, h1, h2, h3⟩ => ⟨ad, cap, h1, h2, fun hp => by
    obtain ⟨h4, vs, h5, h6, h7, h8, h9⟩ := h3 hp
    exact ⟨h4, vs, h5, h6, h7, h8, fun j s x hj hx => ⟨(h9 j s x hj hx).1.rho hr, (h9 j s x hj hx).2⟩⟩⟩
  lt := fun {M w ρ h} ⟨ad, cap, h1, h2, h3⟩ c ⟨hp, hc⟩ => by
    subst hc
    obtain ⟨h4, vs, h5, _⟩ := h3 hp
    exact (Array.getElem?_eq_some_iff.1 h5).1
/-- A row of one cell each, told by its cells. -/
theorem le_toRow {k g : Nat} {T : TypeId} {aas : List AV} (hob : st.ob k = some (g, .arr T 1 (aas.map fun a => [a]))) {X : Act → World → Prop} (h : ∀ b, ∀ a w, Sim N M0 w0 (st.put k g (.op (rowS b T (aas.map .d)))) a w → X a w) : ∀ a w, Sim N M0 w0 st a w → X a w := by
  rintro a w ⟨ρ, hsim⟩
  obtain ⟨u, hu, hO⟩ := hsim.obj k g _ hob
  obtain ⟨ad, c, he, hrc, hcm, hbb⟩ := hO.form
  rw [List.length_map] at he hrc
  have hmi : aas.length ≤ maxI := by simp only [maxI, maxLen] at *; omega
  by_cases hp : 0 < aas.length
  · obtain ⟨b, rfl⟩ := hbb (by omega)
    refine h b a w ⟨ρ, hsim.mod (w' := w) hob hu ⟨rfl, rfl, rfl⟩ (Nat.le_refl _) (fun _ _ _ => rfl) (o' := .op (rowS b T (aas.map .d))) (fun M' hK hle => ?_) (fun c' hc' => by rw [he]; simp [blk]; exact hc'.2.symm)⟩
    have hO' := hO.mono hK fun _ _ => rfl
    rw [he] at hO'
    obtain ⟨cap, cur, vals, he2, hgb, hnc, hcp, hsz, htk, hrw, hl, hlb⟩ := arr_at hO' (b := b) rfl
    rw [List.length_map] at he2 hnc htk
    have hcc : cap = c := by cases he2; rfl
    subst hcc
    refine ⟨fun c' hc' => by rw [hc'.2]; exact hlb, some ⟨b, 0, none⟩, cap, by rw [he, List.length_map], by rw [List.length_map]; exact hmi, fun _ => ⟨rfl, cur, hgb, by omega, by rw [List.length_map]; exact hnc, hcp, fun j s x hj hx => ?_⟩⟩
    rw [List.getElem?_map] at hj
    obtain ⟨y, hy, rfl⟩ := Option.map_eq_some_iff.1 hj
    have hjl := (List.getElem?_eq_some_iff.1 hy).1
    have hfl : ((aas.map fun a => [a]).flatten)[j]? = some y := by
      have e := flat_at (n := 1) (rows := aas.map fun a => [a]) (fun q hq => by obtain ⟨_, _, rfl⟩ := List.mem_map.1 hq; rfl) (i := j) (j := 0) (by omega)
      rw [Nat.mul_one, Nat.add_zero] at e
      rw [e, List.getElem?_map, hy]; rfl
    obtain ⟨z, m1, m2, m3⟩ := rows_flat hrw hfl
    rw [← htk, List.getElem?_take, if_pos (by omega)] at m1
    have : cur[j]? = some z := by simpa using m1
    rw [hx] at this; cases this
    exact ⟨m2, m3⟩
  · have h0 : aas = [] := List.eq_nil_of_length_eq_zero (by omega)
    subst h0
    refine h 0 a w ⟨ρ, hsim.mod (w' := w) hob hu ⟨rfl, rfl, rfl⟩ (Nat.le_refl _) (fun _ _ _ => rfl) (o' := .op (rowS 0 T [])) (fun M' hK hle => ⟨fun c' hc' => absurd hc'.1 (by simp), ad, c, by rw [he]; rfl, by simp, fun hp => absurd hp (by simp)⟩) (fun c' hc' => absurd hc'.1 (by simp))⟩
theorem Aw_toRow {c : Code} {k g : Nat} {T : TypeId} {aas : List AV} (hob : st.ob k = some (g, .arr T 1 (aas.map fun a => [a]))) (h : ∀ b, Aw P N M0 w0 c Q (st.put k g (.op (rowS b T (aas.map .d))))) : Aw P N M0 w0 c Q st := ⟨le_toRow hob fun b => (h b).out⟩
/-- An object of the call's own, told as data from here on. -/
theorem SimR.frzG {ρ : Rho} {a : Act} {w : World} (h : SimR N M0 w0 st ρ a w) {k g : Nat} {o : AO} (d : AV) (hnl : ∀ b, ¬ w0.l b) (is : List Nat) (hob : st.ob k = some (g, o)) (his : AllOw st k g is) (hrd : ∀ M' v, Known (Mt M0 ρ st.ob) M' w w → (∀ b, fpO o v b → ¬ M' b) → ORep w0 (Mt M0 ρ st.ob) w ρ v o → Rep M' w d v) : SimR N M0 w0 (st.frz k is d) ρ a w := by
  have hob' : ∀ j g' o', (st.frz k is d).ob j = some (g', o') → j ≠ k ∧ st.ob j = some (g', o') := fun j g' o' hh => by
    have : (bif Nat.beq j k then none else st.ob j) = some (g', o') := hh
    cases hb : Nat.beq j k with
    | true => rw [hb] at this; cases this
    | false =>
      rw [hb] at this
      exact ⟨fun e => by subst e; simp at hb, this⟩
  have hk : Known (Mt M0 ρ st.ob) (Mt M0 ρ (st.frz k is d).ob) w w := fun b _ hb => ⟨fun hm => hb (hm.imp id fun ⟨k', g', o', x, h1, h2, h3⟩ => ⟨k', g', o', x, (hob' _ _ _ h1).2, h2, h3⟩), rfl⟩
  obtain ⟨v, hv, hO⟩ := h.obj k g _ hob
  have hrep : Rep (Mt M0 ρ (st.frz k is d).ob) w d v := hrd _ v hk (fun b hb hm => by
    rcases hm with hm | ⟨k', g', o', x, h1, h2, h3⟩
    · have := h.base b hm
      rcases (hO.blk_lt hb).1 with h4 | h4
      · omega
      · exact hnl b h4
    · obtain ⟨h4, h5⟩ := hob' _ _ _ h1
      exact h4 (h.apart k' g' o' k g _ x v b h5 hob h2 hv h3 hb)) hO
  exact {
    size := h.size
    defers := h.defers
    slot := fun i => by
      show SRep _ _ _ (bif is.contains i then .d d else st.sl i) _
      by_cases hi : i ∈ is
      · have e : is.contains i = true := by simpa using hi
        rw [e]
        have h1 := h.slot i
        rw [his.get i hi] at h1
        have h2 : a.tmps.getD i undef = v := by
          have := h1.1
          rw [hv] at this
          exact (Option.some.inj this).symm
        rw [h2]
        exact hrep
      · have e : is.contains i = false := by simpa using hi
        rw [e]
        exact (h.slot i).mono hk
    obj := fun k' g' o' hh => by
      obtain ⟨x, h1, h2⟩ := h.obj k' g' o' (hob' _ _ _ hh).2
      exact ⟨x, h1, h2.mono hk fun _ _ => rfl⟩
    apart := fun k1 g1 o1 k2 g2 o2 x x' b h1 h2 => h.apart k1 g1 o1 k2 g2 o2 x x' b (hob' _ _ _ h1).2 (hob' _ _ _ h2).2
    gens := h.gens
    base := h.base
    ext := h.ext
    pin := h.pin }
theorem le_frzRow {k g b : Nat} {T : TypeId} {aas : List AV} (hnl : ∀ b, ¬ w0.l b) (is : List Nat) (hob : st.ob k = some (g, .op (rowS b T (aas.map .d)))) (his : AllOw st k g is) : Le N M0 w0 st (st.frz k is (.sl 1 (aas.map fun a => [a]))) := fun a w ⟨ρ, h⟩ => ⟨ρ, h.frzG _ hnl is hob his fun M' v hK hM hO => by
  obtain ⟨hF, ad, cap, rfl, hmi, h3⟩ := hO
  by_cases hp : 0 < aas.length
  · obtain ⟨rfl, vs, h5, h6, h7, h8, h9⟩ := h3 (by simpa using hp)
    rw [List.length_map] at h7 hmi
    have hb : ¬ M' b := hM b ⟨by simpa using hp, rfl⟩
    rw [List.length_map, ← List.length_map (f := fun a : AV => [a])]
    have hcell : ∀ j, j < aas.length → ∃ x, vs[j]? = some x := fun j hj => ⟨vs[j]'(by omega), by rw [Array.getElem?_eq_getElem (by omega)]⟩
    refine .sl 1 (aas.map fun a => [a]) b 0 cap (fun i _ => (vs[i]?).getD undef) (by simpa using hmi) (by simpa using h7) (fun i r hi => ?_) (fun i r j x hi hx => ?_) (fun i r j x hi hx => ?_)
    · rw [List.getElem?_map] at hi
      obtain ⟨y, _, rfl⟩ := Option.map_eq_some_iff.1 hi
      rfl
    all_goals
      rw [List.getElem?_map] at hi
      obtain ⟨y, hy, rfl⟩ := Option.map_eq_some_iff.1 hi
      match j, hx with
      | 0, hx =>
        simp only [List.getElem?_cons_zero, Option.some.injEq] at hx
        subst hx
        obtain ⟨u, hu⟩ := hcell i (List.getElem?_eq_some_iff.1 hy).1
        have h10 := h9 i (.d y) u (by rw [List.getElem?_map, hy]; rfl) hu
        first
        | exact ⟨hb, by rw [show (0 : Nat) + i * 1 + 0 = i by omega]; exact (cell_of_row w b i vs T (0, 0) h5).trans (by rw [hu]; rfl), by rw [hu]; exact h10.2⟩
        | (rw [hu]; exact (show Rep _ w y u from h10.1).mono hK)
      | j + 1, hx => simp at hx
  · have h0 : aas = [] := List.eq_nil_of_length_eq_zero (by omega)
    subst h0
    exact .nil 1 _ _⟩
theorem Aw_frzRow {c : Code} {k g b : Nat} {T : TypeId} {aas : List AV} (hnl : ∀ b, ¬ w0.l b) (is : List Nat) (hob : st.ob k = some (g, .op (rowS b T (aas.map .d)))) (his : AllOw st k g is) (h : Aw P N M0 w0 c Q (st.frz k is (.sl 1 (aas.map fun a => [a])))) : Aw P N M0 w0 c Q st := Aw_le (le_frzRow hnl is hob his) h
/-- A row of the call's own that lies in a cell of such a row, told as data. -/
theorem le_frzS {k g kb gb b : Nat} (j : Nat) {T Tb : TypeId} {n : Nat} {rows : List (List AV)} {cs : List SV} (hnl : ∀ b, ¬ w0.l b) (is : List Nat) (hob : st.ob k = some (g, .arr T n rows)) (hkk : Nat.beq kb k = false) (hobb : st.ob kb = some (gb, .op (rowS b Tb cs))) (hj : cs[j]? = some (.ow k g)) (his : AllOw st k g is) : Le N M0 w0 st ((st.frz k is (.sl n rows)).put kb gb (.op (rowS b Tb (cs.set j (.d (.sl n rows)))))) := by
  rintro a w ⟨ρ, hs⟩
  obtain ⟨h1, v, hv, hr⟩ := hs.frz (fun _ b _ _ => hnl b) is hob his
  have hob' : (st.frz k is (.sl n rows)).ob kb = some (gb, .op (rowS b Tb cs)) := by
    show (bif Nat.beq kb k then none else st.ob kb) = _
    rw [hkk]; exact hobb
  obtain ⟨y, hy, hF, ad, cap, rfl, hmi, h3⟩ := h1.obj kb gb _ hob'
  refine ⟨ρ, h1.mod hob' hy ⟨rfl, rfl, rfl⟩ (Nat.le_refl _) (fun _ _ _ => rfl) (fun M' hK _ => ⟨fun c hc => hF c ⟨by have := hc.1; rwa [List.length_set] at this, hc.2⟩, ad, cap, by rw [List.length_set], by rw [List.length_set]; exact hmi, fun hp => ?_⟩) (fun c hc => ⟨by have := hc.1; rwa [List.length_set] at this, hc.2⟩)⟩
  rw [List.length_set] at hp
  obtain ⟨h4, vs, h5, h6, h7, h8, h9⟩ := h3 hp
  refine ⟨h4, vs, h5, h6, by rw [List.length_set]; exact h7, h8, fun i q z hq hz => ?_⟩
  rw [List.getElem?_set] at hq
  by_cases e : j = i
  · subst e
    rw [if_pos rfl] at hq
    split at hq
    · simp only [Option.some.injEq] at hq
      subst hq
      have h10 := h9 j _ z hj hz
      have h11 := h10.1.1
      rw [hv] at h11; cases h11
      exact ⟨hr.mono hK, h10.2⟩
    · cases hq
  · rw [if_neg e] at hq
    exact ⟨(h9 i q z hq hz).1.mono hK, (h9 i q z hq hz).2⟩
/-- A cell of such a row. -/
theorem Pu_indexRow {t e T : TypeId} {x i : Operand} {k g b j : Nat} {z : Int} {cs : List SV} (ho : o.op = .indexAddr t x i) (ht : P.underlying t = some (.slice e)) (hz : ∀ w, (sizeOf e).run P w = .ok 1 w) (hx : st.ev x = .ow k g) (hi : st.ev i = .d (.v (.int .i64 z))) (hob : st.ob k = some (g, .op (rowS b T cs))) (hk : z = j) (hj : j < cs.length) : Pu P st o (.bx k g j) := Pu_q fun B M ρ w a h2 h3 => by
  have m : x ∈ opsOf o ∧ i ∈ opsOf o := by simp [opsOf, ho, Op.operands]
  obtain ⟨e2, _⟩ := ev_v h2 m.2 hi
  have hm := h2 x m.1
  rw [hx] at hm
  obtain ⟨k1, _⟩ := hm
  obtain ⟨u, hu, hF, ad, cap, he, hmi, h5⟩ := h3 k g _ hob
  rw [k1] at hu; cases hu
  obtain ⟨rfl, vs, _⟩ := h5 (by omega)
  subst hk
  refine ⟨.pointer (some ⟨b, j, none⟩), ?_, _, b, k1, by rw [he]; rfl, rfl⟩
  simp only [execOp, ho, he, e2, Instr.indexAt, Instr.sureAddr, Sem.run_bind, asIntOf, Sem.run_pure, Result.andThen_ok, run_underlying ht]
  rw [if_pos ⟨by omega, by omega⟩]
  simp only [Sem.run_bind, hz, Result.andThen_ok, Int.toNat_natCast, add_addr, Sem.run_pure, Nat.zero_add, Nat.mul_one]
theorem Pu_loadRow {t T : TypeId} {x : Operand} {k g b j : Nat} {cs : List SV} {s : SV} (ho : o.op = .load t x) (ht : ∀ w, (isAgg t).run P w = .ok false w) (hx : st.ev x = .bx k g j) (hob : st.ob k = some (g, .op (rowS b T cs))) (hs : cs[j]? = some s) : Pu P st o s := Pu_q fun B M ρ w a h2 h3 => by
  have hm := h2 x (by simp [opsOf, ho, Op.operands])
  rw [hx] at hm
  obtain ⟨y, b', h4, h5, h6⟩ := hm
  obtain ⟨y', h7, hF, ad, cap, he, hmi, h8⟩ := h3 k g _ hob
  rw [h4] at h7; cases h7
  have hjl := (List.getElem?_eq_some_iff.1 hs).1
  obtain ⟨rfl, vs, hg, hsz, hnc, hcm, h9⟩ := h8 (by omega)
  rw [he] at h5
  simp only [blk, Option.some.injEq] at h5
  subst h5
  have hv : vs[j]? = some (vs[j]'(by omega)) := Array.getElem?_eq_getElem _
  have hc : w.cell? ⟨b, j, none⟩ = some (vs[j]'(by omega)) := by simp [World.cell?, hg, hv]
  refine ⟨vs[j]'(by omega), ?_, (h9 j s _ hs hv).1⟩
  simp [execOp, ho, h6, Instr.loadAt, Instr.sureAddr, loadVar, ht, load, Sem.run, hc, Sem.run_bind]
theorem Al_storeRow {t T : TypeId} {x y : Operand} {k g b j : Nat} {cs : List SV} {s : SV} (ho : o.op = .store t x y) (hg : o.guard = none) (hd : o.dst = none) (hc : conB o = true) (hz : ∀ w, (sizeOf t).run P w = .ok 1 w) (hx : st.ev x = .bx k g j) (hob : st.ob k = some (g, .op (rowS b T cs))) (hj : j < cs.length) (hy : st.ev y = s) (hs : scell s = true)
    (h : Al P N M0 w0 ops Q l (st.put k g (.op (rowS b T (cs.set j s))))) : Al P N M0 w0 ops Q (o :: l) st := by
  refine ⟨?_⟩
  rintro a w ⟨ρ, hsim⟩
  have hmem : x ∈ opsOf o ∧ y ∈ opsOf o := by simp [opsOf, ho, Op.operands]
  have hmx := hsim.ev hc x hmem.1
  have hmy := hsim.ev hc y hmem.2
  rw [hx] at hmx
  rw [hy] at hmy
  obtain ⟨u, b', h4, h5, h6⟩ := hmx
  obtain ⟨u', h7, hF, ad, cap, rfl, hmi, h8⟩ := hsim.obj k g _ hob
  rw [h4] at h7; cases h7
  obtain ⟨rfl, vs, hgb, hsz, hnc, hcm, h11⟩ := h8 (by omega)
  simp only [blk, Option.some.injEq] at h5
  subst h5
  have hlt : j < vs.size := by omega
  have hone := hmy.one hs
  have hc1 : w.cell? ⟨b, j, none⟩ = some vs[j] := by simp [World.cell?, hgb, hlt]
  have hfz : w.frozen? ⟨b, j, none⟩ = false := by simp [World.frozen?, hgb]
  have hnew : (w.setCell ⟨b, j, none⟩ (a.eval y)).heap[b]? = some (.cells (vs.setIfInBounds j (a.eval y)) T (0, 0)) := by simp [World.setCell, Array.getElem?_modify, hgb]
  have hs2 := hsim.mod (w' := w.setCell ⟨b, j, none⟩ (a.eval y)) hob h4 ⟨rfl, rfl, rfl⟩ (by simp [World.setCell]) (fun c hb hne => Below.heap_setCell _ _ _ _ (fun e => hne ⟨by omega, e⟩)) (o' := .op (rowS b T (cs.set j s))) (fun M' hK _ => ⟨fun c hc' => hF c ⟨by have := hc'.1; rwa [List.length_set] at this, hc'.2⟩, _, cap, by rw [List.length_set], by rw [List.length_set]; exact hmi, fun _ => ⟨rfl, _, hnew, by simp [hsz], by rw [List.length_set]; exact hnc, hcm, fun i s' z h12 h13 => by
    rw [List.getElem?_set] at h12
    rw [Array.getElem?_setIfInBounds] at h13
    by_cases e : j = i
    · subst e
      rw [if_pos rfl, if_pos (by omega)] at h12
      rw [if_pos rfl, if_pos hlt] at h13
      simp only [Option.some.injEq] at h12 h13
      subst h12 h13
      exact ⟨hmy.mono hK, hone⟩
    · rw [if_neg e] at h12
      rw [if_neg e] at h13
      exact ⟨(h11 i s' z h12 h13).1.mono hK, (h11 i s' z h12 h13).2⟩⟩⟩) (fun c hc' => ⟨by have := hc'.1; rwa [List.length_set] at this, hc'.2⟩)
  refine wpList_plain hg fun K hK => wp_upon ?_
  have e : (execOp a.eval o).run P w = .ok .skip (w.setCell ⟨b, j, none⟩ (a.eval y)) := by
    have hst : (store (⟨b, j, none⟩ : Addr) (a.eval y)).run P w = .ok () (w.setCell ⟨b, j, none⟩ (a.eval y)) := by
      generalize a.eval y = z at hone
      cases z <;> simp_all [store, Sem.run, Value.oneCell']
    simp only [execOp, ho, h6, Instr.storeAt, Instr.sureAddr, storeVar, Sem.run_bind, Sem.run_pure, Result.andThen_ok, hz, one_cells hone]
    simp [storeCells, Sem.run_bind, Addr.add, hst]
  rw [e]
  refine hK _ _ (h.out _ _ ⟨ρ, ?_⟩)
  rw [hd]
  exact hs2
theorem mapeq {κ α : Type} {kv : κ → Value} {ok : κ → Prop} {enc : α → AV} {g b n n' : Nat} {m m' : κ → Option α} (hn : n = n') (h : m = m') : some (g, AO.op (mapO kv ok enc b n m)) = some (g, AO.op (mapO kv ok enc b n' m')) := by rw [hn, h]
theorem SubL.refl : ∀ (cs : List SV), SubL cs cs
  | [] => trivial
  | _ :: r => ⟨Sub.rfl, SubL.refl r⟩
theorem SubL.of {cs cs' : List SV} (hl : cs.length = cs'.length) (h : ∀ (j : Nat) (s s' : SV), cs[j]? = some s → cs'[j]? = some s' → Sub s s') : SubL cs cs' := by
  induction cs generalizing cs' with
  | nil => cases cs' with
    | nil => trivial
    | cons => simp at hl
  | cons x r ih => cases cs' with
    | nil => simp at hl
    | cons y r' => exact ⟨h 0 x y rfl rfl, ih (by simpa using hl) fun j s s' h1 h2 => h (j + 1) s s' (by simpa using h1) (by simpa using h2)⟩
/-- Such a row, of which less is told. -/
theorem le_rowLe {k g b : Nat} {T : TypeId} {cs : List SV} (cs' : List SV) (hob : st.ob k = some (g, .op (rowS b T cs))) (h : SubL cs cs') : Le N M0 w0 st (st.put k g (.op (rowS b T cs'))) := by
  rintro a w ⟨ρ, hs⟩
  obtain ⟨h1, h2⟩ := h.get
  obtain ⟨y, hy, hF, ad, cap, rfl, hmi, h3⟩ := hs.obj k g _ hob
  refine ⟨ρ, hs.mod hob hy ⟨rfl, rfl, rfl⟩ (Nat.le_refl _) (fun _ _ _ => rfl) (fun M' hK _ => ⟨fun c hc => hF c ⟨by rw [h1]; exact hc.1, hc.2⟩, ad, cap, by rw [h1], by rw [← h1]; exact hmi, fun hp => ?_⟩) (fun c hc => ⟨by rw [h1]; exact hc.1, hc.2⟩)⟩
  obtain ⟨h4, vs, h5, h6, h7, h8, h9⟩ := h3 (by rw [h1]; exact hp)
  refine ⟨h4, vs, h5, h6, by rw [← h1]; exact h7, h8, fun i q z hq hz => ?_⟩
  obtain ⟨s0, hs0, hsub⟩ := h2 i q hq
  have h10 := h9 i s0 z hs0 hz
  exact ⟨hsub _ _ _ _ (h10.1.mono hK), h10.2⟩
theorem Aw_rowLe {c : Code} {k g b : Nat} {T : TypeId} {cs : List SV} (cs' : List SV) (hob : st.ob k = some (g, .op (rowS b T cs))) (h : SubL cs cs') (hc : Aw P N M0 w0 c Q (st.put k g (.op (rowS b T cs')))) : Aw P N M0 w0 c Q st := Aw_le (le_rowLe cs' hob h) hc
theorem Aw_frzS {c : Code} {k g kb gb b : Nat} (j : Nat) {T Tb : TypeId} {n : Nat} {rows : List (List AV)} {cs : List SV} (hnl : ∀ b, ¬ w0.l b) (is : List Nat) (hob : st.ob k = some (g, .arr T n rows)) (hkk : Nat.beq kb k = false) (hobb : st.ob kb = some (gb, .op (rowS b Tb cs))) (hj : cs[j]? = some (.ow k g)) (his : AllOw st k g is) (h : Aw P N M0 w0 c Q ((st.frz k is (.sl n rows)).put kb gb (.op (rowS b Tb (cs.set j (.d (.sl n rows))))))) : Aw P N M0 w0 c Q st := Aw_le (le_frzS j hnl is hob hkk hobb hj his) h
end
end Go.Proofs.YtojehmkkbdedaaaGreat.A
end

section
namespace Go.Proofs
open Go.Shelf
def Tryz.lays189_ren : Go.Shelf.Ren := ⟨fun | 189 => 86 | 125 => 94 | 257 => 93 | 128 => 105 | 129 => 106 | 294 => 96 | 295 => 97 | 296 => 98 | 297 => 99 | 298 => 100 | 299 => 101 | 216 => 102 | 300 => 103 | 301 => 104 | 328 => 108 | 329 => 109 | 330 => 110 | 331 => 111 | 332 => 112 | 215 => 113 | 343 => 114 | n => n, fun | 28 => 22 | 3 => 3 | 46 => 133 | 0 => 0 | 51 => 146 | 53 => 148 | 4 => 4 | 183 => 140 | 182 => 139 | 131 => 95 | 5 => 5 | 9 => 9 | 218 => 150 | 222 => 154 | 228 => 156 | 229 => 157 | n => n, fun | n => n⟩
theorem Tryz.lays189 : Go.Proofs.Lays.n189 Tryz.prog Tryz.lays189_ren := {
  mixed := by kernel_rfl
  f125 := Tryz.func94.trans (congrArg some (by kernel_rfl))
  f128 := Tryz.func105.trans (congrArg some (by kernel_rfl))
  f129 := Tryz.func106.trans (congrArg some (by kernel_rfl))
  f189 := Tryz.func86.trans (congrArg some (by kernel_rfl))
  f215 := Tryz.func113.trans (congrArg some (by kernel_rfl))
  f216 := Tryz.func102.trans (congrArg some (by kernel_rfl))
  f257 := Tryz.func93.trans (congrArg some (by kernel_rfl))
  f294 := Tryz.func96.trans (congrArg some (by kernel_rfl))
  f295 := Tryz.func97.trans (congrArg some (by kernel_rfl))
  f296 := Tryz.func98.trans (congrArg some (by kernel_rfl))
  f297 := Tryz.func99.trans (congrArg some (by kernel_rfl))
  f298 := Tryz.func100.trans (congrArg some (by kernel_rfl))
  f299 := Tryz.func101.trans (congrArg some (by kernel_rfl))
  f300 := Tryz.func103.trans (congrArg some (by kernel_rfl))
  f301 := Tryz.func104.trans (congrArg some (by kernel_rfl))
  f328 := Tryz.func108.trans (congrArg some (by kernel_rfl))
  f329 := Tryz.func109.trans (congrArg some (by kernel_rfl))
  f330 := Tryz.func110.trans (congrArg some (by kernel_rfl))
  f331 := Tryz.func111.trans (congrArg some (by kernel_rfl))
  f332 := Tryz.func112.trans (congrArg some (by kernel_rfl))
  f343 := Tryz.func114.trans (congrArg some (by kernel_rfl))
  t0 := Tryz.underlying0
  a0 := Tryz.isAgg0
  z0 := Tryz.sizeOf0
  v0 := Tryz.zeroValue0
  t3 := Tryz.underlying3
  a3 := Tryz.isAgg3
  z3 := Tryz.sizeOf3
  v3 := Tryz.zeroValue3
  t4 := Tryz.underlying4
  a4 := Tryz.isAgg4
  z4 := Tryz.sizeOf4
  v4 := Tryz.zeroValue4
  t5 := Tryz.underlying5
  a5 := Tryz.isAgg5
  z5 := Tryz.sizeOf5
  v5 := Tryz.zeroValue5
  t9 := Tryz.underlying9
  a9 := Tryz.isAgg9
  z9 := Tryz.sizeOf9
  v9 := Tryz.zeroValue9
  t28 := Tryz.underlying22
  a28 := Tryz.isAgg22
  z28 := Tryz.sizeOf22
  v28 := Tryz.zeroValue22
  t46 := Tryz.underlying133
  a46 := Tryz.isAgg133
  z46 := Tryz.sizeOf133
  v46 := Tryz.zeroValue133
  t51 := Tryz.underlying146
  a51 := Tryz.isAgg146
  z51 := Tryz.sizeOf146
  v51 := Tryz.zeroValue146
  t53 := Tryz.underlying148
  a53 := Tryz.isAgg148
  z53 := Tryz.sizeOf148
  v53 := Tryz.zeroValue148
  t131 := Tryz.underlying95
  a131 := Tryz.isAgg95
  z131 := Tryz.sizeOf95
  v131 := Tryz.zeroValue95
  t182 := Tryz.underlying139
  a182 := Tryz.isAgg139
  z182 := Tryz.sizeOf139
  v182 := Tryz.zeroValue139
  t183 := Tryz.underlying140
  a183 := Tryz.isAgg140
  z183 := Tryz.sizeOf140
  v183 := Tryz.zeroValue140
  t218 := Tryz.underlying150
  a218 := Tryz.isAgg150
  z218 := Tryz.sizeOf150
  v218 := Tryz.zeroValue150
  t222 := Tryz.underlying154
  a222 := Tryz.isAgg154
  z222 := Tryz.sizeOf154
  v222 := Tryz.zeroValue154
  t228 := Tryz.underlying156
  a228 := Tryz.isAgg156
  z228 := Tryz.sizeOf156
  v228 := Tryz.zeroValue156
  t229 := Tryz.underlying157
  a229 := Tryz.isAgg157
  z229 := Tryz.sizeOf157
  v229 := Tryz.zeroValue157 }
open Go.Sort Go.RowKit in
theorem Tryz.slices_Sort_int (blk off cap : Nat) (zs : List Int) (w : World) (hH : Holds (Value.int .i64) w blk off zs.toArray) (hblk : blk < w.heap.size) (hsz : zs.length < 4611686018427387904) :
    Calls Tryz.prog 86 #[.slice (some ⟨blk, off, none⟩) zs.length cap] w fun e w' =>
      e = .returned (.tuple #[]) ∧ ∃ n os, w' = grow (putRow (Value.int .i64) (Sort.ahead w n) blk off (zs.mergeSort fun x y => decide (x ≤ y)).toArray) os := Any.slices_Sort_int Tryz.lays189 blk off cap zs w hH hblk hsz
open Go.RowKit Go.Sort in
/-- .. and plain. (LAID: no walk: one application.) -/
theorem Tryz.slices_Sort_int_none (p : Option Addr) (cap : Nat) (w : World) :
    Calls Tryz.prog 86 #[.slice p 0 cap] w fun e w' => e = .returned (.tuple #[]) ∧ w' = w := Any.slices_Sort_int_none Tryz.lays189 p cap w
end Go.Proofs
end

section
namespace Go.Proofs.YtojehmkkbdedaaaGreat
open Go.RowKit Go.Sort
theorem A.putRow_heap {α : Type} [Inhabited α] (enc : α → Value) {w : World} {g n : Nat} {e : TypeId} {cur tail : List Value} {d : Array α} {os : Array Obj} (h : w.heap[g]? = some (.cells (cur ++ tail).toArray e)) (hd : d.size = cur.length) :
    (grow (putRow enc (Go.Sort.ahead w n) g 0 d) os).heap[g]? = some (.cells (d.toList.map enc ++ tail).toArray e) := by
  have hlt : g < w.heap.size := (Array.getElem?_eq_some_iff.1 h).1
  have h1 : (putRow enc (Go.Sort.ahead w n) g 0 d).heap[g]? = some (.cells (d.toList.map enc ++ tail).toArray e) := by
    unfold putRow mapBlock Go.Sort.ahead
    simp only [Array.getElem?_modify, if_true, h, Option.map_some, onCells, putCells]
    congr 2
    apply Array.ext
    · simp; omega
    · intro i h1 h2
      simp only [Array.getElem_mapIdx, Nat.zero_le, true_and, Nat.zero_add, Nat.sub_zero]
      split
      · rename_i hi
        rw [getElem!_pos d i hi]
        simp [List.getElem_append_left, hi]
      · rename_i hi
        simp only [List.getElem_toArray]
        rw [List.getElem_append_right (by omega), List.getElem_append_right (by simp; omega)]
        simp [hd]
  unfold grow
  have hsz : (putRow enc (Go.Sort.ahead w n) g 0 d).heap.size = w.heap.size := by simp [putRow, mapBlock, Go.Sort.ahead]
  rw [Array.getElem?_append_left (by rw [hsz]; exact hlt)]
  exact h1
theorem A.putRow_but {α : Type} [Inhabited α] (enc : α → Value) {w : World} {g n : Nat} {d : Array α} {os : Array Obj} : ∀ b, b < w.heap.size → g ≠ b → (grow (putRow enc (Go.Sort.ahead w n) g 0 d) os).heap[b]? = w.heap[b]? := fun k hk hne => by
  simp only [grow]
  rw [Array.getElem?_append_left (by simp [putRow, mapBlock, Go.Sort.ahead]; exact hk)]
  simp [putRow, mapBlock, Go.Sort.ahead, Array.getElem?_modify, hne]
theorem A.own_split {w : World} {B : Nat} {T : TypeId} {v : Value} {xs : List Value} (h : w.ownsRow B T 1 v xs.length xs) : (v = .slice none 0 0 ∧ xs = []) ∨ ∃ g cap tail, v = .slice (some ⟨g, 0, none⟩) xs.length cap ∧ B ≤ g ∧ w.heap[g]? = some (.cells (xs ++ tail).toArray T) ∧ xs.length + tail.length = cap ∧ cap ≤ maxLen := by
  rcases h.2 with ⟨rfl, e⟩ | ⟨g, cap, cur, rfl, hb, hg, hnc, hcm, hcs, ht⟩
  · exact .inl ⟨rfl, List.eq_nil_of_length_eq_zero e⟩
  · refine .inr ⟨g, cap, cur.toList.drop xs.length, rfl, hb, ?_, ?_, hcm⟩
    · rw [hg]
      congr 2
      rw [Nat.mul_one] at ht
      conv => rhs; rw [← ht]
      rw [← List.length_take_of_le (l := cur.toList) (i := xs.length) (by simp; omega)]
      simp
    · simp; omega
theorem A.own_join {w : World} {B : Nat} {T : TypeId} {g cap : Nat} {xs tail : List Value} (hb : B ≤ g) (hg : w.heap[g]? = some (.cells (xs ++ tail).toArray T)) (hc : xs.length + tail.length = cap) (hm : cap ≤ maxLen) : w.ownsRow B T 1 (.slice (some ⟨g, 0, none⟩) xs.length cap) xs.length xs :=
  ⟨by simp, .inr ⟨g, cap, _, rfl, hb, hg, by omega, hm, by simp; omega, by simp⟩⟩
theorem A.holds_of {α : Type} [Inhabited α] (enc : α → Value) {w : World} {g : Nat} {e : TypeId} {xs : List α} {tail : List Value} (h : w.heap[g]? = some (.cells (xs.map enc ++ tail).toArray e)) : Holds enc w g 0 xs.toArray := by
  intro j hj
  simp at hj
  refine ⟨?_, by simp [World.frozen?, h]⟩
  rw [getElem!_pos _ j (by simpa using hj)]
  simp [World.cell?, h, List.getElem?_append_left, hj]
def sortI (l : List Int) : List Int := l.mergeSort fun x y => decide (x ≤ y)
theorem sortI_same (xs : List Int) : (sortI xs).length = xs.length ∧ ∀ x ∈ sortI xs, x ∈ xs := ⟨by simp [sortI], fun x h => by simpa [sortI] using h⟩
theorem sortI_in : A.InPlace Tryz.prog 86 3 (Value.int .i64) sortI (fun _ => .tuple #[]) := ⟨fun _ _ => by kernel_rfl, fun B w v xs hl hv h => by
  have hlm : (xs.map (Value.int .i64)).length = xs.length := by simp
  rcases A.own_split (by rw [hlm]; exact h) with ⟨rfl, e⟩ | ⟨g, cap, tail, rfl, hb, hg, hc, hm⟩
  · have : xs = [] := by simpa using e
    subst this
    refine (Tryz.slices_Sort_int_none none 0 w).mono ?_
    rintro e w' ⟨rfl, rfl⟩
    exact ⟨_, rfl, by simpa [sortI] using h, rfl, rfl, rfl, rfl, Nat.le_refl _, fun _ _ _ => rfl, fun _ => rfl⟩
  · have hlt := (Array.getElem?_eq_some_iff.1 hg).1
    have hc2 := Tryz.slices_Sort_int g 0 cap xs w (A.holds_of _ hg) hlt (by omega)
    rw [hlm]
    refine hc2.mono ?_
    rintro e w' ⟨rfl, n, os, rfl⟩
    refine ⟨.slice (some ⟨g, 0, none⟩) xs.length cap, rfl, ?_, rfl, rfl, rfl, rfl, by simp [grow, putRow, mapBlock, Go.Sort.ahead], fun b hbl hne => A.putRow_but _ b hbl (fun e => hne (by rw [e]; rfl)), fun _ => rfl⟩
    have h2 := A.putRow_heap (Value.int .i64) (n := n) (os := os) (d := (sortI xs).toArray) hg (by simp [sortI])
    have hl2 : ((sortI xs).map (Value.int .i64)).length = xs.length := by simp [sortI]
    have := A.own_join (B := B) (xs := (sortI xs).map (Value.int .i64)) hb h2 (by rw [hl2, ← hlm]; exact hc) hm
    rw [hl2] at this
    rw [show (sortI xs).length = xs.length from by simp [sortI]]
    exact this⟩
end Go.Proofs.YtojehmkkbdedaaaGreat
end

section
namespace Go.Proofs.YtojehmkkbdedaaaGreat
open Go.RowKit R
structure Rng where
  f : ByteArray
  t : ByteArray
instance : GoT Rng where
  n := 2
  pos := by decide
  rep _ _ cs r := cs = [.string r.f, .string r.t] ∧ r.f.size ≤ 9223372036854775807 ∧ r.t.size ≤ 9223372036854775807
  len h := by rw [h.1]; rfl
  one h c hc := by rw [h.1] at hc; simp at hc; rcases hc with rfl | rfl <;> rfl
  mono _ h := h
/-- The two cells of a range in a slice. -/
theorem rng_cells {K : Blocks} {w : World} {a : Option Addr} {len cap : Nat} {l : List Rng} (h : Sl K w (.slice a len cap) l) :
    len = l.length ∧ ∀ (i : Nat) (x : Rng), l[i]? = some x → ∃ b o, a = some ⟨b, o, none⟩ ∧ K b ∧ x.f.size ≤ 9223372036854775807 ∧ x.t.size ≤ 9223372036854775807 ∧ w.cell? ⟨b, o + i * 2, none⟩ = some (.string x.f) ∧ w.cell? ⟨b, o + i * 2 + 1, none⟩ = some (.string x.t) := by
  obtain ⟨hl, h⟩ := h.get
  refine ⟨hl, fun i x hx => ?_⟩
  obtain ⟨b, o, cs, ha, hb, ⟨rfl, h1, h2⟩, hat⟩ := h i x hx
  exact ⟨b, o, ha, hb, h1, h2, hat 0 _ rfl, hat 1 _ rfl⟩
end Go.Proofs.YtojehmkkbdedaaaGreat
namespace Go.Proofs.YtojehmkkbdedaaaGreat
open Go.RowKit R
/-- the first place of which p is true -/
def idxF {α : Type} (p : α → Bool) (l : List α) : Int := match l.findIdx? p with | some i => i | none => -1
def NoneTo {α : Type} (p : α → Bool) (l : List α) (k : Nat) : Prop := ∀ (i : Nat) (x : α), i < k → l[i]? = some x → p x = false
theorem NoneTo.zero {α : Type} (p : α → Bool) (l : List α) : NoneTo p l 0 := fun i x h => by omega
theorem NoneTo.next {α : Type} {p : α → Bool} {l : List α} {k : Nat} (h : NoneTo p l k) {x : α} (hx : l[k]? = some x) (hp : p x = false) : NoneTo p l (k + 1) := fun i y hi hy => by
  by_cases e : i = k
  · subst e; rw [hx] at hy; cases hy; exact hp
  · exact h i y (by omega) hy
theorem NoneTo.found {α : Type} {p : α → Bool} {l : List α} {k : Nat} (h : NoneTo p l k) {x : α} (hx : l[k]? = some x) (hp : p x = true) : idxF p l = k := by
  have hlt : k < l.length := (List.getElem?_eq_some_iff.1 hx).1
  have : l.findIdx? p = some k := by
    rw [List.findIdx?_eq_some_iff_getElem]
    refine ⟨hlt, ?_, fun j hj => ?_⟩
    · have := (List.getElem?_eq_some_iff.1 hx).2; rw [this]; exact hp
    · rw [h j _ hj (List.getElem?_eq_getElem (by omega))]; simp
  unfold idxF; rw [this]
theorem NoneTo.all {α : Type} {p : α → Bool} {l : List α} (h : NoneTo p l l.length) : idxF p l = -1 := by
  have : l.findIdx? p = none := by
    rw [List.findIdx?_eq_none_iff]
    intro x hx
    obtain ⟨i, hi, rfl⟩ := List.getElem_of_mem hx
    exact h i _ hi (List.getElem?_eq_getElem hi)
  unfold idxF; rw [this]
set_option maxHeartbeats 1000000 in
theorem indexR_any (v : Value) (l : List Rng) (K : Blocks) (w : World) (h : Sl K w v l) (F : Nat) (caps : Array Value) (hF : ∀ (args : Array Value) (wy : World), (callFunc F args).run Tryz.prog wy = .ok (.enter F args) wy) (p : Rng → Bool)
    (hp : ∀ (x : Rng) (wy : World), x ∈ l → Ev.Ext w wy → Calls Tryz.prog F (#[.agg #[.string x.f, .string x.t]] ++ caps) wy fun e w' => e = .returned (.bool (p x)) ∧ Ev.Ext wy w') :
    Calls Tryz.prog 59 #[v, .func (.func F) #[] caps] w fun e w' => e = .returned (.int .i64 (idxF p l)) ∧ Ev.Ext w w' := by
  obtain ⟨a, cap, rfl⟩ := h.form
  have hlen := h.len_le
  have HP := Lib.hid hp
  clear hp
  go_enter Tryz.func59, Tryz.ntmps59
  go_wp2_with fail
  go_loopw [4, 8] (fun r i wr => ∃ (k : Nat), r = .int .i64 0 ∧ i = .int .i64 k ∧ k ≤ l.length ∧ Ev.Ext w wr ∧ NoneTo p l k) (fun _ i _ => l.length - (intOf i).toNat)
  case atStart => exact ⟨0, rfl, rfl, by omega, Ev.Ext.refl _, NoneTo.zero p l⟩
  case round =>
    obtain ⟨k, rfl, rfl, hk, hext, hno⟩ := hrel
    by_cases h1 : k < l.length
    · have hx : l[k]? = some l[k] := by simp [h1]
      obtain ⟨b, o, rfl, hKb, hs0, hs1, c0, c1⟩ := (rng_cells h).2 k l[k] hx
      have c0 := cell_later hext c0
      have c1 := cell_later hext c1
      have hc := HP.out l[k] wr (List.getElem_mem h1) hext
      cases hpx : p l[k]
      · rw [hpx] at hc
        have HX := Lib.hid hx
        have HX2 := Lib.hid hpx
        clear hx hpx
        go_wp2_with fail
        refine hc.mono ?_; rintro e w3 ⟨rfl, hb3⟩
        clear hc
        go_wp2
        go_roundw
        case rel => exact ⟨k + 1, rfl, by go_num, by omega, hext.trans hb3, hno.next HX.out HX2.out⟩
        case measure => simp [intOf]; omega
      · rw [hpx] at hc
        have HX := Lib.hid hx
        have HX2 := Lib.hid hpx
        clear hx hpx
        go_wp2_with fail
        refine hc.mono ?_; rintro e w3 ⟨rfl, hb3⟩
        clear hc
        go_wp2
        go_ret
        rw [hno.found HX.out HX2.out]
        exact ⟨rfl, hext.trans hb3⟩
    · obtain rfl : k = l.length := by omega
      go_wp2
      go_ret
      rw [hno.all]
      exact ⟨rfl, hext⟩
def findR (l : List Rng) (key : ByteArray) : Int := idxF (fun r => K.hasB r.f r.t key) l
set_option maxHeartbeats 1000000 in
theorem find1_any (x : Rng) (key : ByteArray) (b : Nat) (w : World) (hk : w.cell? ⟨b, 0, none⟩ = some (.string key)) :
    Calls Tryz.prog 60 #[.agg #[.string x.f, .string x.t], .pointer (some ⟨b, 0, none⟩)] w fun e w' => e = .returned (.bool (K.hasB x.f x.t key)) ∧ Ev.Ext w w' := by
  go_enter Tryz.func60, Tryz.ntmps60
  have hb := World.block_lt_of_cell? w _ hk
  have hk2 : (w.alloc (.cells #[.string x.f, .string x.t] 41)).cell? ⟨b, 0, none⟩ = some (.string key) := cell_later ((Below.refl _ _).alloc (Nat.le_refl _) _) hk
  go_wp2_with (go_at_call 61; refine (has_any _ _ _ _).mono ?_; rintro e w3 ⟨rfl, hb3⟩)
  go_ret
  exact ⟨rfl, below_box hb3⟩
set_option maxHeartbeats 1000000 in
theorem find_any (v : Value) (l : List Rng) (key : ByteArray) (Kb : Blocks) (w : World) (h : Sl Kb w v l) :
    Calls Tryz.prog 44 #[v, .string key] w fun e w' => e = .returned (.int .i64 (findR l key)) ∧ Ev.Ext w w' := by
  have he : Ev.Ext w (w.alloc (.cells #[.string key] 9)) := (Below.refl _ _).alloc (Nat.le_refl _) _
  go_enter Tryz.func44, Tryz.ntmps44
  go_wp2_with fail
  refine (indexR_any v l Kb _ (h.ext he) 60 #[.pointer (some ⟨w.heap.size, 0, none⟩)] (fun _ _ => by kernel_rfl) (fun r => K.hasB r.f r.t key) (fun x wy _ hy => find1_any x key _ wy (cell_later (v := .string key) hy (by simp)))).mono ?_
  rintro e w3 ⟨rfl, hb3⟩
  go_wp2
  go_ret
  exact ⟨rfl, he.trans hb3⟩
end Go.Proofs.YtojehmkkbdedaaaGreat
namespace Go.Proofs.YtojehmkkbdedaaaGreat
open Go.RowKit R
def wholeF : ByteArray → Bool → List Rng → Bool
  | at', _, [] => at'.toList.isEmpty
  | at', fst, r :: l => K.goodB r.f r.t && (r.f.toList == at'.toList && ((fst || !at'.toList.isEmpty) && wholeF r.t false l))
def whole (l : List Rng) : Bool := !l.isEmpty && wholeF ⟨#[]⟩ true l
/-- where Whole's loop stands -/
def WhAt (l : List Rng) (k : Nat) (at' : ByteArray) : Prop := whole l = (!l.isEmpty && wholeF at' (k == 0) (l.drop k))
theorem WhAt.start (l : List Rng) : WhAt l 0 ⟨#[]⟩ := rfl
theorem WhAt.step {l : List Rng} {k : Nat} {at' : ByteArray} (h : WhAt l k at') (hk : k < l.length) :
    whole l = (K.goodB l[k].f l[k].t && (l[k].f.toList == at'.toList && (((k == 0) || !at'.toList.isEmpty) && (!l.isEmpty && wholeF l[k].t false (l.drop (k + 1)))))) := by
  unfold WhAt at h
  rw [h, List.drop_eq_getElem_cons hk, wholeF]
  cases l.isEmpty <;> cases K.goodB l[k].f l[k].t <;> cases (l[k].f.toList == at'.toList) <;> simp
theorem WhAt.next {l : List Rng} {k : Nat} {at' : ByteArray} (h : WhAt l k at') (hk : k < l.length) (hg : K.goodB l[k].f l[k].t = true) (he : (l[k].f.toList == at'.toList) = true) (hf : ((k == 0) || !at'.toList.isEmpty) = true) : WhAt l (k + 1) l[k].t := by
  have := h.step hk
  rw [hg, he, hf] at this
  simpa [WhAt] using this
theorem WhAt.no {l : List Rng} {k : Nat} {at' : ByteArray} (h : WhAt l k at') (hk : k < l.length) (hg : K.goodB l[k].f l[k].t = false ∨ (l[k].f.toList == at'.toList) = false ∨ ((k == 0) || !at'.toList.isEmpty) = false) : whole l = false := by
  have := h.step hk
  rcases hg with hg | hg | hg <;> rw [hg] at this <;> simpa using this
theorem WhAt.done {l : List Rng} {at' : ByteArray} (h : WhAt l l.length at') : whole l = (!l.isEmpty && at'.toList.isEmpty) := by
  unfold WhAt at h
  rw [h, List.drop_length, wholeF]
set_option maxHeartbeats 1000000 in
theorem whole_any (v : Value) (l : List Rng) (Kb : Blocks) (w : World) (h : Sl Kb w v l) :
    Calls Tryz.prog 63 #[v] w fun e w' => e = .returned (.bool (whole l)) ∧ Ev.Ext w w' := by
  obtain ⟨a, cap, rfl⟩ := h.form
  have hlen := h.len_le
  go_enter Tryz.func63, Tryz.ntmps63
  go_wp2_with fail
  go_loopw [2, 3, 8] (fun r s i wr => ∃ (k : Nat) (at' : ByteArray), r = .bool false ∧ s = .string at' ∧ i = .int .i64 k ∧ k ≤ l.length ∧ Ev.Ext w wr ∧ WhAt l k at') (fun _ _ i _ => l.length - (intOf i).toNat)
  case atStart => exact ⟨0, ⟨#[]⟩, rfl, rfl, rfl, by omega, Ev.Ext.refl _, WhAt.start l⟩
  case round =>
    obtain ⟨k, at', rfl, rfl, rfl, hk, hext, hat⟩ := hrel
    by_cases h1 : k < l.length
    · obtain ⟨b, o, rfl, hKb, hs0, hs1, c0, c1⟩ := (rng_cells h).2 k l[k] (by simp [h1])
      have c0 := cell_later hext c0
      have c1 := cell_later hext c1
      go_wp2_with fail
      refine (good_any _ _ hs0 hs1 _).mono ?_; rintro e w3 ⟨rfl, hb3⟩
      obtain ⟨d0, d1⟩ := two_cells hb3
      have hext3 := hext.trans (below_box hb3)
      clear hb3
      cases hg : K.goodB l[k].f l[k].t
      · go_wp2
        go_ret
        rw [hat.no h1 (.inl hg)]
        exact ⟨rfl, hext3⟩
      cases he : (l[k].f.toList == at'.toList)
      · go_wp2
        go_ret
        rw [hat.no h1 (.inr (.inl he))]
        exact ⟨rfl, hext3⟩
      cases hf : ((k == 0) || !at'.toList.isEmpty)
      · have h0 : 0 < k ∧ at'.toList.isEmpty = true := by simp at hf; exact ⟨by omega, by simpa using hf.2⟩
        obtain ⟨h0, h0'⟩ := h0
        have HF := Lib.hid hf
        clear hf
        go_wp2
        go_ret
        rw [hat.no h1 (.inr (.inr HF.out))]
        exact ⟨rfl, hext3⟩
      · have hn := hat.next h1 hg he hf
        have HN := Lib.hid hn
        clear hn
        by_cases h0 : k = 0
        · subst h0
          clear hf
          go_wp2
          go_roundw
          case rel => exact ⟨0 + 1, _, rfl, rfl, by go_num, by omega, hext3, HN.out⟩
          case measure => simp [intOf]; omega
        · have hp : 0 < k := by omega
          have h0' : at'.toList.isEmpty = false := by simpa [h0] using hf
          clear hf h0
          go_wp2
          go_roundw
          case rel => exact ⟨k + 1, _, rfl, rfl, by go_num, by omega, hext3, HN.out⟩
          case measure => simp [intOf]; omega
    · obtain rfl : k = l.length := by omega
      have hd := hat.done
      by_cases h0 : l.length = 0
      · have he : l.isEmpty = true := by simpa using h0
        rw [he] at hd
        have HD := Lib.hid hd
        have h00 : ¬ (0 : Int) < l.length := by omega
        clear hd he h0
        go_wp2
        go_ret
        rw [HD.out]
        exact ⟨by simp, hext⟩
      · have he : l.isEmpty = false := by simpa using h0
        rw [he] at hd
        have HD := Lib.hid hd
        have h00 : (0 : Int) < l.length := by omega
        clear hd he h0
        go_wp2
        all_goals (go_ret; rw [HD.out]; exact ⟨by simp_all, hext⟩)
end Go.Proofs.YtojehmkkbdedaaaGreat
end

section
namespace Go.Proofs.YtojehmkkbdedaaaGreat
open Go.RowKit A
def Rng.row (r : Rng) : List AV := [tv r.f, tv r.t]
structure SRow where
  ranges : List Rng
  owners : List Int
  parents : List Int
def SRow.row (c : SRow) : List AV := [.sl 2 (c.ranges.map Rng.row), .sl 1 (c.owners.map fun x => [iv x]), .sl 1 (c.parents.map fun x => [iv x])]
structure SOp where
  kind : Int
  client : Int
  site : Int
  to' : Int
  at' : Int
  how : Int
  key : ByteArray
  value : ByteArray
  keys : List ByteArray
  c : SRow
def SOp.row (o : SOp) : List AV := [iv o.kind, iv o.client, iv o.site, iv o.to', iv o.at', iv o.how, tv o.key, tv o.value, .sl 1 (o.keys.map fun s => [tv s]), .sl 2 (o.c.ranges.map Rng.row), .sl 1 (o.c.owners.map fun x => [iv x]), .sl 1 (o.c.parents.map fun x => [iv x])]
namespace S
def short (s : ByteArray) : ByteArray := s.extract 0 40
def cutR (r : Rng) : Rng := ⟨short r.f, short r.t⟩
def few (o : SOp) : SOp := ⟨o.kind, o.client, o.site, o.to', o.at', o.how, short o.key, short o.value, (o.keys.take 9).map short, ⟨(o.c.ranges.take 9).map cutR, o.c.owners.take 9, o.c.parents.take 9⟩⟩
def empty (c : SRow) : Bool := decide (c.ranges.length + c.owners.length + c.parents.length = 0)
def numbers (o : SOp) : List Int := [o.kind, o.client, o.site, o.to', o.at', o.how]
end S
/-- The first place of which p is true; -1: there is none. -/
def S.find {α : Type} (p : α → Bool) (l : List α) : Int := if l.any p then (l.findIdx p : Int) else -1
theorem S.find_at {α : Type} {p : α → Bool} {l : List α} {k : Nat} (hk : k < l.length) (h : p l[k] = true) (hb : ∀ j (h : j < l.length), j < k → p l[j] = false) : (k : Int) = S.find p l := by
  unfold S.find
  rw [if_pos (List.any_eq_true.2 ⟨_, List.getElem_mem hk, h⟩)]
  have e : l.findIdx p = k := by
    rw [List.findIdx_eq hk]
    exact ⟨h, fun j hj => hb j (by omega) hj⟩
  rw [e]
theorem S.find_no {α : Type} {p : α → Bool} {l : List α} (hb : ∀ j (h : j < l.length), j < l.length → p l[j] = false) : (-1 : Int) = S.find p l := by
  unfold S.find
  rw [if_neg]
  intro h
  obtain ⟨x, hx, hp⟩ := List.any_eq_true.1 h
  obtain ⟨i, hi, rfl⟩ := List.getElem_of_mem hx
  rw [hb i hi hi] at hp; cases hp
theorem S.find_any {α : Type} {p : α → Bool} {l : List α} : decide (0 ≤ S.find p l) = l.any p := by
  unfold S.find
  cases h : l.any p
  · simp
  · simp
set_option maxRecDepth 100000 in
theorem indexI_a (l : List Int) (f : FuncId) (caps : List AV) (p : Int → Bool) (hf : ∀ x, ACall Tryz.prog f ([iv x] ++ caps) (bv (p x))) : ACall Tryz.prog 52 [.sl 1 (l.map fun x => [iv x]), .fn f caps] (iv (S.find p l)) := by
  refine ACall_enter (fun _ _ => by kernel_rfl) Tryz.func52 rfl Tryz.ntmps52 Tryz.results52 (Nat.le_of_ble_eq_true rfl) (fun hok M0 w0 hnl => ?_)
  have hlen := (hok _ (List.mem_cons_self ..)).len
  rw [List.length_map] at hlen
  refine Aw_seq (Aw_region ?_)
  refine Al_p Pu_mvr ?_
  refine Al_nil (Aw_seq (Aw_seq (Aw_region ?_)))
  refine Al_p Pu_mvl ?_
  refine Al_p (Pu_len rfl Tryz.underlying22 rfl (by first | exact List.length_map .. | exact rfl)) ?_
  refine Al_p Pu_mvl ?_
  refine Al_nil (Aw_block ?_)
  refine Aw_loopk (ι := Nat) [0, 1, 7] [] (fun k => [(8, .d (iv k))]) (fun k => []) (fun k => k ≤ l.length ∧ ∀ j (h : j < l.length), j < k → p l[j] = false) (fun k => l.length - k) (0) (⟨Nat.zero_le _, by intros; omega⟩) ⟨Sub.rfl, trivial⟩ trivial ?_
  rintro k ⟨hk0, hk2⟩
  refine Aw_seq (Aw_region ?_)
  refine Al_p (Pu_cmp rfl rfl rfl rfl) ?_
  refine Al_nil (Aw_seq ?_)
  refine Aw_cond rfl (fun h9 => ?_) (fun h9 => ?_)
  · (try simp only [decide_eq_true_eq, decide_eq_false_iff_not, Bool.and_eq_true, Bool.or_eq_true, Bool.and_eq_false_iff, Bool.or_eq_false_iff, Bool.not_eq_true', Bool.not_eq_false', beq_iff_eq, Bool.not_eq_eq_eq_not, Bool.not_true, Bool.not_false, List.length_map, Bool.and_true, Bool.and_false, Bool.false_and, Bool.true_and, Bool.or_false, Bool.false_or] at h9)
    have hk : k < l.length := by omega
    refine Aw_skip (Aw_seq (Aw_block (Aw_seq (Aw_region ?_))))
    refine Al_p Pu_mvl ?_
    refine Al_p Pu_mvr ?_
    refine Al_nil (Aw_seq (Aw_region ?_))
    refine Al_p Pu_mvl ?_
    refine Al_p Pu_mvl ?_
    refine Al_p Pu_mvl ?_
    refine Al_p (Pu_index rfl Tryz.underlying22 Tryz.sizeOf3 rfl rfl (rfl) (mapget hk)) ?_
    refine Al_p (Pu_load1 rfl Tryz.isAgg3 rfl rfl) ?_
    refine Al_p (Pu_callv (aa := [iv l[k]]) (caps := caps) (hf l[k]) rfl rfl ⟨Sub.rfl, trivial⟩) ?_
    refine Al_nil ?_
    refine Aw_cond rfl (fun h16 => ?_) (fun h16 => ?_)
    · skip
      refine Aw_seq (Aw_region ?_)
      refine Al_p Pu_mvl ?_
      refine Al_p Pu_mvr ?_
      refine Al_nil ?_
      refine Aw_ret ?_
      exact Sub.num (S.find_at hk h16 hk2) -- ret 0
    · skip
      have h16' : p l[k] = false := h16
      refine Aw_skip (Aw_region ?_)
      refine Al_p (Pu_add rfl rfl rfl (fun h1 h2 => by simp only [A.inI, A.maxI] at *; omega)) ?_
      refine Al_p Pu_mvl ?_
      refine Al_nil ?_
      exact ⟨k + 1, ⟨by omega, fun j hj hjk => by
        by_cases e : j = k
        · subst e; exact h16'
        · exact hk2 j hj (by omega)⟩, by omega, Le.ov ⟨Sub.num (by omega), trivial⟩ ⟨Sub.rfl, Sub.rfl, Sub.rfl, trivial⟩ trivial trivial⟩ -- loop 0 next.0
  · (try simp only [decide_eq_true_eq, decide_eq_false_iff_not, Bool.and_eq_true, Bool.or_eq_true, Bool.and_eq_false_iff, Bool.or_eq_false_iff, Bool.not_eq_true', Bool.not_eq_false', beq_iff_eq, Bool.not_eq_eq_eq_not, Bool.not_true, Bool.not_false, List.length_map, Bool.and_true, Bool.and_false, Bool.false_and, Bool.true_and, Bool.or_false, Bool.false_or] at h9)
    obtain rfl : k = l.length := by omega
    refine Aw_exit (Aw_seq (Aw_region ?_))
    refine Al_p Pu_mvr ?_
    refine Al_nil ?_
    refine Aw_ret ?_
    exact Sub.num (S.find_no hk2) -- ret 1
set_option maxRecDepth 100000 in
theorem containsI_a (l : List Int) (f : FuncId) (caps : List AV) (p : Int → Bool) (hf : ∀ x, ACall Tryz.prog f ([iv x] ++ caps) (bv (p x))) : ACall Tryz.prog 30 [.sl 1 (l.map fun x => [iv x]), .fn f caps] (bv (l.any p)) := by
  refine ACall_enter (fun _ _ => by kernel_rfl) Tryz.func30 rfl Tryz.ntmps30 Tryz.results30 (Nat.le_of_ble_eq_true rfl) (fun hok M0 w0 hnl => ?_)
  refine Aw_seq (Aw_region ?_)
  refine Al_p Pu_mvr ?_
  refine Al_nil (Aw_seq (Aw_region ?_))
  refine Al_p Pu_mvl ?_
  refine Al_p Pu_mvl ?_
  refine Al_p (Pu_call (indexI_a l f caps p hf) rfl ⟨Sub.rfl, Sub.rfl, trivial⟩) ?_
  refine Al_p (Pu_cmp rfl rfl rfl rfl) ?_
  refine Al_p Pu_mvr ?_
  refine Al_nil ?_
  refine Aw_ret ?_
  exact Sub.bool S.find_any -- ret 0
end Go.Proofs.YtojehmkkbdedaaaGreat
end

section
namespace Go.Proofs.YtojehmkkbdedaaaGreat
open Go.RowKit A R
open A.RowT
abbrev VK := ByteArray × Int × Int
def vkv (a : VK) : Value := .agg #[.string a.1, .int .i64 a.2.1, .int .i64 a.2.2]
def vok3 (a : VK) : Prop := a.1.size ≤ 9223372036854775807 ∧ A.inI a.2.1 ∧ A.inI a.2.2
theorem vkv_inj (a b : VK) (h : vkv a = vkv b) : a = b := by
  obtain ⟨a1, a2, a3⟩ := a
  obtain ⟨b1, b2, b3⟩ := b
  simp [vkv] at h
  simp [h]
theorem ver_lit (a : VK) (h : vok3 a) : ∃ l, keyOf Tryz.prog 129 (vkv a) = some l := by
  obtain ⟨a1, a2, a3⟩ := a
  obtain ⟨h1, h2, h3⟩ := h
  have w2 : (Lit.int .i64 a2).wf = true := by simp only [Lit.wf, Bool.and_eq_true, decide_eq_true_eq]; exact h2
  have w3 : (Lit.int .i64 a3).wf = true := by simp only [Lit.wf, Bool.and_eq_true, decide_eq_true_eq]; exact h3
  have k1 : Tryz.prog.keyType 129 = true := by kernel_rfl
  have k2 : (vkv (a1, a2, a3)).formed Tryz.prog 129 = true := by kernel_rfl
  have c1 : Tryz.prog.cellsOf 129 = 3 := by kernel_rfl
  have c2 : Tryz.prog.cellsOf 43 = 2 := by kernel_rfl
  have c3 : Tryz.prog.cellsOf 9 = 1 := by kernel_rfl
  have c4 : Tryz.prog.cellsOf 3 = 1 := by kernel_rfl
  have hl : ∃ n, Tryz.prog.types.size + 1 = n + 3 := ⟨Tryz.prog.types.size - 2, by have : 2 ≤ Tryz.prog.types.size := Nat.le_of_ble_eq_true (by kernel_rfl); omega⟩
  obtain ⟨n, hn⟩ := hl
  have h1' : a1.size ≤ maxLen := h1
  unfold keyOf
  simp only [Tryz.underlying129, k1, k2, Bool.and_self, if_true, hn]
  simp [vkv, Value.cells, Program.keyLits, Tryz.underlying129, Tryz.underlying43, Tryz.underlying9, Tryz.underlying3, c1, c2, c3, c4, h1', w2, w3]
  rw [if_pos (by decide)]
  exact ⟨_, rfl⟩
theorem ver_key : KeyT Tryz.prog 129 VK vkv vok3 :=
  .of (Go.Maps.Keyed.of_law (deep_law_laid (by kernel_rfl) (m := 3) (by decide) (Nat.lt_of_lt_of_le (Nat.lt_succ_self _) (Nat.le_of_ble_eq_true (by kernel_rfl))) (by kernel_rfl) (by rw [Tryz.underlying129]))) ver_lit vkv_inj
set_option maxRecDepth 100000 in
theorem indexv_a (l : List Int) (x : Int) : ACall Tryz.prog 92 [.sl 1 (l.map fun x => [iv x]), iv x] (iv (S.find (fun y => decide (x = y)) l)) := by
  refine ACall_enter (fun _ _ => by kernel_rfl) Tryz.func92 rfl Tryz.ntmps92 Tryz.results92 (Nat.le_of_ble_eq_true rfl) (fun hok M0 w0 hnl => ?_)
  have hlen := (hok _ (List.mem_cons_self ..)).len
  rw [List.length_map] at hlen
  refine Aw_seq (Aw_region ?_)
  refine Al_p Pu_mvr ?_
  refine Al_nil (Aw_seq (Aw_seq (Aw_region ?_)))
  refine Al_p Pu_mvl ?_
  refine Al_p (Pu_len rfl Tryz.underlying22 rfl (by first | exact List.length_map .. | exact rfl)) ?_
  refine Al_p Pu_mvl ?_
  refine Al_nil (Aw_block ?_)
  refine Aw_loopk (ι := Nat) [0, 1, 7] [] (fun k => [(8, .d (iv k))]) (fun k => []) (fun k => k ≤ l.length ∧ ∀ j (h : j < l.length), j < k → (fun y => decide (x = y)) l[j] = false) (fun k => l.length - k) (0) (⟨Nat.zero_le _, by intros; omega⟩) ⟨Sub.rfl, trivial⟩ trivial ?_
  rintro k ⟨hk0, hk2⟩
  refine Aw_seq (Aw_region ?_)
  refine Al_p (Pu_cmp rfl rfl rfl rfl) ?_
  refine Al_nil (Aw_seq ?_)
  refine Aw_cond rfl (fun h9 => ?_) (fun h9 => ?_)
  · (try simp only [decide_eq_true_eq, decide_eq_false_iff_not, Bool.and_eq_true, Bool.or_eq_true, Bool.and_eq_false_iff, Bool.or_eq_false_iff, Bool.not_eq_true', Bool.not_eq_false', beq_iff_eq, Bool.not_eq_eq_eq_not, Bool.not_true, Bool.not_false, List.length_map, Bool.and_true, Bool.and_false, Bool.false_and, Bool.true_and, Bool.or_false, Bool.false_or] at h9)
    have hk : k < l.length := by omega
    refine Aw_skip (Aw_seq (Aw_block (Aw_seq (Aw_region ?_))))
    refine Al_p Pu_mvl ?_
    refine Al_p Pu_mvr ?_
    refine Al_nil (Aw_seq (Aw_region ?_))
    refine Al_p Pu_mvl ?_
    refine Al_p Pu_mvl ?_
    refine Al_p Pu_mvl ?_
    refine Al_p (Pu_index rfl Tryz.underlying22 Tryz.sizeOf3 rfl rfl (rfl) (mapget hk)) ?_
    refine Al_p (Pu_load1 rfl Tryz.isAgg3 rfl rfl) ?_
    refine Al_p (Pu_cmp rfl rfl rfl rfl) ?_
    refine Al_nil ?_
    refine Aw_cond rfl (fun h16 => ?_) (fun h16 => ?_)
    · skip
      refine Aw_seq (Aw_region ?_)
      refine Al_p Pu_mvl ?_
      refine Al_p Pu_mvr ?_
      refine Al_nil ?_
      refine Aw_ret ?_
      exact Sub.num (S.find_at (p := fun y => decide (x = y)) hk h16 hk2) -- ret 0
    · skip
      have h16' : decide (x = l[k]) = false := h16
      refine Aw_skip (Aw_region ?_)
      refine Al_p (Pu_add rfl rfl rfl (fun h1 h2 => by simp only [A.inI, A.maxI] at *; omega)) ?_
      refine Al_p Pu_mvl ?_
      refine Al_nil ?_
      exact ⟨k + 1, ⟨by omega, fun j hj hjk => by
        by_cases e : j = k
        · subst e; exact h16'
        · exact hk2 j hj (by omega)⟩, by omega, Le.ov ⟨Sub.num (by omega), trivial⟩ ⟨Sub.rfl, Sub.rfl, Sub.rfl, trivial⟩ trivial trivial⟩ -- loop 0 next.0
  · (try simp only [decide_eq_true_eq, decide_eq_false_iff_not, Bool.and_eq_true, Bool.or_eq_true, Bool.and_eq_false_iff, Bool.or_eq_false_iff, Bool.not_eq_true', Bool.not_eq_false', beq_iff_eq, Bool.not_eq_eq_eq_not, Bool.not_true, Bool.not_false, List.length_map, Bool.and_true, Bool.and_false, Bool.false_and, Bool.true_and, Bool.or_false, Bool.false_or] at h9)
    obtain rfl : k = l.length := by omega
    refine Aw_exit (Aw_seq (Aw_region ?_))
    refine Al_p Pu_mvr ?_
    refine Al_nil ?_
    refine Aw_ret ?_
    exact Sub.num (S.find_no hk2) -- ret 1
set_option maxRecDepth 100000 in
theorem containsv_a (l : List Int) (x : Int) : ACall Tryz.prog 85 [.sl 1 (l.map fun x => [iv x]), iv x] (bv (l.any fun y => decide (x = y))) := by
  refine ACall_enter (fun _ _ => by kernel_rfl) Tryz.func85 rfl Tryz.ntmps85 Tryz.results85 (Nat.le_of_ble_eq_true rfl) (fun hok M0 w0 hnl => ?_)
  refine Aw_seq (Aw_region ?_)
  refine Al_p Pu_mvr ?_
  refine Al_nil (Aw_seq (Aw_region ?_))
  refine Al_p Pu_mvl ?_
  refine Al_p Pu_mvl ?_
  refine Al_p (Pu_call (indexv_a l x) rfl ⟨Sub.rfl, Sub.rfl, trivial⟩) ?_
  refine Al_p (Pu_cmp rfl rfl rfl rfl) ?_
  refine Al_p Pu_mvr ?_
  refine Al_nil ?_
  refine Aw_ret ?_
  exact Sub.bool S.find_any -- ret 0
instance : Inhabited Event := ⟨⟨0, 0, ⟨#[]⟩, 0, 0, []⟩⟩
namespace G
def keyE (e : Event) : VK := (e.key, e.n, e.s)
def isW (v : VK) (e : Event) : Bool := decide (e.kind = 1) && decide (keyE e = v)
/-- The first write of a version, of the first so many events. -/
def first (l : List Event) (k : Nat) (v : VK) : Option Nat := (l.take k).findIdx? (isW v)
theorem first_zero (l : List Event) (v : VK) : first l 0 v = none := rfl
theorem first_succ (l : List Event) {k : Nat} (hk : k < l.length) (v : VK) : first l (k + 1) v = (first l k v).or (if isW v l[k] then some k else none) := by
  unfold first
  rw [List.take_succ_eq_append_getElem hk, List.findIdx?_append]
  congr 1
  have hl : (l.take k).length = k := by simp; omega
  rw [hl]
  cases h : isW v l[k] <;> simp [List.findIdx?_cons, h]
/-- The last event of a client, of the first so many. -/
def last (l : List Event) : Nat → Int → Option Nat
  | 0, _ => none
  | k + 1, c => match l[k]? with
    | some e => if e.client = c then some k else last l k c
    | none => last l k c
theorem last_succ (l : List Event) {k : Nat} (hk : k < l.length) (c : Int) : last l (k + 1) c = if l[k].client = c then some k else last l k c := by
  rw [last, List.getElem?_eq_getElem hk]
theorem last_lt {l : List Event} : ∀ {k : Nat} {c : Int} {i : Nat}, last l k c = some i → i < k ∧ ∃ hi : i < l.length, l[i].client = c ∧ ∀ (j : Nat) (hj : j < l.length), i < j → j < k → l[j].client ≠ c
  | 0, c, i, h => by cases h
  | k + 1, c, i, h => by
    rw [last] at h
    split at h
    · rename_i e he
      obtain ⟨hk, rfl⟩ := List.getElem?_eq_some_iff.1 he
      split at h
      · rename_i hc
        cases h
        exact ⟨by omega, hk, hc, fun j hj h1 h2 => by omega⟩
      · rename_i hc
        obtain ⟨h1, hi, h2, h3⟩ := last_lt h
        refine ⟨by omega, hi, h2, fun j hj h4 h5 => ?_⟩
        by_cases e : j = k
        · subst e; exact hc
        · exact h3 j hj h4 (by omega)
    · rename_i he
      have hk := List.getElem?_eq_none_iff.1 he
      obtain ⟨h1, hi, h2, h3⟩ := last_lt h
      exact ⟨by omega, hi, h2, fun j hj h4 h5 => h3 j hj h4 (by omega)⟩
def prev (l : List Event) (j : Nat) : List Int := match last l j (l.getD j default).client with | some i => [(i : Int)] | none => []
/-- Is a read's write one more? -/
def reads (l : List Event) (j : Nat) : Bool := decide ((l.getD j default).kind = 2) && !(decide ((l.getD j default).n = 0) && decide ((l.getD j default).s = 0)) && (match first l l.length (keyE (l.getD j default)) with | some w => decide (w < j) && !((prev l j).any fun y => decide ((w : Int) = y)) | none => false)
def wr (l : List Event) (j : Nat) : Int := match first l l.length (keyE (l.getD j default)) with | some w => (w : Int) | none => 0
def dirs (l : List Event) (j : Nat) : List Int := sortI (prev l j ++ if reads l j then [wr l j] else [])
def nilA : AV := .v (.slice none 0 0)
def dcells (l : List Event) (k : Nat) : List AV := ((List.range k).map fun i => .sl 1 ((dirs l i).map fun x => [iv x])) ++ List.replicate (l.length - k) nilA
theorem dcells_len (l : List Event) {k : Nat} (hk : k ≤ l.length) : (dcells l k).length = l.length := by simp [dcells]; omega
theorem dcells_at (l : List Event) {k : Nat} (hk : k < l.length) : (dcells l k)[k]? = some nilA := by
  unfold dcells
  rw [List.getElem?_append_right (by simp), List.getElem?_replicate, if_pos (by simp; omega)]
theorem dcells_set (l : List Event) {k : Nat} (hk : k < l.length) : (dcells l k).set k (.sl 1 ((dirs l k).map fun x => [iv x])) = dcells l (k + 1) := by
  unfold dcells
  rw [List.range_succ, List.map_append, show l.length - k = (l.length - (k + 1)) + 1 from by omega, List.replicate_succ]
  rw [List.set_append_right _ _ (by simp)]
  simp
theorem reads_eq (l : List Event) (j : Nat) : reads l j = (decide ((l.getD j default).kind = 2) && !((l.getD j default).n == 0 && (l.getD j default).s == 0) && (first l l.length (keyE (l.getD j default))).isSome && decide (wr l j < (j : Int)) && !((prev l j).any fun y => decide (wr l j = y))) := by
  unfold reads wr
  cases first l l.length (keyE (l.getD j default)) with
  | none => simp
  | some w =>
    simp only [Option.isSome_some, Bool.and_true, Int.ofNat_lt, Bool.and_assoc]
    rfl
theorem sub_nil {l : List Event} {j : Nat} (hj : j < l.length) (h : dirs l j = []) : SubL ((dcells l j).map SV.d) ((dcells l (j + 1)).map SV.d) := by
  rw [← dcells_set l hj, h]
  refine SubL.of (by simp) fun i s s' h1 h2 => ?_
  rw [List.getElem?_map] at h1 h2
  obtain ⟨a, ha, rfl⟩ := Option.map_eq_some_iff.1 h1
  obtain ⟨b, hb, rfl⟩ := Option.map_eq_some_iff.1 h2
  by_cases e : j = i
  · subst e
    rw [dcells_at l hj] at ha; cases ha
    rw [List.getElem?_set_self (by rw [dcells_len l (Nat.le_of_lt hj)]; exact hj)] at hb
    cases hb
    exact Sub.nil
  · rw [List.getElem?_set_ne e, ha] at hb
    cases hb
    exact Sub.rfl
theorem wr_eq (l : List Event) (j : Nat) : lookA (fun i : Nat => iv i) (iv 0) (first l l.length (keyE (l.getD j default))) = iv (wr l j) := by
  unfold wr lookA
  cases first l l.length (keyE (l.getD j default)) <;> rfl
end G
theorem A.rowAt {cs : List AV} {j : Nat} {a : AV} (h : cs[j]? = some a) : (cs.map SV.d)[j]? = some (.d a) := by rw [List.getElem?_map, h]; rfl
abbrev okI (a : Int) : Prop := -9223372036854775808 ≤ a ∧ a ≤ 9223372036854775807
set_option maxRecDepth 100000 in
set_option maxHeartbeats 4000000 in
theorem direct_a (l : List Event) (hl : l.length ≤ 1000) : ACall Tryz.prog 73 [.sl 6 (l.map Event.row)] (.sl 1 ((List.range l.length).map fun j => [.sl 1 ((G.dirs l j).map fun x => [iv x])])) := by
  refine ACall_enter (fun _ _ => by kernel_rfl) Tryz.func73 rfl Tryz.ntmps73 Tryz.results73 (Nat.le_of_ble_eq_true rfl) (fun hok M0 w0 hnl => ?_)
  have hrows := (hok _ (List.mem_cons_self ..)).rows
  have hokE : ∀ (k : Nat) (hk : k < l.length), vok3 (G.keyE l[k]) ∧ A.inI l[k].client := fun k hk => by
    have hr := hrows _ (List.mem_map.2 ⟨l[k], List.getElem_mem hk, rfl⟩)
    exact ⟨⟨(hr (tv l[k].key) (by simp [Event.row])).text, (hr (iv l[k].n) (by simp [Event.row])).int, (hr (iv l[k].s) (by simp [Event.row])).int⟩, (hr (iv l[k].client) (by simp [Event.row])).int⟩
  refine Aw_seq (Aw_region ?_)
  refine Al_p Pu_mvr ?_
  refine Al_nil (Aw_seq (Aw_region ?_))
  refine Al_makeMap vkv vok3 (fun i : Nat => iv i) rfl rfl rfl (by decide) (fun b18 g18 => ?_)
  refine Al_makeMap (Value.int .i64) okI (fun i : Nat => iv i) rfl rfl rfl (by decide) (fun b19 g19 => ?_)
  refine Al_p (Pu_buildAg (aa := [(0, _), (1, _)]) rfl Tryz.underlying127 Tryz.zeroValue127 (places127 Tryz.underlying127) (by kernel_rfl) ⟨rfl, rfl, rfl, rfl, trivial⟩ rfl) ?_
  refine Al_alloc rfl rfl rfl (by decide) Tryz.zeroValue127 rfl (by kernel_rfl) (fun g3 => ?_)
  refine Al_storeAg rfl rfl rfl (by kernel_rfl) Tryz.sizeOf127 rfl rfl rfl rfl (Nat.le_of_ble_eq_true rfl) ?_
  refine Al_nil (Aw_seq (Aw_region ?_))
  refine Al_p (Pu_fieldb 0 rfl Tryz.underlying127 rfl rfl Tryz.sizeOf124 rfl) ?_
  refine Al_p (Pu_loadb rfl Tryz.isAgg124 rfl rfl rfl) ?_
  refine Al_p Pu_mvr ?_
  refine Al_nil (Aw_seq (Aw_seq (Aw_region ?_)))
  refine Al_p Pu_mvl ?_
  refine Al_p (Pu_len rfl Tryz.underlying30 rfl (by first | exact List.length_map .. | exact rfl)) ?_
  refine Al_p Pu_mvl ?_
  refine Al_nil (Aw_block ?_)
  refine Aw_loopk (ι := Nat × Nat) [0, 3, 4, 23, 24] [3, 19] (fun (k, n) => [(25, .d (iv k))]) (fun (k, n) => [(18, g18, .op (mapO vkv vok3 (fun i : Nat => iv i) b18 n (G.first l k)))]) (fun (k, n) => k ≤ l.length ∧ n ≤ k) (fun (k, n) => l.length - k) ((0, 0)) (⟨Nat.zero_le _, Nat.le_refl _⟩) ⟨Sub.rfl, trivial⟩ ⟨mapeq rfl (funext fun v => (G.first_zero l v).symm), trivial⟩ ?_
  rintro ⟨k, n⟩ ⟨hk0, hn⟩
  refine Aw_seq (Aw_region ?_)
  refine Al_p (Pu_cmp rfl rfl rfl rfl) ?_
  refine Al_nil (Aw_seq ?_)
  refine Aw_cond rfl (fun h26 => ?_) (fun h26 => ?_)
  · (try simp only [decide_eq_true_eq, decide_eq_false_iff_not, Bool.and_eq_true, Bool.or_eq_true, Bool.and_eq_false_iff, Bool.or_eq_false_iff, Bool.not_eq_true', Bool.not_eq_false', beq_iff_eq, Bool.not_eq_eq_eq_not, Bool.not_true, Bool.not_false, List.length_map, Bool.and_true, Bool.and_false, Bool.false_and, Bool.true_and, Bool.or_false, Bool.false_or] at h26)
    have hk : k < l.length := by omega
    have hfs := G.first_succ l hk
    refine Aw_skip ?_
    -- join 0: live [0, 3, 4, 23, 24, 25], turned []
    refine Aw_seq (Aw_block (Aw_seq (Aw_region ?_)))
    refine Al_p Pu_mvl ?_
    refine Al_p (Pu_index rfl Tryz.underlying30 Tryz.sizeOf51 rfl rfl (rfl) (mapget hk)) ?_
    refine Al_p (Pu_loadN rfl Tryz.isAgg51 Tryz.sizeOf51 rfl (Nat.le_of_ble_eq_true rfl)) ?_
    refine Al_alloc rfl rfl rfl (by decide) Tryz.zeroValue51 rfl (by kernel_rfl) (fun g6 => ?_)
    refine Al_p Pu_mvr ?_
    refine Al_storeN rfl rfl rfl (by kernel_rfl) Tryz.isAgg51 Tryz.sizeOf51 rfl rfl rfl rfl (Nat.le_of_ble_eq_true rfl) ?_
    refine Al_nil (Aw_seq (Aw_region ?_))
    refine Al_p (Pu_fieldb 2 rfl Tryz.underlying51 rfl rfl Tryz.sizeOf9 rfl) ?_
    refine Al_p (Pu_loadb rfl Tryz.isAgg9 rfl rfl rfl) ?_
    refine Al_p (Pu_fieldb 3 rfl Tryz.underlying51 rfl rfl Tryz.sizeOf43 rfl) ?_
    refine Al_p (Pu_loadbN (r := [_, _]) rfl Tryz.isAgg43 Tryz.sizeOf43 rfl rfl rfl rfl) ?_
    refine Al_p (Pu_build (aa := [(0, _), (1, _)]) rfl Tryz.underlying129 Tryz.zeroValue129 (places129 Tryz.underlying129) (by kernel_rfl) ⟨rfl, rfl, rfl, rfl, rfl, rfl, trivial⟩ rfl) ?_
    refine Al_alloc rfl rfl rfl (by decide) Tryz.zeroValue129 rfl (by kernel_rfl) (fun g7 => ?_)
    refine Al_storeN rfl rfl rfl (by kernel_rfl) Tryz.isAgg129 Tryz.sizeOf129 rfl rfl rfl rfl (Nat.le_of_ble_eq_true rfl) ?_
    refine Al_nil (Aw_seq (Aw_region ?_))
    refine Al_p Pu_mvl ?_
    refine Al_p (Pu_loadbN (r := [_, _, _]) rfl Tryz.isAgg129 Tryz.sizeOf129 rfl rfl rfl rfl) ?_
    refine Al_p (Pu_lookup2 (c := G.keyE (l[k]'hk)) ver_key rfl Tryz.underlying124 Tryz.zeroValue3 (fun M w => .v _ (by decide)) rfl rfl rfl (Only.row [.string _, .int .i64 _, .int .i64 _]) (hokE k hk).1) ?_
    refine Al_p Pu_mvl ?_
    refine Al_p (Pu_extract rfl rfl rfl) ?_
    refine Al_p (Pu_extract rfl rfl rfl) ?_
    refine Al_p Pu_mvr ?_
    refine Al_p Pu_mvr ?_
    refine Al_nil (Aw_seq (Aw_region ?_))
    refine Al_p (Pu_fieldb 0 rfl Tryz.underlying51 rfl rfl Tryz.sizeOf3 rfl) ?_
    refine Al_p (Pu_loadb rfl Tryz.isAgg3 rfl rfl rfl) ?_
    refine Al_p (Pu_cmp rfl rfl rfl rfl) ?_
    refine Al_p Pu_mvl ?_
    refine Al_st (St_gd [] rfl rfl rfl rfl trivial (fun hg45 => by exact Pu_move (.inl rfl) (by conv => lhs; whnf))) rfl (by decide) (by kernel_rfl) (by intro j b oj dj h1 h2 h3; cases h1; cases h2; cases h3; decide) ?_
    refine Al_st (St_gd [45] rfl rfl rfl rfl ⟨⟨_, rfl⟩, trivial⟩ (fun hg46 => Pu_not rfl rfl)) rfl (by decide) (by kernel_rfl) (by intro j b oj dj h1 h2 h3; cases h1; cases h2; cases h3; decide) ?_
    refine Al_p (Pu_and rfl rfl rfl rfl) ?_
    refine Al_nil ?_
    refine Aw_cond rfl (fun h47 => ?_) (fun h47 => ?_)
    · skip
      have hw : G.isW (G.keyE (l[k]'hk)) (l[k]'hk) = true := by
        simp only [Bool.and_eq_true] at h47
        simp only [G.isW, h47.1, decide_true, Bool.and_self]
      have hno : G.first l k (G.keyE (l[k]'hk)) = none := by
        simp only [Bool.and_eq_true, Bool.not_eq_true'] at h47
        exact Option.isNone_iff_eq_none.1 (by rw [← Option.not_isSome, h47.2]; rfl)
      refine Aw_region ?_
      refine Al_p Pu_mvl ?_
      refine Al_p (Pu_loadbN (r := [_, _, _]) rfl Tryz.isAgg129 Tryz.sizeOf129 rfl rfl rfl rfl) ?_
      refine Al_p Pu_mvl ?_
      refine Al_mapUpdate (c := G.keyE (l[k]'hk)) (v := k) ver_key rfl rfl rfl (by kernel_rfl) Tryz.underlying124 (by simp only [maxLen]; omega) rfl rfl rfl (Only.row [.string _, .int .i64 _, .int .i64 _]) (hokE k hk).1 Sub.rfl ?_
      refine Al_nil (Aw_region ?_)
      refine Al_p (Pu_add rfl rfl rfl (fun h1 h2 => by simp only [A.inI, A.maxI] at *; omega)) ?_
      refine Al_p Pu_mvl ?_
      refine Al_nil ?_
      exact ⟨(k + 1, n + 1), ⟨by omega, by omega⟩, by simp only []; omega, Le.ov ⟨Sub.num (by omega), trivial⟩ ⟨Sub.rfl, Sub.rfl, Sub.rfl, Sub.rfl, Sub.rfl, trivial⟩ ⟨mapeq rfl (funext fun v => by
        rw [hfs v]
        by_cases e : v = G.keyE (l[k]'hk)
        · subst e; rw [if_pos rfl, hno, hw]; rfl
        · have hnw : G.isW v (l[k]'hk) = false := by unfold G.isW; rw [show decide (G.keyE (l[k]'hk) = v) = false from decide_eq_false fun h => e h.symm, Bool.and_false]
          rw [if_neg e, hnw]; simp), trivial⟩ ⟨rfl, rfl, trivial⟩⟩ -- loop 0 next.0
    · skip
      have hor : ∀ v, (G.first l k v).or (if G.isW v (l[k]'hk) then some k else none) = G.first l k v := fun v => by
        cases hw : G.isW v (l[k]'hk) with
        | false => simp
        | true =>
          unfold G.isW at hw
          simp only [Bool.and_eq_true, decide_eq_true_eq] at hw
          obtain ⟨hw1, rfl⟩ := hw
          cases hf : G.first l k (G.keyE (l[k]'hk)) with
          | some i => rfl
          | none => rw [hf, hw1] at h47; simp at h47
      refine Aw_skip (Aw_region ?_)
      refine Al_p (Pu_add rfl rfl rfl (fun h1 h2 => by simp only [A.inI, A.maxI] at *; omega)) ?_
      refine Al_p Pu_mvl ?_
      refine Al_nil ?_
      exact ⟨(k + 1, n), ⟨by omega, by omega⟩, by simp only []; omega, Le.ov ⟨Sub.num (by omega), trivial⟩ ⟨Sub.rfl, Sub.rfl, Sub.rfl, Sub.rfl, Sub.rfl, trivial⟩ ⟨mapeq rfl (funext fun v => by rw [hfs v, hor v]), trivial⟩ ⟨rfl, rfl, trivial⟩⟩ -- loop 0 next.1
  · (try simp only [decide_eq_true_eq, decide_eq_false_iff_not, Bool.and_eq_true, Bool.or_eq_true, Bool.and_eq_false_iff, Bool.or_eq_false_iff, Bool.not_eq_true', Bool.not_eq_false', beq_iff_eq, Bool.not_eq_eq_eq_not, Bool.not_true, Bool.not_false, List.length_map, Bool.and_true, Bool.and_false, Bool.false_and, Bool.true_and, Bool.or_false, Bool.false_or] at h26)
    obtain rfl : k = l.length := by omega
    refine Aw_exit (Aw_seq (Aw_region ?_))
    refine Al_p Pu_mvl ?_
    refine Al_p (Pu_len rfl Tryz.underlying30 rfl (by first | exact List.length_map .. | exact rfl)) ?_
    refine Al_make1 (n := l.length) (bytes := 24) (z := .slice none 0 0) rfl rfl rfl (by decide) (by kernel_rfl) Tryz.underlying114 (by kernel_rfl) rfl ⟨rfl, rfl⟩ rfl rfl (by omega) (by decide) (fun g54 => ?_)
    refine Al_p Pu_mvr ?_
    refine Al_nil (Aw_seq ?_)
    refine Aw_toRow (k := 54) (g := g54) (aas := G.dcells l 0) (obeq (by simp [G.dcells, G.nilA])) (fun b54 => ?_)
    refine Aw_region ?_
    refine Al_p (Pu_build (aa := []) rfl Tryz.underlying43 Tryz.zeroValue43 (places43 Tryz.underlying43) (by kernel_rfl) trivial rfl) ?_
    refine Al_alloc rfl rfl rfl (by decide) Tryz.zeroValue43 rfl (by kernel_rfl) (fun g11 => ?_)
    refine Al_storeN rfl rfl rfl (by kernel_rfl) Tryz.isAgg43 Tryz.sizeOf43 rfl rfl rfl rfl (Nat.le_of_ble_eq_true rfl) ?_
    refine Al_nil (Aw_seq (Aw_seq (Aw_region ?_)))
    refine Al_p Pu_mvl ?_
    refine Al_p (Pu_len rfl Tryz.underlying30 rfl (by first | exact List.length_map .. | exact rfl)) ?_
    refine Al_p Pu_mvl ?_
    refine Al_nil (Aw_block ?_)
    refine Aw_loopk (ι := Nat × Nat) [3, 4, 10, 11, 56, 57] [3, 18, 11] (fun (j, n2) => [(58, .d (iv j))]) (fun (j, n2) => [(54, g54, .op (rowS b54 22 ((G.dcells l j).map .d))), (19, g19, .op (mapO (Value.int .i64) okI (fun i : Nat => iv i) b19 n2 (G.last l j)))]) (fun (j, n2) => j ≤ l.length ∧ n2 ≤ j) (fun (j, n2) => l.length - j) ((0, 0)) (⟨Nat.zero_le _, Nat.le_refl _⟩) ⟨Sub.rfl, trivial⟩ ⟨rfl, mapeq rfl (funext fun v => rfl), trivial⟩ ?_
    rintro ⟨j, n2⟩ ⟨hk1, hn2⟩
    refine Aw_seq (Aw_region ?_)
    refine Al_p (Pu_cmp rfl rfl rfl rfl) ?_
    refine Al_nil (Aw_seq ?_)
    refine Aw_cond rfl (fun h59 => ?_) (fun h59 => ?_)
    · (try simp only [decide_eq_true_eq, decide_eq_false_iff_not, Bool.and_eq_true, Bool.or_eq_true, Bool.and_eq_false_iff, Bool.or_eq_false_iff, Bool.not_eq_true', Bool.not_eq_false', beq_iff_eq, Bool.not_eq_eq_eq_not, Bool.not_true, Bool.not_false, List.length_map, Bool.and_true, Bool.and_false, Bool.false_and, Bool.true_and, Bool.or_false, Bool.false_or] at h59)
      have hj : j < l.length := by omega
      have hg : l.getD j default = l[j] := by simp [hj]
      have hls := G.last_succ l hj
      have hdl := G.dcells_len l (Nat.le_of_lt hj)
      have hda := A.rowAt (G.dcells_at l hj)
      have hjl : j < ((G.dcells l j).map SV.d).length := by rw [List.length_map, hdl]; exact hj
      have hds := G.dcells_set l hj
      have hwr := G.wr_eq l j
      rw [hg] at hwr
      have hprev : G.prev l j = (match G.last l j l[j].client with | some i => [(i : Int)] | none => []) := by unfold G.prev; rw [hg]
      refine Aw_skip ?_
      -- join 1: live [3, 4, 10, 11, 56, 57, 58], turned []
      refine Aw_seq (Aw_block (Aw_seq (Aw_region ?_)))
      refine Al_p Pu_mvl ?_
      refine Al_p (Pu_index rfl Tryz.underlying30 Tryz.sizeOf51 rfl rfl (rfl) (mapget hj)) ?_
      refine Al_p (Pu_loadN rfl Tryz.isAgg51 Tryz.sizeOf51 rfl (Nat.le_of_ble_eq_true rfl)) ?_
      refine Al_alloc rfl rfl rfl (by decide) Tryz.zeroValue51 rfl (by kernel_rfl) (fun g13 => ?_)
      refine Al_p Pu_mvr ?_
      refine Al_storeN rfl rfl rfl (by kernel_rfl) Tryz.isAgg51 Tryz.sizeOf51 rfl rfl rfl rfl (Nat.le_of_ble_eq_true rfl) ?_
      refine Al_nil (Aw_seq (Aw_region ?_))
      refine Al_p (Pu_fieldb 1 rfl Tryz.underlying127 rfl rfl Tryz.sizeOf125 rfl) ?_
      refine Al_p (Pu_loadb rfl Tryz.isAgg125 rfl rfl rfl) ?_
      refine Al_p (Pu_fieldb 1 rfl Tryz.underlying51 rfl rfl Tryz.sizeOf3 rfl) ?_
      refine Al_p (Pu_loadb rfl Tryz.isAgg3 rfl rfl rfl) ?_
      refine Al_p (Pu_lookup2 (c := (l[j]'hj).client) (int_key0 Tryz.underlying3) rfl Tryz.underlying125 Tryz.zeroValue3 (fun M w => .v _ (by decide)) rfl rfl rfl (Only.v _) (hokE j hj).2) ?_
      refine Al_p Pu_mvl ?_
      refine Al_p (Pu_extract rfl rfl rfl) ?_
      refine Al_p (Pu_extract rfl rfl rfl) ?_
      refine Al_p Pu_mvr ?_
      refine Al_p Pu_mvr ?_
      refine Al_nil ?_
      -- join 2: live [3, 4, 10, 11, 12, 13, 56, 57, 58], turned []
      refine Aw_seq (Aw_seq (Aw_region ?_))
      refine Al_p Pu_mvl ?_
      refine Al_nil ?_
      refine Aw_cond rfl (fun h71 => ?_) (fun h71 => ?_)
      · skip
        obtain ⟨i, hi⟩ := Option.isSome_iff_exists.1 h71
        have hpr : G.prev l j = [(i : Int)] := by rw [hprev, hi]
        rw [hi]
        refine Aw_region ?_
        refine Al_p Pu_mvl ?_
        refine Al_p Pu_mvl ?_
        refine Al_p Pu_mvl ?_
        refine Al_p Pu_mvl ?_
        refine Al_p (Pu_indexRow (j := j) rfl Tryz.underlying114 Tryz.sizeOf22 rfl rfl rfl rfl hjl) ?_
        refine Al_p (Pu_loadRow rfl Tryz.isAgg22 rfl rfl hda) ?_
        refine Al_p Pu_mvl ?_
        refine Al_p (Pu_slice1 rfl Tryz.underlying22 Tryz.sizeOf3 Tryz.zeroValue3 rfl (by decide) (by decide) (by kernel_rfl) rfl rfl rfl) ?_
        refine Al_own (j := 77) (k := 140) (T := 3) (n := 1) rfl (fun g140 => ?_)
        refine Al_append rfl rfl rfl (by decide) (by kernel_rfl) elem22 (by decide) Tryz.sizeOf3 rfl rfl rfl (by simp) (by decide) (fun g80 => ?_)
        refine Al_p (Pu_indexRow (j := j) rfl Tryz.underlying114 Tryz.sizeOf22 rfl rfl rfl rfl hjl) ?_
        refine Al_storeRow rfl rfl rfl (by kernel_rfl) Tryz.sizeOf22 rfl rfl hjl (by conv => lhs; whnf) rfl ?_
        refine Al_nil (Aw_seq (Aw_region ?_))
        refine Al_p (Pu_fieldb 1 rfl Tryz.underlying127 rfl rfl Tryz.sizeOf125 rfl) ?_
        refine Al_p (Pu_loadb rfl Tryz.isAgg125 rfl rfl rfl) ?_
        refine Al_p (Pu_fieldb 1 rfl Tryz.underlying51 rfl rfl Tryz.sizeOf3 rfl) ?_
        refine Al_p (Pu_loadb rfl Tryz.isAgg3 rfl rfl rfl) ?_
        refine Al_p Pu_mvl ?_
        refine Al_mapUpdate (c := (l[j]'hj).client) (v := j) (int_key0 Tryz.underlying3) rfl rfl rfl (by kernel_rfl) Tryz.underlying125 (by simp only [maxLen]; omega) rfl rfl rfl (Only.v _) (hokE j hj).2 Sub.rfl ?_
        refine Al_nil (Aw_seq (Aw_region ?_))
        refine Al_p Pu_mvl ?_
        refine Al_p (Pu_fieldb 2 rfl Tryz.underlying51 rfl rfl Tryz.sizeOf9 rfl) ?_
        refine Al_p (Pu_loadb rfl Tryz.isAgg9 rfl rfl rfl) ?_
        refine Al_p (Pu_fieldb 3 rfl Tryz.underlying51 rfl rfl Tryz.sizeOf43 rfl) ?_
        refine Al_p (Pu_loadbN (r := [_, _]) rfl Tryz.isAgg43 Tryz.sizeOf43 rfl rfl rfl rfl) ?_
        refine Al_p (Pu_build (aa := [(0, _), (1, _)]) rfl Tryz.underlying129 Tryz.zeroValue129 (places129 Tryz.underlying129) (by kernel_rfl) ⟨rfl, rfl, rfl, rfl, rfl, rfl, trivial⟩ rfl) ?_
        refine Al_p (Pu_lookup2 (c := G.keyE (l[j]'hj)) ver_key rfl Tryz.underlying124 Tryz.zeroValue3 (fun M w => .v _ (by decide)) rfl rfl rfl (Only.row [.string _, .int .i64 _, .int .i64 _]) (hokE j hj).1) ?_
        refine Al_p Pu_mvl ?_
        refine Al_p (Pu_extract rfl rfl rfl) ?_
        refine Al_p (Pu_extract rfl rfl rfl) ?_
        refine Al_p Pu_mvr ?_
        refine Al_p Pu_mvr ?_
        refine Al_nil ?_
        -- join 3: live [3, 4, 10, 11, 12, 56, 57, 58], turned []
        refine Aw_seq (Aw_seq ?_)
        rw [hwr]
        have hre := G.reads_eq l j
        rw [hg, hpr] at hre
        refine Aw_region ?_
        refine Al_p (Pu_fieldb 0 rfl Tryz.underlying51 rfl rfl Tryz.sizeOf3 rfl) ?_
        refine Al_p (Pu_loadb rfl Tryz.isAgg3 rfl rfl rfl) ?_
        refine Al_p (Pu_cmp rfl rfl rfl rfl) ?_
        refine Al_p Pu_mvl ?_
        refine Al_st (St_gd [] rfl rfl rfl rfl trivial (fun hg101 => Pu_fieldb 3 rfl Tryz.underlying51 rfl rfl Tryz.sizeOf43 rfl)) rfl (by decide) (by kernel_rfl) (by intro j b oj dj h1 h2 h3; cases h1; cases h2; cases h3; decide) ?_
        refine Al_st (St_gd [101] rfl rfl rfl rfl ⟨⟨_, rfl⟩, trivial⟩ (fun hg102 => Pu_loadbN (r := [_, _]) rfl Tryz.isAgg43 Tryz.sizeOf43 rfl rfl rfl rfl)) rfl (by decide) (by kernel_rfl) (by intro j b oj dj h1 h2 h3; cases h1; cases h2; cases h3; decide) ?_
        refine Al_st (St_gd [] rfl rfl rfl rfl trivial (fun hg103 => Pu_loadbN (r := [_, _]) rfl Tryz.isAgg43 Tryz.sizeOf43 rfl rfl rfl rfl)) rfl (by decide) (by kernel_rfl) (by intro j b oj dj h1 h2 h3; cases h1; cases h2; cases h3; decide) ?_
        refine Al_st (St_gd [102, 103] rfl rfl rfl rfl ⟨⟨_, rfl⟩, ⟨_, rfl⟩, trivial⟩ (fun hg104 => Pu_eqrow [.int .i64 _, .int .i64 _] [.int .i64 _, .int .i64 _] (fun w => nev43 _ _ _ _ _ _ w) rfl rfl rfl)) rfl (by decide) (by kernel_rfl) (by intro j b oj dj h1 h2 h3; cases h1; cases h2; cases h3; decide) ?_
        refine Al_p (Pu_and rfl rfl rfl rfl) ?_
        refine Al_p Pu_mvl ?_
        refine Al_st (St_gd [] rfl rfl rfl rfl trivial (fun hg107 => by exact Pu_move (.inl rfl) (by conv => lhs; whnf))) rfl (by decide) (by kernel_rfl) (by intro j b oj dj h1 h2 h3; cases h1; cases h2; cases h3; decide) ?_
        refine Al_p (Pu_and rfl rfl rfl rfl) ?_
        refine Al_p Pu_mvl ?_
        refine Al_st (St_gd [] rfl rfl rfl rfl trivial (fun hg110 => by exact Pu_move (.inl rfl) (by conv => lhs; whnf))) rfl (by decide) (by kernel_rfl) (by intro j b oj dj h1 h2 h3; cases h1; cases h2; cases h3; decide) ?_
        refine Al_st (St_gd [] rfl rfl rfl rfl trivial (fun hg111 => by exact Pu_move (.inl rfl) (by conv => lhs; whnf))) rfl (by decide) (by kernel_rfl) (by intro j b oj dj h1 h2 h3; cases h1; cases h2; cases h3; decide) ?_
        refine Al_st (St_gd [110, 111] rfl rfl rfl rfl ⟨⟨_, rfl⟩, ⟨_, rfl⟩, trivial⟩ (fun hg112 => Pu_cmp rfl rfl rfl rfl)) rfl (by decide) (by kernel_rfl) (by intro j b oj dj h1 h2 h3; cases h1; cases h2; cases h3; decide) ?_
        refine Al_p (Pu_and rfl rfl rfl rfl) ?_
        refine Al_p Pu_mvl ?_
        refine Al_st (St_gd [] rfl rfl rfl rfl trivial (fun hg115 => by exact Pu_move (.inl rfl) (by conv => lhs; whnf))) rfl (by decide) (by kernel_rfl) (by intro j b oj dj h1 h2 h3; cases h1; cases h2; cases h3; decide) ?_
        refine Al_st (St_gd [] rfl rfl rfl rfl trivial (fun hg116 => by exact Pu_move (.inl rfl) (by conv => lhs; whnf))) rfl (by decide) (by kernel_rfl) (by intro j b oj dj h1 h2 h3; cases h1; cases h2; cases h3; decide) ?_
        refine Al_st (St_gd [115, 116] rfl rfl rfl rfl ⟨⟨_, rfl⟩, ⟨_, rfl⟩, trivial⟩ (fun hg117 => by exact Pu_indexRow (j := j) rfl Tryz.underlying114 Tryz.sizeOf22 rfl rfl rfl rfl (by first | exact hjl | (rw [List.length_set]; exact hjl)))) rfl (by decide) (by kernel_rfl) (by intro j b oj dj h1 h2 h3; cases h1; cases h2; cases h3; decide) ?_
        refine Al_st (St_gd [117] rfl rfl rfl rfl ⟨⟨_, rfl⟩, trivial⟩ (fun hg118 => by exact by first | exact Pu_loadRow rfl Tryz.isAgg22 rfl rfl hda | exact Pu_loadRow rfl Tryz.isAgg22 rfl rfl (List.getElem?_set_self hjl))) rfl (by decide) (by kernel_rfl) (by intro j b oj dj h1 h2 h3; cases h1; cases h2; cases h3; decide) ?_
        refine Al_st (St_gd [] rfl rfl rfl rfl trivial (fun hg119 => by exact Pu_move (.inl rfl) (by conv => lhs; whnf))) rfl (by decide) (by kernel_rfl) (by intro j b oj dj h1 h2 h3; cases h1; cases h2; cases h3; decide) ?_
        refine Al_st (St_gd [118, 119] rfl rfl rfl rfl ⟨⟨_, rfl⟩, ⟨_, rfl⟩, trivial⟩ (fun hg120 => by exact by first | exact Pu_callR (containsv_a [(i : Int)] (G.wr l j)) rfl rfl ⟨.inr ⟨140, g80, _, _, _, rfl, rfl, rfl⟩, .inl Sub.rfl, trivial⟩ | exact Pu_call (containsv_a [] (G.wr l j)) rfl ⟨Sub.nil, Sub.rfl, trivial⟩)) rfl (by decide) (by kernel_rfl) (by intro j b oj dj h1 h2 h3; cases h1; cases h2; cases h3; decide) ?_
        refine Al_st (St_gd [120] rfl rfl rfl rfl ⟨⟨_, rfl⟩, trivial⟩ (fun hg121 => Pu_not rfl rfl)) rfl (by decide) (by kernel_rfl) (by intro j b oj dj h1 h2 h3; cases h1; cases h2; cases h3; decide) ?_
        refine Al_p (Pu_and rfl rfl rfl rfl) ?_
        refine Al_nil ?_
        refine Aw_cond rfl (fun h122 => ?_) (fun h122 => ?_)
        · skip
          have hrd : G.reads l j = true := by rw [hre]; exact h122
          have hdj : G.dirs l j = sortI (G.prev l j ++ [G.wr l j]) := by unfold G.dirs; rw [hrd, if_pos rfl]
          rw [hpr] at hdj
          refine Aw_region ?_
          refine Al_p Pu_mvl ?_
          refine Al_p Pu_mvl ?_
          refine Al_p Pu_mvl ?_
          refine Al_p Pu_mvl ?_
          refine Al_p (Pu_indexRow (j := j) rfl Tryz.underlying114 Tryz.sizeOf22 rfl rfl rfl rfl (by first | exact hjl | (rw [List.length_set]; exact hjl))) ?_
          refine Al_p (by first | exact Pu_loadRow rfl Tryz.isAgg22 rfl rfl hda | exact Pu_loadRow rfl Tryz.isAgg22 rfl rfl (List.getElem?_set_self hjl)) ?_
          refine Al_p Pu_mvl ?_
          refine Al_p (Pu_slice1 rfl Tryz.underlying22 Tryz.sizeOf3 Tryz.zeroValue3 rfl (by decide) (by decide) (by kernel_rfl) rfl rfl rfl) ?_
          (try refine Al_own (j := 128) (k := 140) (T := 3) (n := 1) rfl (fun g140 => ?_))
          refine Al_append rfl rfl rfl (by decide) (by kernel_rfl) elem22 (by decide) Tryz.sizeOf3 rfl rfl rfl (by simp) (by decide) (fun g131 => ?_)
          refine Al_p (Pu_indexRow (j := j) rfl Tryz.underlying114 Tryz.sizeOf22 rfl rfl rfl rfl (by first | exact hjl | (rw [List.length_set]; exact hjl))) ?_
          refine Al_storeRow rfl rfl rfl (by kernel_rfl) Tryz.sizeOf22 rfl rfl (by first | exact hjl | (rw [List.length_set]; exact hjl)) (by conv => lhs; whnf) rfl ?_
          refine Al_nil (Aw_region ?_)
          refine Al_p Pu_mvl ?_
          refine Al_p Pu_mvl ?_
          refine Al_p (Pu_indexRow (j := j) rfl Tryz.underlying114 Tryz.sizeOf22 rfl rfl rfl rfl (by first | exact hjl | (rw [List.length_set]; exact hjl) | (rw [List.length_set, List.length_set]; exact hjl))) ?_
          refine Al_p (by first | exact Pu_loadRow rfl Tryz.isAgg22 rfl rfl hda | exact Pu_loadRow rfl Tryz.isAgg22 rfl rfl (List.getElem?_set_self hjl) | exact Pu_loadRow rfl Tryz.isAgg22 rfl rfl (List.getElem?_set_self (by rw [List.length_set]; exact hjl))) ?_
          (try refine Al_own (j := 136) (k := 140) (T := 3) (n := 1) rfl (fun g140 => ?_))
          first | refine Al_sort (k := 140) (xs := [(i : Int), G.wr l j]) sortI_in (sortI_same _) rfl rfl rfl (by decide) rfl rfl rfl (by simp) ?_ | refine Al_sort (k := 140) (xs := [(i : Int)]) sortI_in (sortI_same _) rfl rfl rfl (by decide) rfl rfl rfl (by simp) ?_ | refine Al_sort (k := 140) (xs := [G.wr l j]) sortI_in (sortI_same _) rfl rfl rfl (by decide) rfl rfl rfl (by simp) ?_ | refine Al_sort (k := 140) (xs := []) sortI_in (sortI_same _) rfl rfl rfl (by decide) rfl rfl rfl (by simp) ?_
          refine Al_nil ?_
          first
          | (refine Aw_frzS (k := 140) (kb := 54) j hnl [] rfl rfl rfl (List.getElem?_set_self (by first | exact hjl | (rw [List.length_set]; exact hjl))) trivial ?_
             refine Aw_rowLe (k := 54) ((G.dcells l (j + 1)).map SV.d) rfl (by rw [← hds, hdj]; simp only [List.set_set, List.map_set]; exact SubL.refl _) ?_)
          | refine Aw_rowLe (k := 54) ((G.dcells l (j + 1)).map SV.d) rfl (G.sub_nil hj (by rw [hdj]; simp [sortI])) ?_
          refine Aw_region ?_
          refine Al_p (Pu_add rfl rfl rfl (fun h1 h2 => by simp only [A.inI, A.maxI] at *; omega)) ?_
          refine Al_p Pu_mvl ?_
          refine Al_nil ?_
          exact ⟨(j + 1, n2 + 1), ⟨by omega, by omega⟩, by simp only []; omega, Le.ov ⟨Sub.num (by omega), trivial⟩ ⟨Sub.rfl, Sub.rfl, Sub.rfl, Sub.rfl, Sub.rfl, Sub.rfl, trivial⟩ ⟨rfl, mapeq rfl (funext fun c => by rw [hls c]; simp only [eq_comm]), trivial⟩ ⟨rfl, rfl, rfl, trivial⟩⟩ -- loop 1 next.0
        · skip
          have hrd : G.reads l j = false := by rw [hre]; exact h122
          have hdj : G.dirs l j = sortI (G.prev l j ++ []) := by unfold G.dirs; rw [hrd, if_neg (by decide)]
          rw [hpr] at hdj
          refine Aw_skip (Aw_region ?_)
          refine Al_p Pu_mvl ?_
          refine Al_p Pu_mvl ?_
          refine Al_p (Pu_indexRow (j := j) rfl Tryz.underlying114 Tryz.sizeOf22 rfl rfl rfl rfl (by first | exact hjl | (rw [List.length_set]; exact hjl) | (rw [List.length_set, List.length_set]; exact hjl))) ?_
          refine Al_p (by first | exact Pu_loadRow rfl Tryz.isAgg22 rfl rfl hda | exact Pu_loadRow rfl Tryz.isAgg22 rfl rfl (List.getElem?_set_self hjl) | exact Pu_loadRow rfl Tryz.isAgg22 rfl rfl (List.getElem?_set_self (by rw [List.length_set]; exact hjl))) ?_
          (try refine Al_own (j := 136) (k := 140) (T := 3) (n := 1) rfl (fun g140 => ?_))
          first | refine Al_sort (k := 140) (xs := [(i : Int), G.wr l j]) sortI_in (sortI_same _) rfl rfl rfl (by decide) rfl rfl rfl (by simp) ?_ | refine Al_sort (k := 140) (xs := [(i : Int)]) sortI_in (sortI_same _) rfl rfl rfl (by decide) rfl rfl rfl (by simp) ?_ | refine Al_sort (k := 140) (xs := [G.wr l j]) sortI_in (sortI_same _) rfl rfl rfl (by decide) rfl rfl rfl (by simp) ?_ | refine Al_sort (k := 140) (xs := []) sortI_in (sortI_same _) rfl rfl rfl (by decide) rfl rfl rfl (by simp) ?_
          refine Al_nil ?_
          first
          | (refine Aw_frzS (k := 140) (kb := 54) j hnl [] rfl rfl rfl (List.getElem?_set_self (by first | exact hjl | (rw [List.length_set]; exact hjl))) trivial ?_
             refine Aw_rowLe (k := 54) ((G.dcells l (j + 1)).map SV.d) rfl (by rw [← hds, hdj]; simp only [List.set_set, List.map_set]; exact SubL.refl _) ?_)
          | refine Aw_rowLe (k := 54) ((G.dcells l (j + 1)).map SV.d) rfl (G.sub_nil hj (by rw [hdj]; simp [sortI])) ?_
          refine Aw_region ?_
          refine Al_p (Pu_add rfl rfl rfl (fun h1 h2 => by simp only [A.inI, A.maxI] at *; omega)) ?_
          refine Al_p Pu_mvl ?_
          refine Al_nil ?_
          exact ⟨(j + 1, n2 + 1), ⟨by omega, by omega⟩, by simp only []; omega, Le.ov ⟨Sub.num (by omega), trivial⟩ ⟨Sub.rfl, Sub.rfl, Sub.rfl, Sub.rfl, Sub.rfl, Sub.rfl, trivial⟩ ⟨rfl, mapeq rfl (funext fun c => by rw [hls c]; simp only [eq_comm]), trivial⟩ ⟨rfl, rfl, rfl, trivial⟩⟩ -- loop 1 next.1
      · skip
        have hi : G.last l j (l[j]'hj).client = none := Option.isNone_iff_eq_none.1 (by rw [← Option.not_isSome, h71]; rfl)
        have hpr : G.prev l j = [] := by rw [hprev, hi]
        rw [hi]
        refine Aw_skip (Aw_seq (Aw_region ?_))
        refine Al_p (Pu_fieldb 1 rfl Tryz.underlying127 rfl rfl Tryz.sizeOf125 rfl) ?_
        refine Al_p (Pu_loadb rfl Tryz.isAgg125 rfl rfl rfl) ?_
        refine Al_p (Pu_fieldb 1 rfl Tryz.underlying51 rfl rfl Tryz.sizeOf3 rfl) ?_
        refine Al_p (Pu_loadb rfl Tryz.isAgg3 rfl rfl rfl) ?_
        refine Al_p Pu_mvl ?_
        refine Al_mapUpdate (c := (l[j]'hj).client) (v := j) (int_key0 Tryz.underlying3) rfl rfl rfl (by kernel_rfl) Tryz.underlying125 (by simp only [maxLen]; omega) rfl rfl rfl (Only.v _) (hokE j hj).2 Sub.rfl ?_
        refine Al_nil (Aw_seq (Aw_region ?_))
        refine Al_p Pu_mvl ?_
        refine Al_p (Pu_fieldb 2 rfl Tryz.underlying51 rfl rfl Tryz.sizeOf9 rfl) ?_
        refine Al_p (Pu_loadb rfl Tryz.isAgg9 rfl rfl rfl) ?_
        refine Al_p (Pu_fieldb 3 rfl Tryz.underlying51 rfl rfl Tryz.sizeOf43 rfl) ?_
        refine Al_p (Pu_loadbN (r := [_, _]) rfl Tryz.isAgg43 Tryz.sizeOf43 rfl rfl rfl rfl) ?_
        refine Al_p (Pu_build (aa := [(0, _), (1, _)]) rfl Tryz.underlying129 Tryz.zeroValue129 (places129 Tryz.underlying129) (by kernel_rfl) ⟨rfl, rfl, rfl, rfl, rfl, rfl, trivial⟩ rfl) ?_
        refine Al_p (Pu_lookup2 (c := G.keyE (l[j]'hj)) ver_key rfl Tryz.underlying124 Tryz.zeroValue3 (fun M w => .v _ (by decide)) rfl rfl rfl (Only.row [.string _, .int .i64 _, .int .i64 _]) (hokE j hj).1) ?_
        refine Al_p Pu_mvl ?_
        refine Al_p (Pu_extract rfl rfl rfl) ?_
        refine Al_p (Pu_extract rfl rfl rfl) ?_
        refine Al_p Pu_mvr ?_
        refine Al_p Pu_mvr ?_
        refine Al_nil ?_
        -- join 3: live [3, 4, 10, 11, 12, 56, 57, 58], turned []
        refine Aw_seq (Aw_seq ?_)
        rw [hwr]
        have hre := G.reads_eq l j
        rw [hg, hpr] at hre
        refine Aw_region ?_
        refine Al_p (Pu_fieldb 0 rfl Tryz.underlying51 rfl rfl Tryz.sizeOf3 rfl) ?_
        refine Al_p (Pu_loadb rfl Tryz.isAgg3 rfl rfl rfl) ?_
        refine Al_p (Pu_cmp rfl rfl rfl rfl) ?_
        refine Al_p Pu_mvl ?_
        refine Al_st (St_gd [] rfl rfl rfl rfl trivial (fun hg101 => Pu_fieldb 3 rfl Tryz.underlying51 rfl rfl Tryz.sizeOf43 rfl)) rfl (by decide) (by kernel_rfl) (by intro j b oj dj h1 h2 h3; cases h1; cases h2; cases h3; decide) ?_
        refine Al_st (St_gd [101] rfl rfl rfl rfl ⟨⟨_, rfl⟩, trivial⟩ (fun hg102 => Pu_loadbN (r := [_, _]) rfl Tryz.isAgg43 Tryz.sizeOf43 rfl rfl rfl rfl)) rfl (by decide) (by kernel_rfl) (by intro j b oj dj h1 h2 h3; cases h1; cases h2; cases h3; decide) ?_
        refine Al_st (St_gd [] rfl rfl rfl rfl trivial (fun hg103 => Pu_loadbN (r := [_, _]) rfl Tryz.isAgg43 Tryz.sizeOf43 rfl rfl rfl rfl)) rfl (by decide) (by kernel_rfl) (by intro j b oj dj h1 h2 h3; cases h1; cases h2; cases h3; decide) ?_
        refine Al_st (St_gd [102, 103] rfl rfl rfl rfl ⟨⟨_, rfl⟩, ⟨_, rfl⟩, trivial⟩ (fun hg104 => Pu_eqrow [.int .i64 _, .int .i64 _] [.int .i64 _, .int .i64 _] (fun w => nev43 _ _ _ _ _ _ w) rfl rfl rfl)) rfl (by decide) (by kernel_rfl) (by intro j b oj dj h1 h2 h3; cases h1; cases h2; cases h3; decide) ?_
        refine Al_p (Pu_and rfl rfl rfl rfl) ?_
        refine Al_p Pu_mvl ?_
        refine Al_st (St_gd [] rfl rfl rfl rfl trivial (fun hg107 => by exact Pu_move (.inl rfl) (by conv => lhs; whnf))) rfl (by decide) (by kernel_rfl) (by intro j b oj dj h1 h2 h3; cases h1; cases h2; cases h3; decide) ?_
        refine Al_p (Pu_and rfl rfl rfl rfl) ?_
        refine Al_p Pu_mvl ?_
        refine Al_st (St_gd [] rfl rfl rfl rfl trivial (fun hg110 => by exact Pu_move (.inl rfl) (by conv => lhs; whnf))) rfl (by decide) (by kernel_rfl) (by intro j b oj dj h1 h2 h3; cases h1; cases h2; cases h3; decide) ?_
        refine Al_st (St_gd [] rfl rfl rfl rfl trivial (fun hg111 => by exact Pu_move (.inl rfl) (by conv => lhs; whnf))) rfl (by decide) (by kernel_rfl) (by intro j b oj dj h1 h2 h3; cases h1; cases h2; cases h3; decide) ?_
        refine Al_st (St_gd [110, 111] rfl rfl rfl rfl ⟨⟨_, rfl⟩, ⟨_, rfl⟩, trivial⟩ (fun hg112 => Pu_cmp rfl rfl rfl rfl)) rfl (by decide) (by kernel_rfl) (by intro j b oj dj h1 h2 h3; cases h1; cases h2; cases h3; decide) ?_
        refine Al_p (Pu_and rfl rfl rfl rfl) ?_
        refine Al_p Pu_mvl ?_
        refine Al_st (St_gd [] rfl rfl rfl rfl trivial (fun hg115 => by exact Pu_move (.inl rfl) (by conv => lhs; whnf))) rfl (by decide) (by kernel_rfl) (by intro j b oj dj h1 h2 h3; cases h1; cases h2; cases h3; decide) ?_
        refine Al_st (St_gd [] rfl rfl rfl rfl trivial (fun hg116 => by exact Pu_move (.inl rfl) (by conv => lhs; whnf))) rfl (by decide) (by kernel_rfl) (by intro j b oj dj h1 h2 h3; cases h1; cases h2; cases h3; decide) ?_
        refine Al_st (St_gd [115, 116] rfl rfl rfl rfl ⟨⟨_, rfl⟩, ⟨_, rfl⟩, trivial⟩ (fun hg117 => by exact Pu_indexRow (j := j) rfl Tryz.underlying114 Tryz.sizeOf22 rfl rfl rfl rfl (by first | exact hjl | (rw [List.length_set]; exact hjl)))) rfl (by decide) (by kernel_rfl) (by intro j b oj dj h1 h2 h3; cases h1; cases h2; cases h3; decide) ?_
        refine Al_st (St_gd [117] rfl rfl rfl rfl ⟨⟨_, rfl⟩, trivial⟩ (fun hg118 => by exact by first | exact Pu_loadRow rfl Tryz.isAgg22 rfl rfl hda | exact Pu_loadRow rfl Tryz.isAgg22 rfl rfl (List.getElem?_set_self hjl))) rfl (by decide) (by kernel_rfl) (by intro j b oj dj h1 h2 h3; cases h1; cases h2; cases h3; decide) ?_
        refine Al_st (St_gd [] rfl rfl rfl rfl trivial (fun hg119 => by exact Pu_move (.inl rfl) (by conv => lhs; whnf))) rfl (by decide) (by kernel_rfl) (by intro j b oj dj h1 h2 h3; cases h1; cases h2; cases h3; decide) ?_
        refine Al_st (St_gd [118, 119] rfl rfl rfl rfl ⟨⟨_, rfl⟩, ⟨_, rfl⟩, trivial⟩ (fun hg120 => by exact by first | exact Pu_callR (containsv_a [(i : Int)] (G.wr l j)) rfl rfl ⟨.inr ⟨140, g80, _, _, _, rfl, rfl, rfl⟩, .inl Sub.rfl, trivial⟩ | exact Pu_call (containsv_a [] (G.wr l j)) rfl ⟨Sub.nil, Sub.rfl, trivial⟩)) rfl (by decide) (by kernel_rfl) (by intro j b oj dj h1 h2 h3; cases h1; cases h2; cases h3; decide) ?_
        refine Al_st (St_gd [120] rfl rfl rfl rfl ⟨⟨_, rfl⟩, trivial⟩ (fun hg121 => Pu_not rfl rfl)) rfl (by decide) (by kernel_rfl) (by intro j b oj dj h1 h2 h3; cases h1; cases h2; cases h3; decide) ?_
        refine Al_p (Pu_and rfl rfl rfl rfl) ?_
        refine Al_nil ?_
        refine Aw_cond rfl (fun h122 => ?_) (fun h122 => ?_)
        · skip
          have hrd : G.reads l j = true := by rw [hre]; exact h122
          have hdj : G.dirs l j = sortI (G.prev l j ++ [G.wr l j]) := by unfold G.dirs; rw [hrd, if_pos rfl]
          rw [hpr] at hdj
          refine Aw_region ?_
          refine Al_p Pu_mvl ?_
          refine Al_p Pu_mvl ?_
          refine Al_p Pu_mvl ?_
          refine Al_p Pu_mvl ?_
          refine Al_p (Pu_indexRow (j := j) rfl Tryz.underlying114 Tryz.sizeOf22 rfl rfl rfl rfl (by first | exact hjl | (rw [List.length_set]; exact hjl))) ?_
          refine Al_p (by first | exact Pu_loadRow rfl Tryz.isAgg22 rfl rfl hda | exact Pu_loadRow rfl Tryz.isAgg22 rfl rfl (List.getElem?_set_self hjl)) ?_
          refine Al_p Pu_mvl ?_
          refine Al_p (Pu_slice1 rfl Tryz.underlying22 Tryz.sizeOf3 Tryz.zeroValue3 rfl (by decide) (by decide) (by kernel_rfl) rfl rfl rfl) ?_
          (try refine Al_own (j := 128) (k := 140) (T := 3) (n := 1) rfl (fun g140 => ?_))
          refine Al_append rfl rfl rfl (by decide) (by kernel_rfl) elem22 (by decide) Tryz.sizeOf3 rfl rfl rfl (by simp) (by decide) (fun g131 => ?_)
          refine Al_p (Pu_indexRow (j := j) rfl Tryz.underlying114 Tryz.sizeOf22 rfl rfl rfl rfl (by first | exact hjl | (rw [List.length_set]; exact hjl))) ?_
          refine Al_storeRow rfl rfl rfl (by kernel_rfl) Tryz.sizeOf22 rfl rfl (by first | exact hjl | (rw [List.length_set]; exact hjl)) (by conv => lhs; whnf) rfl ?_
          refine Al_nil (Aw_region ?_)
          refine Al_p Pu_mvl ?_
          refine Al_p Pu_mvl ?_
          refine Al_p (Pu_indexRow (j := j) rfl Tryz.underlying114 Tryz.sizeOf22 rfl rfl rfl rfl (by first | exact hjl | (rw [List.length_set]; exact hjl) | (rw [List.length_set, List.length_set]; exact hjl))) ?_
          refine Al_p (by first | exact Pu_loadRow rfl Tryz.isAgg22 rfl rfl hda | exact Pu_loadRow rfl Tryz.isAgg22 rfl rfl (List.getElem?_set_self hjl) | exact Pu_loadRow rfl Tryz.isAgg22 rfl rfl (List.getElem?_set_self (by rw [List.length_set]; exact hjl))) ?_
          (try refine Al_own (j := 136) (k := 140) (T := 3) (n := 1) rfl (fun g140 => ?_))
          first | refine Al_sort (k := 140) (xs := [(i : Int), G.wr l j]) sortI_in (sortI_same _) rfl rfl rfl (by decide) rfl rfl rfl (by simp) ?_ | refine Al_sort (k := 140) (xs := [(i : Int)]) sortI_in (sortI_same _) rfl rfl rfl (by decide) rfl rfl rfl (by simp) ?_ | refine Al_sort (k := 140) (xs := [G.wr l j]) sortI_in (sortI_same _) rfl rfl rfl (by decide) rfl rfl rfl (by simp) ?_ | refine Al_sort (k := 140) (xs := []) sortI_in (sortI_same _) rfl rfl rfl (by decide) rfl rfl rfl (by simp) ?_
          refine Al_nil ?_
          first
          | (refine Aw_frzS (k := 140) (kb := 54) j hnl [] rfl rfl rfl (List.getElem?_set_self (by first | exact hjl | (rw [List.length_set]; exact hjl))) trivial ?_
             refine Aw_rowLe (k := 54) ((G.dcells l (j + 1)).map SV.d) rfl (by rw [← hds, hdj]; simp only [List.set_set, List.map_set]; exact SubL.refl _) ?_)
          | refine Aw_rowLe (k := 54) ((G.dcells l (j + 1)).map SV.d) rfl (G.sub_nil hj (by rw [hdj]; simp [sortI])) ?_
          refine Aw_region ?_
          refine Al_p (Pu_add rfl rfl rfl (fun h1 h2 => by simp only [A.inI, A.maxI] at *; omega)) ?_
          refine Al_p Pu_mvl ?_
          refine Al_nil ?_
          exact ⟨(j + 1, n2 + 1), ⟨by omega, by omega⟩, by simp only []; omega, Le.ov ⟨Sub.num (by omega), trivial⟩ ⟨Sub.rfl, Sub.rfl, Sub.rfl, Sub.rfl, Sub.rfl, Sub.rfl, trivial⟩ ⟨rfl, mapeq rfl (funext fun c => by rw [hls c]; simp only [eq_comm]), trivial⟩ ⟨rfl, rfl, rfl, trivial⟩⟩ -- loop 1 next.2
        · skip
          have hrd : G.reads l j = false := by rw [hre]; exact h122
          have hdj : G.dirs l j = sortI (G.prev l j ++ []) := by unfold G.dirs; rw [hrd, if_neg (by decide)]
          rw [hpr] at hdj
          refine Aw_skip (Aw_region ?_)
          refine Al_p Pu_mvl ?_
          refine Al_p Pu_mvl ?_
          refine Al_p (Pu_indexRow (j := j) rfl Tryz.underlying114 Tryz.sizeOf22 rfl rfl rfl rfl (by first | exact hjl | (rw [List.length_set]; exact hjl) | (rw [List.length_set, List.length_set]; exact hjl))) ?_
          refine Al_p (by first | exact Pu_loadRow rfl Tryz.isAgg22 rfl rfl hda | exact Pu_loadRow rfl Tryz.isAgg22 rfl rfl (List.getElem?_set_self hjl) | exact Pu_loadRow rfl Tryz.isAgg22 rfl rfl (List.getElem?_set_self (by rw [List.length_set]; exact hjl))) ?_
          (try refine Al_own (j := 136) (k := 140) (T := 3) (n := 1) rfl (fun g140 => ?_))
          first | refine Al_sort (k := 140) (xs := [(i : Int), G.wr l j]) sortI_in (sortI_same _) rfl rfl rfl (by decide) rfl rfl rfl (by simp) ?_ | refine Al_sort (k := 140) (xs := [(i : Int)]) sortI_in (sortI_same _) rfl rfl rfl (by decide) rfl rfl rfl (by simp) ?_ | refine Al_sort (k := 140) (xs := [G.wr l j]) sortI_in (sortI_same _) rfl rfl rfl (by decide) rfl rfl rfl (by simp) ?_ | refine Al_sort (k := 140) (xs := []) sortI_in (sortI_same _) rfl rfl rfl (by decide) rfl rfl rfl (by simp) ?_
          refine Al_nil ?_
          first
          | (refine Aw_frzS (k := 140) (kb := 54) j hnl [] rfl rfl rfl (List.getElem?_set_self (by first | exact hjl | (rw [List.length_set]; exact hjl))) trivial ?_
             refine Aw_rowLe (k := 54) ((G.dcells l (j + 1)).map SV.d) rfl (by rw [← hds, hdj]; simp only [List.set_set, List.map_set]; exact SubL.refl _) ?_)
          | refine Aw_rowLe (k := 54) ((G.dcells l (j + 1)).map SV.d) rfl (G.sub_nil hj (by rw [hdj]; simp [sortI])) ?_
          refine Aw_region ?_
          refine Al_p (Pu_add rfl rfl rfl (fun h1 h2 => by simp only [A.inI, A.maxI] at *; omega)) ?_
          refine Al_p Pu_mvl ?_
          refine Al_nil ?_
          exact ⟨(j + 1, n2 + 1), ⟨by omega, by omega⟩, by simp only []; omega, Le.ov ⟨Sub.num (by omega), trivial⟩ ⟨Sub.rfl, Sub.rfl, Sub.rfl, Sub.rfl, Sub.rfl, Sub.rfl, trivial⟩ ⟨rfl, mapeq rfl (funext fun c => by rw [hls c]; simp only [eq_comm]), trivial⟩ ⟨rfl, rfl, rfl, trivial⟩⟩ -- loop 1 next.3
    · (try simp only [decide_eq_true_eq, decide_eq_false_iff_not, Bool.and_eq_true, Bool.or_eq_true, Bool.and_eq_false_iff, Bool.or_eq_false_iff, Bool.not_eq_true', Bool.not_eq_false', beq_iff_eq, Bool.not_eq_eq_eq_not, Bool.not_true, Bool.not_false, List.length_map, Bool.and_true, Bool.and_false, Bool.false_and, Bool.true_and, Bool.or_false, Bool.false_or] at h59)
      obtain rfl : j = l.length := by omega
      refine Aw_exit (Aw_seq (Aw_region ?_))
      refine Al_p Pu_mvl ?_
      refine Al_p Pu_mvr ?_
      refine Al_nil ?_
      refine Aw_frzRow hnl (k := 54) [2] rfl ⟨rfl, trivial⟩ ?_
      refine Aw_ret ?_
      exact Sub.d (by simp [G.dcells]) -- ret 0
end Go.Proofs.YtojehmkkbdedaaaGreat
end

section
namespace Go.Proofs.YtojehmkkbdedaaaGreat.A
open Go Go.RowKit
/-- A call that is lent objects, and leaves one of several. -/
def GCallE (P : Program) (f : FuncId) (ins : List SV) (obs : Obs) {ι : Type} (R : ι → Option (Obs × SV)) : Prop :=
  (∀ (vs : Array Value) (w : World), (callFunc f vs).run P w = .ok (.enter f vs) w) ∧
  ∀ (M : Nat → Prop) (w : World) (ρ : Rho) (vs : List Value), (∀ b, M b → b < w.heap.size) → Bnd ρ → ARep M w ρ ins vs → Objs ⟨w, fun _ => True, [], fun _ _ => none⟩ M w ρ obs → (∀ b, fps ρ obs b → M b) → Apart ρ obs →
    Calls P f vs.toArray w fun e w' => ExtL ⟨w, fps ρ obs, [], fun _ _ => none⟩ w' ∧ ∃ i, GPost M w ρ obs w' e (R i)
theorem GCall.e {P : Program} {f : FuncId} {ins : List SV} {obs : Obs} {ι : Type} {R : ι → Option (Obs × SV)} (i : ι) (h : GCall P f ins obs (R i)) : GCallE P f ins obs R := ⟨h.1, fun M w ρ vs h1 h2 h3 h4 h5 h6 => (h.2 M w ρ vs h1 h2 h3 h4 h5 h6).mono fun e w' ⟨h7, h8⟩ => ⟨h7, i, h8⟩⟩
section
variable {P : Program} {N : Nat} {M0 : Nat → Prop} {w0 : Base} {ops : Array Oper} {Q : Exit → ASt → Prop} {o : Oper} {l : List Oper} {st : ASt}
theorem gcallE_at {ι : Type} {f : FuncId} {ins : List SV} {obs : Obs} {obs' : ι → Obs} {res : ι → SV} {pm : Pm} {nw : List (Nat × Nat)} {d : Nat} {a : Act} {w : World} {ρ : Rho} {vs : List Value} (hG : GCallE P f ins obs fun i => some (obs' i, res i)) (hsim : SimR N M0 w0 st ρ a w) (hd : o.dst = some d) (hN : d < N) (hg : o.guard = none)
    (hpre : PreO st (nmOf pm) obs) (hB : ∀ i, nmB obs (obs' i) pm nw = true) (hb1 : (obs.all fun p => (lookR pm p.1).isSome) = true) (hb5 : nodupB (pm.map (·.2.1)) = true) (hrun : (execOp a.eval o).run P w = .ok (.enter f vs.toArray) w) (hargs : ARep (Mt M0 ρ st.ob) w ρ (ins.map (SV.ren (nmOf pm))) vs)
    (h : ∀ i G, Al P N M0 w0 ops Q l ((st.aft pm (obs' i) (nm2 pm nw G)).set d ((res i).ren (nm2 pm nw G)))) : wpList P ops (QL N M0 w0 Q) (o :: l) a w := by
  obtain ⟨l1, l2, l3, l4, l5⟩ := hsim.lent ⟨hpre, fun p hp => List.all_eq_true.1 hb1 p hp⟩ hb5
  have hcall := hG.2 (Mt M0 ρ st.ob) w (pull (nmOf pm) ρ) vs hsim.mt_lt (nmOf_bnd hsim.gens) hargs.ren l1 l2 l3
  refine wpList_plain hg fun K hK => wp_upon ?_
  rw [hrun]
  refine hcall.mono fun e w' ⟨hx, ix, v, he, ho⟩ => ⟨v, he, ?_⟩
  obtain ⟨G, ρ', hs', hr'⟩ := hsim.aft hpre (hB ix) hx ho
  refine hK _ _ ((h ix G).out _ _ ⟨ρ', ?_⟩)
  rw [hd]
  exact hs'.set hN hr'
/-- A call that is lent objects. -/
theorem Al_gcallE {ι : Type} {f : FuncId} {ins : List SV} {obs : Obs} {obs' : ι → Obs} {res : ι → SV} (pm : Pm) (nw : List (Nat × Nat)) {d : Nat} {xs : List Operand} {ts : Array TypeId} (hG : GCallE P f ins obs fun i => some (obs' i, res i)) (ho : o.op = .call ⟨.value (.func f), xs.toArray, ts⟩) (hg : o.guard = none) (hd : o.dst = some d) (hN : d < N) (hc : conB o = true)
    (hpre : PreO st (nmOf pm) obs) (hB : ∀ i, nmB obs (obs' i) pm nw = true) (hb1 : (obs.all fun p => (lookR pm p.1).isSome) = true) (hb5 : nodupB (pm.map (·.2.1)) = true) (ha : ArgsS st xs (ins.map (SV.ren (nmOf pm))))
    (h : ∀ i G, Al P N M0 w0 ops Q l ((st.aft pm (obs' i) (nm2 pm nw G)).set d ((res i).ren (nm2 pm nw G)))) : Al P N M0 w0 ops Q (o :: l) st := by
  refine ⟨?_⟩
  rintro a w ⟨ρ, hsim⟩
  have hev := fun y hy => hsim.ev hc y (mem_call ho y hy)
  refine gcallE_at hG hsim hd hN hg hpre hB hb1 hb5 (vs := xs.map a.eval) ?_ (ha.rep fun x hx => hev x (by simpa using hx)) h
  simp only [execOp, ho, resolve, Act.eval, Deferred.ofValue, invoke, Sem.run_bind, Sem.run_pure, Result.andThen_ok]
  rw [hG.1]
  congr 2
  apply Array.ext'
  simp
end
theorem GCallE_enter {P : Program} {ι : Type} {f : FuncId} {fn : Func} {c : Code} {N : Nat} {ins : List SV} {obs : Obs} {R : ι → Option (Obs × SV)} {rs : ASt → SV → Prop} (hcf : ∀ (vs : Array Value) (w : World), (callFunc f vs).run P w = .ok (.enter f vs) w) (hf : P.funcs[f]? = some fn) (hb : fn.body = some c) (hN : fn.ntmps = N) (hr : ReadsS P fn rs) (hn : ins.length ≤ N)
    (h : (∀ a, SV.d a ∈ ins → okA a) → (∀ k T cs a, (k, AO.box T cs) ∈ obs → SV.d a ∈ cs → okA a) → ∀ M0 w0, Aw P N M0 w0 c (fun e st => ∃ i, RtO rs obs (R i) e st) (mk (argSS 0 ins) (lookO1 obs))) : GCallE P f ins obs R := ⟨hcf, fun M w ρ vs hM hbnd ha hobs hfps hap => by
  have hokI : ∀ a, SV.d a ∈ ins → okA a := fun a hm => by
    obtain ⟨j, hj, e⟩ := List.getElem_of_mem hm
    have hj' : j < vs.length := by rw [ha.1]; exact hj
    exact ⟨M, w, vs[j], ha.2 j (.d a) _ (by rw [List.getElem?_eq_getElem hj, e]) (List.getElem?_eq_getElem hj')⟩
  have hokB : ∀ k T cs a, (k, AO.box T cs) ∈ obs → SV.d a ∈ cs → okA a := fun k T cs a hm ha => by
    obtain ⟨y, _, b, xs, rfl, _, _, hsz, hcs⟩ := hobs _ hm
    obtain ⟨j, hj, e⟩ := List.getElem_of_mem ha
    have hj' : j < xs.size := by rw [hsz]; exact hj
    exact ⟨M, w, xs[j], (hcs j (.d a) _ (by rw [List.getElem?_eq_getElem hj, e]) (Array.getElem?_eq_getElem hj')).1⟩
  have hMt : ∀ b, Mt M ρ (mk (argSS 0 ins) (lookO1 obs)).ob b → M b := fun b hb => by
    rcases hb with hb | ⟨k, g, o, x, h1, h2, h3⟩
    · exact hb
    · obtain ⟨rfl, hm⟩ := lookO1_mem h1
      exact hfps b ⟨_, hm, x, h2, h3⟩
  have hsim : SimR N M ⟨w, fps ρ obs, [], pins ρ obs⟩ (mk (argSS 0 ins) (lookO1 obs)) ρ { tmps := vs.toArray ++ Array.replicate (N - vs.toArray.size) undef, defers := [] } w := {
    size := by have := ha.1; simp; omega
    defers := rfl
    slot := fun i => by
      have e := argSS_get ins 0 i
      rw [Nat.zero_add] at e
      show SRep _ _ _ (lookS (argSS 0 ins) i) _
      rw [e]
      cases h : ins[i]? with
      | none => trivial
      | some s =>
        have hi : i < vs.length := by rw [ha.1]; exact (List.getElem?_eq_some_iff.1 h).1
        show SRep _ _ _ s ((vs.toArray ++ Array.replicate (N - vs.toArray.size) undef).getD i undef)
        have e2 : (vs.toArray ++ Array.replicate (N - vs.toArray.size) undef).getD i undef = vs[i] := by
          simp [Array.getD_eq_getD_getElem?, Array.getElem?_append, hi]
        rw [e2]
        exact (ha.2 i s vs[i] h (by simp [hi])).mono (Known.sub hMt)
    obj := fun k g o h => by
      obtain ⟨rfl, hm⟩ := lookO1_mem h
      obtain ⟨y, h1, h2⟩ := hobs _ hm
      exact ⟨y, h1, (h2.mono (Known.sub hMt) fun _ _ => rfl).base fun b hb => .inr ⟨_, hm, y, h1, hb⟩⟩
    apart := fun k g o k' g' o' x x' b h h' h1 h2 h3 h4 => by
      obtain ⟨rfl, hm⟩ := lookO1_mem h
      obtain ⟨rfl, hm'⟩ := lookO1_mem h'
      exact hap _ hm _ hm' x x' b h1 h2 h3 h4
    gens := hbnd
    base := hM
    ext := ⟨rfl, rfl, rfl, Nat.le_refl _, fun _ _ _ => rfl⟩
    pin := fun k g v hv => by
      have : (bif Nat.beq g 0 && obs.any (fun p => Nat.beq p.1 k) then ρ k g else none) = some v := hv
      revert this
      cases (Nat.beq g 0 && obs.any (fun p => Nat.beq p.1 k)) with
      | true => exact id
      | false => intro h; cases h }
  refine calls_of_wp hf hb ?_
  rw [hN]
  refine wp_mono ((h hokI hokB M ⟨w, fps ρ obs, [], pins ρ obs⟩).out _ _ ⟨_, hsim⟩) fun e a' w' ⟨st, ⟨ix, h1⟩, ρF, h2⟩ => ?_
  have hext : ExtL ⟨w, fps ρ obs, [], fun _ _ => none⟩ w' := ⟨h2.ext.os, h2.ext.tape, h2.ext.output, h2.ext.size, h2.ext.block⟩
  have key : (∃ (obs' : Obs) (res : SV) (mp : Pm), R ix = some (obs', res) ∧ rs st (res.ren (nmOf mp)) ∧ PreO st (nmOf mp) obs' ∧ (nodupB (obs'.map fun p => (nmOf mp p.1 0).1) && nodupB (obs'.map (·.1)) && obs.all fun p => !(lookR mp p.1).isSome) = true) → a'.defers = [] ∧ ∃ v, (results fn a'.tmps).run P w' = .ok v w' ∧ (ExtL ⟨w, fps ρ obs, [], fun _ _ => none⟩ w' ∧ ∃ ix, GPost M w ρ obs w' (.returned v) (R ix)) := fun ⟨obs', res, mp, hR, hrs, hpo, hchk⟩ => by
    simp only [Bool.and_eq_true] at hchk
    obtain ⟨⟨c1, c2⟩, c3⟩ := hchk
    obtain ⟨v, k1, k2⟩ := hr.out h2 hrs
    refine ⟨h2.defers, v, k1, hext, ix, ?_⟩
    rw [hR]
    refine ⟨v, rfl, pull (nmOf mp) ρF, nmOf_bnd h2.gens, fun p hp => ?_, fun p hp => ?_, fun p hp q hq x x' b h1 h2' h3 h4 => ?_, ?_⟩
    · have h5 := List.all_eq_true.1 c3 p hp
      have h6 : lookR mp p.1 = none := by simpa using h5
      have e : nmOf mp p.1 0 = (p.1, 0) := by simp [nmOf, h6]
      show ρF (nmOf mp p.1 0).1 (nmOf mp p.1 0).2 = _
      rw [e]
      obtain ⟨y, h7, _⟩ := hobs p hp
      rw [h7]
      refine h2.pin _ _ _ ?_
      show (bif Nat.beq 0 0 && obs.any (fun q => Nat.beq q.1 p.1) then ρ p.1 0 else none) = some y
      have : obs.any (fun q => Nat.beq q.1 p.1) = true := List.any_eq_true.2 ⟨p, hp, by simp⟩
      rw [this]; exact h7
    · obtain ⟨y, h5, h6⟩ := h2.obj _ _ _ (hpo.get p hp)
      refine ⟨y, h5, ((ORep.ren.1 h6).mono (Known.sub fun b hb => ?_) fun _ _ => rfl).base fun b hb => (h6.blk_lt (fpO.ren.2 hb)).1⟩
      rcases hb with hb | ⟨q, hq, z, h7, h8⟩
      · exact .inl hb
      · exact .inr ⟨_, _, _, z, hpo.get q hq, h7, fpO.ren.2 h8⟩
    · have := h2.apart _ _ _ _ _ _ x x' b (hpo.get p hp) (hpo.get q hq) h1 h2' (fpO.ren.2 h3) (fpO.ren.2 h4)
      rw [nodupB.inj c1 p hp q hq this]
    · refine (SRep.ren.1 k2).mono (Known.sub fun b hb => ?_)
      rcases hb with hb | ⟨q, hq, z, h7, h8⟩
      · exact .inl hb
      · exact .inr ⟨_, _, _, z, hpo.get q hq, h7, fpO.ren.2 h8⟩
  cases e with
  | normal => exact key h1
  | ret => exact key h1
  | panic ch =>
    obtain ⟨hR, pv, rfl⟩ := h1
    exact ⟨h2.defers, hext, ix, by rw [hR]; exact ⟨pv, rfl⟩⟩
  | _ => exact h1.elim⟩
end Go.Proofs.YtojehmkkbdedaaaGreat.A
namespace Go.Proofs.YtojehmkkbdedaaaGreat.A
open Go Go.RowKit
theorem GCallE.one {P : Program} {f : FuncId} {ins : List SV} {obs : Obs} {R : Option (Obs × SV)} (h : GCallE P f ins obs (fun _ : Unit => R)) : GCall P f ins obs R := ⟨h.1, fun M w ρ vs h1 h2 h3 h4 h5 h6 => (h.2 M w ρ vs h1 h2 h3 h4 h5 h6).mono fun _ _ ⟨h7, _, h8⟩ => ⟨h7, h8⟩⟩
section
variable {P : Program} {N : Nat} {M0 : Nat → Prop} {w0 : Base} {ops : Array Oper} {Q : Exit → ASt → Prop} {o : Oper} {l : List Oper} {st : ASt}
/-- What was lent stands where it stood; the object k is none of it. -/
def Still (st : ASt) (k : Nat) : Obs → Prop
  | [] => True
  | p :: r => Nat.beq k p.1 = false ∧ (∃ o', st.ob p.1 = some (0, o') ∧ ∀ h b, fpO p.2 h b → fpO o' h b) ∧ Still st k r
theorem Still.get {k : Nat} : ∀ {obs : Obs}, Still st k obs → ∀ p ∈ obs, k ≠ p.1 ∧ ∃ o', st.ob p.1 = some (0, o') ∧ ∀ h b, fpO p.2 h b → fpO o' h b
  | [], _, p, hp => by cases hp
  | q :: r, ⟨h1, h2, h3⟩, p, hp => by
    rcases List.mem_cons.1 hp with rfl | hp
    · exact ⟨fun e => by rw [e] at h1; simp at h1, h2⟩
    · exact h3.get p hp
/-- Two slots that hold the same: each is brought to what it holds by itself. -/
theorem Sub.two {s t v : SV} (h1 : s = v) (h2 : t = v) : Sub s t := Sub.eq (h1.trans h2.symm)
end
end Go.Proofs.YtojehmkkbdedaaaGreat.A
namespace Go.Proofs.YtojehmkkbdedaaaGreat.A
open Go Go.RowKit
section
variable {P : Program} {N : Nat} {M0 : Nat → Prop} {w0 : Base} {ops : Array Oper} {Q : Exit → ASt → Prop} {o : Oper} {l : List Oper} {st : ASt}
end
end Go.Proofs.YtojehmkkbdedaaaGreat.A
end

section
namespace Go.Proofs.YtojehmkkbdedaaaGreat.A
open Go Go.RowKit
theorem find_congr {α : Type} {p q : α → Bool} : ∀ {l : List α}, (∀ x ∈ l, p x = q x) → l.find? p = l.find? q
  | [], _ => rfl
  | x :: l, h => by
    rw [List.find?_cons, List.find?_cons, h x (by simp), find_congr fun y hy => h y (by simp [hy])]
/-- Whatever of the operations is done: what they yield, in whichever order. -/
def stL (l : List Oper) (ss : Nat → SV) (L : Nat → Bool) (st : ASt) : ASt := { st with sl := fun t => match (List.range l.length).find? (fun i => L i && (l[i]?.bind (·.dst)) == some t) with | some i => ss i | none => st.sl t }
theorem stL_congr {l : List Oper} {ss ss' : Nat → SV} {L L' : Nat → Bool} {st : ASt} (hL : ∀ i, i < l.length → L i = L' i) (hs : ∀ i, i < l.length → L i = true → ss i = ss' i) : stL l ss L st = stL l ss' L' st := by
  unfold stL
  congr 1
  funext t
  have e : (List.range l.length).find? (fun i => L i && (l[i]?.bind (·.dst)) == some t) = (List.range l.length).find? (fun i => L' i && (l[i]?.bind (·.dst)) == some t) := by
    apply find_congr
    intro i hi
    rw [hL i (List.mem_range.1 hi)]
  rw [← e]
  cases h : (List.range l.length).find? (fun i => L i && (l[i]?.bind (·.dst)) == some t) with
  | none => rfl
  | some i =>
    have h1 := List.find?_some h
    have h2 := List.mem_range.1 (List.mem_of_find?_eq_some h)
    simp only [Bool.and_eq_true] at h1
    exact hs i h2 h1.1
theorem find_uniq {l : List Oper} {L : Nat → Bool} {i t : Nat} {o : Oper} (hd : Ev.distinct l = true) (hi : l[i]? = some o) (ho : o.dst = some t) (hL : L i = true) : (List.range l.length).find? (fun i => L i && (l[i]?.bind (·.dst)) == some t) = some i := by
  have hil : i < l.length := (List.getElem?_eq_some_iff.1 hi).1
  cases h : (List.range l.length).find? (fun i => L i && (l[i]?.bind (·.dst)) == some t) with
  | none =>
    have := List.find?_eq_none.1 h i (List.mem_range.2 hil)
    simp [hL, hi, ho] at this
  | some j =>
    have h1 := List.find?_some h
    simp only [Bool.and_eq_true, beq_iff_eq] at h1
    obtain ⟨oj, h2, h3⟩ := Option.bind_eq_some_iff.1 h1.2
    congr 1
    rcases Nat.lt_trichotomy i j with e | e | e
    · exact (dist_ne hd hi h2 e ho h3).elim
    · exact e.symm
    · exact (dist_ne hd h2 hi e h3 ho).elim
theorem stL_at {l : List Oper} {ss : Nat → SV} {L : Nat → Bool} {st : ASt} {i t : Nat} {o : Oper} (hd : Ev.distinct l = true) (hi : l[i]? = some o) (ho : o.dst = some t) (hL : L i = true) : (stL l ss L st).sl t = ss i := by
  unfold stL
  simp only [find_uniq hd hi ho hL]
theorem stL_out {l : List Oper} {ss : Nat → SV} {L : Nat → Bool} {st : ASt} {t : Nat} (h : ∀ (i : Nat) (o : Oper), l[i]? = some o → o.dst = some t → L i = false) : (stL l ss L st).sl t = st.sl t := by
  unfold stL
  have e : (List.range l.length).find? (fun i => L i && (l[i]?.bind (·.dst)) == some t) = none := by
    rw [List.find?_eq_none]
    intro i hi
    simp only [Bool.and_eq_true, beq_iff_eq, not_and]
    intro hL h2
    obtain ⟨o, h3, h4⟩ := Option.bind_eq_some_iff.1 h2
    rw [h i o h3 h4] at hL; cases hL
  simp only [e]
theorem stL_none {l : List Oper} {ss : Nat → SV} {st : ASt} : stL l ss (fun _ => false) st = st := by
  unfold stL
  have e : ∀ t, (List.range l.length).find? (fun i => false && (l[i]?.bind (·.dst)) == some t) = none := fun t => by
    rw [List.find?_eq_none]; intro i _; simp
  simp only [e]
/-- One more is done. -/
theorem stL_set {l : List Oper} {ss : Nat → SV} {L L' : Nat → Bool} {st : ASt} {j d : Nat} {o : Oper} (hd : Ev.distinct l = true) (hj : l[j]? = some o) (ho : o.dst = some d) (hL' : ∀ i, L' i = (L i || decide (i = j))) : (stL l ss L st).set d (ss j) = stL l ss L' st := by
  have hb : ∀ {s s' : ASt}, s.sl = s'.sl → s.ob = s'.ob → s = s' := fun {s s'} h1 h2 => by cases s; cases s'; simp_all
  refine hb (funext fun t => ?_) rfl
  show (bif Nat.beq t d then ss j else (stL l ss L st).sl t) = (stL l ss L' st).sl t
  cases ht : Nat.beq t d with
  | true =>
    have := Nat.eq_of_beq_eq_true ht
    subst this
    exact (stL_at hd hj ho (by rw [hL' j]; simp)).symm
  | false =>
    have hne : t ≠ d := fun e => by subst e; simp at ht
    show (stL l ss L st).sl t = (stL l ss L' st).sl t
    unfold stL
    have e : (List.range l.length).find? (fun i => L i && (l[i]?.bind (·.dst)) == some t) = (List.range l.length).find? (fun i => L' i && (l[i]?.bind (·.dst)) == some t) := by
      apply find_congr
      intro i _
      rw [hL' i]
      by_cases e : i = j
      · subst e
        have : ((l[i]?.bind (·.dst)) == some t) = false := by
          rw [hj]
          simp only [Option.bind_some, ho, beq_eq_false_iff_ne, ne_eq, Option.some.injEq]
          exact fun e => hne e.symm
        rw [this]; simp
      · simp [e]
    simp only [e]
theorem St_frame {P : Program} {ops : Array Oper} {st st' : ASt} {o : Oper} {s : SV} (h : St P ops st o s) (hx : ∀ x ∈ opsOf o, st'.ev x = st.ev x) (hg : ∀ j b oj dj, o.guard = some (j, b) → ops[j]? = some oj → oj.dst = some dj → st'.sl dj = st.sl dj) (hob : ∀ k g ob, st.ob k = some (g, ob) → st'.ob k = some (g, ob)) : St P ops st' o s := fun B M ρ w a h1 h2 h3 h4 hev => by
  have h5 := h B M ρ w a h1 (fun x hx' => by rw [← hx x hx']; exact h2 x hx') (fun j b oj dj k1 k2 k3 => by rw [← hg j b oj dj k1 k2 k3]; exact h3 j b oj dj k1 k2 k3) (fun k g ob hk => h4 k g ob (hob k g ob hk)) (hev.sub hob)
  split
  · rename_i hw
    rw [if_pos hw] at h5
    intro K hK
    exact h5 K fun v w' hk hv => hK v w' (hk.sup hev hob) hv
  · rename_i hw
    rw [if_neg hw] at h5
    exact h5
/-- What a walk of the operations, each behind those ahead of it, tells of each. -/
theorem dr_all {P : Program} {ops : Array Oper} {R : ASt → Prop} {l : List Oper} {st : ASt} (hd : Ev.distinct l = true) : ∀ (r : List Oper) (j : Nat) (ss0 : Nat → SV), l.drop j = r → Dr P ops R r (stL l ss0 (fun i => decide (i < j)) st) →
    ∃ ss : Nat → SV, (∀ i, i < j → ss i = ss0 i) ∧ (∀ i o, j ≤ i → l[i]? = some o → ∃ d, o.dst = some d ∧ St P ops (stL l ss (fun x => decide (x < i)) st) o (ss i)) ∧ R (stL l ss (fun _ => true) st)
  | [], j, ss0, hr, h => ⟨ss0, fun _ _ => rfl, fun i o h1 h2 => by
      have h3 := (List.getElem?_eq_some_iff.1 h2).1
      have h4 := congrArg List.length hr
      simp at h4; omega, by
      have h4 := congrArg List.length hr
      simp at h4
      have e : stL l ss0 (fun i => decide (i < j)) st = stL l ss0 (fun _ => true) st := stL_congr (fun i hi => by simp; omega) (fun _ _ _ => rfl)
      rw [← e]; exact h⟩
  | o :: r, j, ss0, hr, h => by
    obtain ⟨d, s, hdo, hst, hdr⟩ := h
    have hj : l[j]? = some o := by
      have : (l.drop j)[0]? = some o := by rw [hr]; rfl
      simpa using this
    let ss1 : Nat → SV := fun i => if i = j then s else ss0 i
    have e0 : stL l ss0 (fun i => decide (i < j)) st = stL l ss1 (fun i => decide (i < j)) st := stL_congr (fun _ _ => rfl) (fun i _ h => by
      have : i < j := by simpa using h
      simp [ss1, show i ≠ j by omega])
    have e1 : (stL l ss0 (fun i => decide (i < j)) st).set d s = stL l ss1 (fun i => decide (i < j + 1)) st := by
      rw [e0]
      have : s = ss1 j := by simp [ss1]
      rw [this]
      exact stL_set hd hj hdo fun i => by
        rw [Bool.eq_iff_iff]; simp; omega
    rw [e1] at hdr
    obtain ⟨ss, h1, h2, h3⟩ := dr_all hd r (j + 1) ss1 (by
      have : (l.drop j).drop 1 = r := by rw [hr]; rfl
      rwa [List.drop_drop] at this) hdr
    refine ⟨ss, fun i hi => by rw [h1 i (by omega)]; simp [ss1, show i ≠ j by omega], fun i o' hi ho' => ?_, h3⟩
    by_cases e : i = j
    · subst e
      rw [hj] at ho'; cases ho'
      refine ⟨d, hdo, ?_⟩
      have e2 : stL l ss0 (fun x => decide (x < i)) st = stL l ss (fun x => decide (x < i)) st := stL_congr (fun _ _ => rfl) (fun x _ hx => by
        have : x < i := by simpa using hx
        rw [h1 x (by omega)]; simp [ss1, show x ≠ i by omega])
      rw [← e2]
      have : ss i = s := by rw [h1 i (by omega)]; simp [ss1]
      rw [this]; exact hst
    · exact h2 i o' (by omega) ho'
/-- The variable is made. -/
def alcS (d g : Nat) (o : AO) (st : ASt) : ASt := (st.put d g o).set d (.bx d g 0)
def alcO (d : Nat) (o : AO) : Option Nat → ASt → ASt
  | none, st => st
  | some g, st => alcS d g o st
theorem alcS_set {d g e : Nat} {o : AO} {s : SV} {st : ASt} (h : e ≠ d) : (alcS d g o st).set e s = alcS d g o (st.set e s) := by
  have hb : ∀ {s s' : ASt}, s.sl = s'.sl → s.ob = s'.ob → s = s' := fun {s s'} h1 h2 => by cases s; cases s'; simp_all
  refine hb (funext fun t => ?_) rfl
  show (bif Nat.beq t e then s else bif Nat.beq t d then SV.bx d g 0 else st.sl t) = (bif Nat.beq t d then SV.bx d g 0 else bif Nat.beq t e then s else st.sl t)
  cases h1 : Nat.beq t e with
  | false => rfl
  | true =>
    cases h2 : Nat.beq t d with
    | false => rfl
    | true =>
      have e1 := Nat.eq_of_beq_eq_true h1
      have e2 := Nat.eq_of_beq_eq_true h2
      exact absurd (e1.symm.trans e2) h
def drawAB (N : Nat) (l : List Oper) (n dA : Nat) : Bool := Ev.distinct (l.take n) && Ev.backB l.toArray && Ev.tailB l.toArray (n + 1) && drB N l n && ((l.take n).all fun o => match o.dst with | some d => decide (d < N) && !Nat.beq d dA | none => false) && (l.take n).all fun o => ((opsOf o).all fun | .tmp t => !Nat.beq t dA | _ => true) && match o.guard with | some (j, _) => (match l[j]? with | some oj => (match oj.dst with | some dj => !Nat.beq dj dA | none => true) | none => true) | none => true
section
variable {P : Program} {N : Nat} {M0 : Nat → Prop} {w0 : Base} {Q : Exit → ASt → Prop} {st : ASt}
theorem drawA_go {l : List Oper} {n dA : Nat} {oA : Oper} {T : TypeId} {z : Value} {zs : List AV} {ss : Nat → SV} (hok : drawAB N l n dA = true) (hA : l[n]? = some oA) (ho : oA.op = .alloc T) (hgA : oA.guard = none) (hdA : oA.dst = some dA) (hNA : dA < N) (hz : ∀ w, (zeroValue T).run P w = .ok z w) (hzs : z.cells.toList.map AV.v = zs) (hv : z.cells.toList.all (fun z => decide (vok z)) = true) (hfree : st.ob dA = none)
    (hst : ∀ i o, (l.take n)[i]? = some o → ∃ d, o.dst = some d ∧ St P l.toArray (stL (l.take n) ss (fun x => decide (x < i)) st) o (ss i))
    (hfin : ∀ g, Al P N M0 w0 l.toArray Q (l.drop (n + 1)) (alcS dA g (.box T (zs.map .d)) (stL (l.take n) ss (fun _ => true) st))) :
    ∀ (fuel : Nat) (listed : Array Bool) (og : Option Nat), listed.size = l.length → Ev.Closed l.toArray listed → listed[n]? = some og.isSome → (∀ i, n < i → i < l.length → listed[i]? = some false) → listed.count false ≤ fuel →
      Ad P N M0 w0 l.toArray Q fuel listed (alcO dA (.box T (zs.map .d)) og (stL (l.take n) ss (fun i => listed.getD i false) st)) := by
  simp only [drawAB, Bool.and_eq_true] at hok
  obtain ⟨⟨⟨⟨⟨hd, hb⟩, ht⟩, hdr⟩, hds⟩, hdA2⟩ := hok
  have hnl : n < l.length := (List.getElem?_eq_some_iff.1 hA).1
  have hsz : l.toArray.size = l.length := by simp
  have hget : ∀ (j : Nat), l.toArray[j]? = l[j]? := fun j => by simp
  have htk : ∀ (j : Nat), j < n → (l.take n)[j]? = l[j]? := fun j hj => by rw [List.getElem?_take, if_pos hj]
  have hlen : (l.take n).length = n := by simp; omega
  have fin : ∀ (fuel : Nat) (listed : Array Bool) (og : Option Nat), listed.size = l.length → Ev.Closed l.toArray listed → listed[n]? = some og.isSome → (∀ i, n < i → i < l.length → listed[i]? = some false) → listed.count false ≤ fuel → (∀ i, i < n + 1 → listed[i]? = some true) →
      Ad P N M0 w0 l.toArray Q fuel listed (alcO dA (.box T (zs.map .d)) og (stL (l.take n) ss (fun i => listed.getD i false) st)) := by
    intro fuel listed og hs hcl hog hun hfu hall
    have h1 := hall n (by omega)
    rw [hog] at h1
    obtain ⟨g, rfl⟩ : ∃ g, og = some g := by
      cases og with
      | none => simp at h1
      | some g => exact ⟨g, rfl⟩
    have e : stL (l.take n) ss (fun i => listed.getD i false) st = stL (l.take n) ss (fun _ => true) st := stL_congr (fun i hi => by
      have := hall i (by omega)
      simp [Array.getD_eq_getD_getElem?, this]) (fun _ _ _ => rfl)
    rw [e]
    refine ⟨fun a w hs' => ?_⟩
    have hcnt : l.length - (n + 1) ≤ fuel := by
      have e : listed.toList = listed.toList.take (n + 1) ++ List.replicate (l.length - (n + 1)) false := by
        apply List.ext_getElem?
        intro i
        rcases Nat.lt_or_ge i (n + 1) with h | h
        · rw [List.getElem?_append_left (by simp; omega), List.getElem?_take_of_lt h]
        · rw [List.getElem?_append_right (by simp; omega)]
          rcases Nat.lt_or_ge i l.length with h2 | h2
          · have := hun i (by omega) h2
            have e1 : listed.toList[i]? = some false := by simpa using this
            rw [e1, List.getElem?_replicate, if_pos (by simp; omega)]
          · rw [List.getElem?_eq_none (by simp; omega), List.getElem?_eq_none (by simp; omega)]
      have h2 : listed.count false = listed.toList.count false := by rw [Array.count_toList]
      rw [h2, e, List.count_append] at hfu
      simp at hfu
      omega
    refine Ev.seq_any hb ht (l.length - (n + 1)) fuel (n + 1) listed a w (by simp; omega) hcnt (Nat.le_refl _) (by simpa using hs) (fun i hi => hall i hi) (fun i hi hi2 => hun i (by omega) (by simpa using hi2)) hcl ?_
    have h3 := wpOps_eq_wpList (P := P) (ops := l.toArray) (Q := QL N M0 w0 Q) (l.drop (n + 1)) (n + 1) (fun j => by simp)
    rw [List.length_drop] at h3
    rw [h3]
    exact (hfin g).out a w hs'
  intro fuel
  induction fuel with
  | zero =>
    intro listed og hs hcl hog hun hn
    refine fin 0 listed og hs hcl hog hun hn fun i hi => ?_
    cases hl : listed[i]? with
    | none => rw [Array.getElem?_eq_none_iff] at hl; omega
    | some b =>
      cases b with
      | true => rfl
      | false =>
        have : false ∈ listed := Array.mem_of_getElem? hl
        have := Array.count_pos_iff.2 this
        omega
  | succ fuel ih =>
    intro listed og hs hcl hog hun hn
    by_cases hall : ∀ (i : Nat), i < n + 1 → listed[i]? = some true
    · exact fin (fuel + 1) listed og hs hcl hog hun hn hall
    refine ⟨fun a w hsim => ⟨fun h0 => ?_, fun j hj => ?_⟩⟩
    · exfalso
      apply hall
      intro i
      induction i using Nat.strongRecOn with
      | _ i ih' =>
        intro hi
        cases hl : listed[i]? with
        | none => rw [Array.getElem?_eq_none_iff] at hl; omega
        | some b =>
          cases b with
          | true => rfl
          | false =>
            have := Ev.ready_of_least hb (by simpa using hs) (by simp; omega) hl (fun k hk => ih' k hk (by omega))
            rw [h0] at this
            cases this
    obtain ⟨hju, o, hoj, hdone⟩ := mem_ready.1 hj
    have hjo : j < l.length := by
      have := (Array.getElem?_eq_some_iff.1 hoj).1
      simpa using this
    have hlt : j < listed.size := by omega
    have hjl : listed[j]? = some false := by simp [Array.getD, hlt] at hju; simp [hlt, hju]
    have hj1 : j < n + 1 := by
      rcases Nat.lt_or_ge j (n + 1) with h | h
      · exact h
      · exact (hall fun i hi => Ev.ready_all ht hcl hj h i (by omega)).elim
    have hoj' : l[j]? = some o := by rw [← hget]; exact hoj
    have hdl : ∀ d ∈ Ev.depsOf o, listed[d]? = some true := Ev.deps_listed hdone
    have hold : ∀ (i : Nat), i ≠ j → (listed.setIfInBounds j true)[i]? = listed[i]? := fun i hij => by
      rw [Array.getElem?_setIfInBounds, if_neg (Ne.symm hij)]
    have hcl' : Ev.Closed l.toArray (listed.setIfInBounds j true) := fun i o' hi ho' d hd' => by
      have keep : ∀ (y : Nat), listed[y]? = some true → (listed.setIfInBounds j true)[y]? = some true := fun y hy => by
        by_cases e : y = j
        · subst e; simp [hlt]
        · rw [hold y e]; exact hy
      by_cases hij : i = j
      · subst hij
        rw [hoj] at ho'
        cases ho'
        exact keep d (hdl d hd')
      · rw [hold i hij] at hi
        exact keep d (hcl i o' hi ho' d hd')
    have hcnt : (listed.setIfInBounds j true).count false ≤ fuel := by
      have := Array.count_set (xs := listed) (i := j) (a := true) (b := false) hlt
      rw [Array.setIfInBounds, dif_pos hlt]
      have h3 : listed[j] = false := by simpa [hlt] using hjl
      have h4 : 0 < listed.count false := Array.count_pos_iff.2 (Array.mem_iff_getElem.2 ⟨j, hlt, h3⟩)
      rw [this]
      simp [h3]
      omega
    have hLL : ∀ i, (listed.setIfInBounds j true).getD i false = (listed.getD i false || decide (i = j)) := fun i => by
      by_cases e : i = j
      · subst e; simp [Array.getD_eq_getD_getElem?, hlt]
      · simp [Array.getD_eq_getD_getElem?, hold i e, e]
    have hun' : ∀ i, n < i → i < l.length → (listed.setIfInBounds j true)[i]? = some false := fun i h1 h2 => by
      rw [hold i (by omega)]; exact hun i h1 h2
    by_cases hjn : j = n
    · subst hjn
      rw [hA] at hoj'; cases hoj'
      have hog' : og = none := by
        rw [hjl] at hog
        cases og with
        | none => rfl
        | some g => simp at hog
      subst hog'
      refine wpOp_of_list hoj ((Al_alloc (l := []) (Q := Then (Ad P N M0 w0 l.toArray Q fuel (listed.setIfInBounds j true)) Q) ho hgA hdA hNA hz hzs hv (fun g => Al_nil ?_)).out a w hsim) (fun a' w' ⟨st', h1, h2⟩ => h1.out a' w' h2) (fun c a' w' h => h) (fun ⟨a', w', h⟩ => ⟨a', w', h⟩)
      have := ih (listed.setIfInBounds j true) (some g) (by simpa using hs) hcl' (by simp [hlt]) hun' hcnt
      have e : stL (l.take j) ss (fun i => (listed.setIfInBounds j true).getD i false) st = stL (l.take j) ss (fun i => listed.getD i false) st := stL_congr (fun i hi => by
        rw [hLL i]
        simp at hi
        simp [show i ≠ j by omega]) (fun _ _ _ => rfl)
      rw [e] at this
      exact this
    · have hjn' : j < n := by omega
      have hjt : (l.take n)[j]? = some o := by rw [htk j hjn']; exact hoj'
      obtain ⟨d, hdo, hS⟩ := hst j o hjt
      have hmem : o ∈ l.take n := List.mem_of_getElem? hjt
      have hdN := List.all_eq_true.1 hds o hmem
      rw [hdo] at hdN
      simp only [Bool.and_eq_true, decide_eq_true_eq, Bool.not_eq_true'] at hdN
      have hddA : d ≠ dA := fun e => by rw [e] at hdN; simp at hdN
      have hno := List.all_eq_true.1 hdA2 o hmem
      simp only [Bool.and_eq_true] at hno
      have hdrj := List.all_eq_true.1 hdr j (List.mem_range.2 hjn')
      rw [hoj'] at hdrj
      simp only [Bool.and_eq_true] at hdrj
      obtain ⟨⟨hops, hgd⟩, hconst⟩ := hdrj
      have hsl : ∀ t, opB (l.take n) j o t = true → t ≠ dA → (alcO dA (.box T (zs.map .d)) og (stL (l.take n) ss (fun i => listed.getD i false) st)).sl t = (stL (l.take n) ss (fun x => decide (x < j)) st).sl t := by
        intro t hop hne
        have e1 : (alcO dA (.box T (zs.map .d)) og (stL (l.take n) ss (fun i => listed.getD i false) st)).sl t = (stL (l.take n) ss (fun i => listed.getD i false) st).sl t := by
          cases og with
          | none => rfl
          | some g =>
            show (bif Nat.beq t dA then _ else _) = _
            have : Nat.beq t dA = false := by
              cases hb : Nat.beq t dA with
              | false => rfl
              | true => exact absurd (Nat.eq_of_beq_eq_true hb) hne
            rw [this]; rfl
        rw [e1]
        by_cases hin : inB (l.take n) t = true
        · simp only [opB, hin, Bool.not_true, Bool.false_or, List.any_eq_true, List.mem_range, Bool.and_eq_true, beq_iff_eq] at hop
          obtain ⟨i, hi, hid, hic⟩ := hop
          obtain ⟨oi, hoi, hoid⟩ := Option.bind_eq_some_iff.1 hid
          have hli := hdl i (by simpa using hic)
          rw [stL_at hd hoi hoid (by simp [Array.getD_eq_getD_getElem?, hli]), stL_at hd hoi hoid (by simpa using hi)]
        · have hout : ∀ (i : Nat) (o' : Oper), (l.take n)[i]? = some o' → o'.dst ≠ some t := fun i o' h1 h2 => hin (by
            simp only [inB, List.any_eq_true, beq_iff_eq]
            exact ⟨o', List.mem_of_getElem? h1, h2⟩)
          rw [stL_out fun i o' h1 h2 => absurd h2 (hout i o' h1), stL_out fun i o' h1 h2 => absurd h2 (hout i o' h1)]
      have hS2 : St P l.toArray (alcO dA (.box T (zs.map .d)) og (stL (l.take n) ss (fun i => listed.getD i false) st)) o (ss j) := by
        refine St_frame hS (fun x hx => ?_) (fun j' b oj dj h1 h2 h3 => ?_) (fun k g ob h => ?_)
        · cases x with
          | tmp t =>
            have h1 := List.all_eq_true.1 hops _ hx
            have h2 := List.all_eq_true.1 hno.1 _ hx
            exact hsl t h1 (fun e => by rw [e] at h2; simp at h2)
          | _ => rfl
        · rw [hget] at h2
          rw [h1] at hgd
          simp only [h2, h3, Bool.and_eq_true, decide_eq_true_eq] at hgd
          have h4 := hno.2
          rw [h1] at h4
          simp only [h2, h3, Bool.not_eq_true'] at h4
          exact hsl dj hgd.1 (fun e => by rw [e] at h4; simp at h4)
        · cases og with
          | none => exact h
          | some g' =>
            show (bif Nat.beq k dA then _ else st.ob k) = _
            have h' : st.ob k = some (g, ob) := h
            have : Nat.beq k dA = false := by
              cases hb : Nat.beq k dA with
              | false => rfl
              | true =>
                have := Nat.eq_of_beq_eq_true hb
                subst this
                rw [hfree] at h'; cases h'
            rw [this]; exact h'
      refine wpOp_of_list hoj ((Al_st (l := []) (Q := Then (Ad P N M0 w0 l.toArray Q fuel (listed.setIfInBounds j true)) Q) hS2 hdo hdN.1 hconst (fun j' b oj dj h1 h2 h3 => ?_) (Al_nil ?_)).out a w hsim) (fun a' w' ⟨st', h1, h2⟩ => h1.out a' w' h2) (fun c a' w' h => h) (fun ⟨a', w', h⟩ => ⟨a', w', h⟩)
      · rw [hget] at h2
        rw [h1] at hgd
        simp only [h2, h3, Bool.and_eq_true, decide_eq_true_eq] at hgd
        exact hgd.2
      · have := ih (listed.setIfInBounds j true) og (by simpa using hs) hcl' (by rw [hold n (by omega)]; exact hog) hun' hcnt
        have e : (alcO dA (.box T (zs.map .d)) og (stL (l.take n) ss (fun i => listed.getD i false) st)).set d (ss j) = alcO dA (.box T (zs.map .d)) og (stL (l.take n) ss (fun i => (listed.setIfInBounds j true).getD i false) st) := by
          have e2 : (stL (l.take n) ss (fun i => listed.getD i false) st).set d (ss j) = stL (l.take n) ss (fun i => (listed.setIfInBounds j true).getD i false) st := stL_set hd hjt hdo hLL
          cases og with
          | none => exact e2
          | some g => show (alcS _ _ _ _).set d (ss j) = alcS _ _ _ _; rw [alcS_set hddA, e2]
        show Ad P N M0 w0 l.toArray Q fuel (listed.setIfInBounds j true) _
        rw [e]
        exact this
/-- A region that draws its order: pure operations, a variable that is made, and what stands behind all of these. -/
theorem Aw_drawA {id : Nat} {l : List Oper} (n : Nat) {oA : Oper} {dA : Nat} {T : TypeId} {z : Value} {zs : List AV} (hm : P.follows .mixedOrders = true) (hok : drawAB N l n dA = true) (hA : l[n]? = some oA) (ho : oA.op = .alloc T) (hgA : oA.guard = none) (hdA : oA.dst = some dA) (hNA : dA < N) (hz : ∀ w, (zeroValue T).run P w = .ok z w) (hzs : z.cells.toList.map AV.v = zs) (hv : z.cells.toList.all (fun z => decide (vok z)) = true) (hfree : st.ob dA = none)
    (h : Dr P l.toArray (fun st' => ∀ g, Al P N M0 w0 l.toArray Q (l.drop (n + 1)) ((st'.put dA g (.box T (zs.map .d))).set dA (.bx dA g 0))) (l.take n) st) : Aw P N M0 w0 (.region id l.toArray true) Q st := by
  have hd : Ev.distinct (l.take n) = true := by
    simp only [drawAB, Bool.and_eq_true] at hok
    exact hok.1.1.1.1.1
  have hnl : n < l.length := (List.getElem?_eq_some_iff.1 hA).1
  have h0 : stL (l.take n) (fun _ => .any) (fun i => decide (i < 0)) st = st := by
    refine Eq.trans (stL_congr (fun i _ => ?_) (fun _ _ _ => rfl)) (stL_none (l := l.take n) (ss := fun _ => .any) (st := st))
    simp
  obtain ⟨ss, _, h2, h3⟩ := dr_all hd (l.take n) 0 (fun _ => .any) rfl (by rw [h0]; exact h)
  refine Aw_drawn hm ?_
  have := drawA_go hok hA ho hgA hdA hNA hz hzs hv hfree (fun i o hi => h2 i o (Nat.zero_le _) hi) (fun g => h3 g) l.length (List.replicate l.length false).toArray none (by simp) (fun i o h1 _ d _ => by
    exfalso
    rw [List.getElem?_toArray, List.getElem?_replicate] at h1
    split at h1 <;> simp at h1) (by simp [List.getElem?_replicate, hnl]) (fun i _ hi => by simp [List.getElem?_replicate, hi]) (by simp [Array.count_replicate])
  have e : stL (l.take n) ss (fun i => (List.replicate l.length false).toArray.getD i false) st = st := by
    refine Eq.trans (stL_congr (fun i _ => ?_) (fun _ _ _ => rfl)) stL_none
    rw [Array.getD_eq_getD_getElem?, List.getElem?_toArray, List.getElem?_replicate]
    split <;> rfl
  rw [e] at this
  exact this
end
end Go.Proofs.YtojehmkkbdedaaaGreat.A
end

section
namespace Go.Proofs.YtojehmkkbdedaaaGreat.A
open Go Go.RowKit
variable {P : Program} {st : ASt} {o : Oper}
/-- An array's value, built of its elements. -/
theorem Pu_buildArr {t e : TypeId} {len n : Nat} {ps : Array (Nat × Operand)} {aa : List (Nat × AV)} {zs : List Value} {r : List AV} (ho : o.op = .build t ps) (ht : P.underlying t = some (.array len e)) (hz : ∀ w, (zeroValue t).run P w = .ok (.agg zs.toArray) w)
    (hs : ∀ w, (sizeOf e).run P w = .ok n w) (hv : zs.all (fun z => decide (vok z)) = true) (ha : PartsOk st ps.toList aa) (hr : fillA (fun i => some (i * n, n)) (zs.map .v) aa = some r) : Pu P st o (.d (.row r)) := Pu_q fun B M ρ w a h2 _ => by
  obtain ⟨us, h3, h4⟩ := run_fill (M := M) (w := w) (ρ := ρ) (a := a) (fun i => some (i * n, n)) ps.toList aa _ r zs.toArray ha (fun p hp => h2 p.2 (by
    simp only [opsOf, ho, Op.operands]
    exact List.mem_map.2 ⟨p, hp, rfl⟩)) (cells_v hv) hr
  refine ⟨.agg us, ?_, h4.row⟩
  have e : (ps.map fun (p : Nat × Operand) => (p.1, a.eval p.2)).toList = ps.toList.map fun (i, x) => (i, a.eval x) := by simp
  simp only [execOp, ho, Instr.build, Sem.run_bind, hz, Result.andThen_ok, run_underlying ht, hs, Value.cells]
  rw [e]
  simp only [h3, Sem.run_pure, Sem.run_bind, Result.andThen_ok]
end Go.Proofs.YtojehmkkbdedaaaGreat.A
namespace Go.Proofs.YtojehmkkbdedaaaGreat.V
open Go.RowKit A R
end Go.Proofs.YtojehmkkbdedaaaGreat.V
end

section
namespace Go.Proofs.YtojehmkkbdedaaaGreat
open Go.RowKit A R
namespace G
/-- Is one event directly ahead of another one? -/
def dirB (l : List Event) (j i : Nat) : Bool := decide (last l j (l.getD j default).client = some i) || (decide ((l.getD j default).kind = 2) && !(decide ((l.getD j default).n = 0) && decide ((l.getD j default).s = 0)) && decide (first l l.length (keyE (l.getD j default)) = some i))
def dirN (l : List Event) (j : Nat) : List Nat := (List.range j).filter (dirB l j)
theorem dirN_lt {l : List Event} {j i : Nat} (h : i ∈ dirN l j) : i < j := List.mem_range.1 (List.mem_filter.1 h).1
theorem dirN_mem {l : List Event} {j i : Nat} : i ∈ dirN l j ↔ i < j ∧ dirB l j i = true := by unfold dirN; rw [List.mem_filter, List.mem_range]
/-- Two rows that rise, of the same numbers. -/
theorem rise_eq : ∀ {a b : List Int}, a.Pairwise (· < ·) → b.Pairwise (· < ·) → (∀ x, x ∈ a ↔ x ∈ b) → a = b
  | [], [], _, _, _ => rfl
  | [], y :: b, _, _, h => by have := (h y).2 (by simp); cases this
  | x :: a, [], _, _, h => by have := (h x).1 (by simp); cases this
  | x :: a, y :: b, ha, hb, h => by
    have ha' := List.pairwise_cons.1 ha
    have hb' := List.pairwise_cons.1 hb
    have e : x = y := by
      have h1 := (h x).1 (by simp)
      have h2 := (h y).2 (by simp)
      rcases List.mem_cons.1 h1 with h1 | h1
      · exact h1
      · rcases List.mem_cons.1 h2 with h2 | h2
        · exact h2.symm
        · have := hb'.1 x h1; have := ha'.1 y h2; omega
    subst e
    congr 1
    refine rise_eq ha'.2 hb'.2 fun z => ⟨fun hz => ?_, fun hz => ?_⟩
    · rcases List.mem_cons.1 ((h z).1 (by simp [hz])) with h1 | h1
      · have := ha'.1 z hz; omega
      · exact h1
    · rcases List.mem_cons.1 ((h z).2 (by simp [hz])) with h1 | h1
      · have := hb'.1 z hz; omega
      · exact h1
theorem sort_rise {l : List Int} (h : l.Nodup) : (sortI l).Pairwise (· < ·) := by
  have h1 : (sortI l).Pairwise (· ≤ ·) := by
    have := List.pairwise_mergeSort (le := fun x y : Int => decide (x ≤ y)) (fun a b c h1 h2 => by simp at *; omega) (fun a b => by simp; omega) l
    exact this.imp (fun h => by simpa using h)
  have h2 : (sortI l).Nodup := (List.mergeSort_perm l _).nodup_iff.2 h
  exact (List.Pairwise.and h1 h2).imp fun ⟨h3, h4⟩ => by omega
theorem sort_mem {l : List Int} {x : Int} : x ∈ sortI l ↔ x ∈ l := by simp [sortI]
theorem reads_iff {l : List Event} {j : Nat} : reads l j = true ↔ (l.getD j default).kind = 2 ∧ ¬ ((l.getD j default).n = 0 ∧ (l.getD j default).s = 0) ∧ ∃ w, first l l.length (keyE (l.getD j default)) = some w ∧ w < j ∧ (w : Int) ∉ prev l j := by
  unfold reads
  cases hf : first l l.length (keyE (l.getD j default)) with
  | none => simp
  | some w =>
    simp only [Bool.and_eq_true, decide_eq_true_eq, Bool.not_eq_true', Bool.and_eq_false_iff, decide_eq_false_iff_not, List.any_eq_false, Option.some.injEq, exists_eq_left', and_assoc]
    constructor
    · rintro ⟨h1, h2, h3, h4⟩
      exact ⟨h1, fun ⟨h5, h6⟩ => by rcases h2 with h2 | h2 <;> contradiction, h3, fun h5 => h4 _ h5 (by simp)⟩
    · rintro ⟨h1, h2, h3, h4⟩
      refine ⟨h1, ?_, h3, fun x hx e => ?_⟩
      · by_cases h5 : (l.getD j default).n = 0
        · exact .inr fun h6 => h2 ⟨h5, h6⟩
        · exact .inl h5
      · first
        | (subst e; exact h4 hx)
        | (have e := of_decide_eq_true e; subst e; exact h4 hx)
theorem prev_mem {l : List Event} {j : Nat} {x : Int} : x ∈ prev l j ↔ ∃ i : Nat, last l j (l.getD j default).client = some i ∧ x = i := by
  unfold prev
  cases last l j (l.getD j default).client with
  | none => simp
  | some i => simp
theorem prev_nodup (l : List Event) (j : Nat) : (prev l j).Nodup := by
  unfold prev
  cases last l j (l.getD j default).client <;> simp
theorem dirs_eq (l : List Event) (j : Nat) : dirs l j = (dirN l j).map fun (i : Nat) => (i : Int) := by
  refine rise_eq ?_ ?_ fun x => ?_
  · unfold dirs
    refine sort_rise ?_
    rw [List.nodup_append]
    refine ⟨prev_nodup l j, by split <;> simp, fun a ha b hb => ?_⟩
    split at hb
    · rename_i hr
      obtain ⟨_, _, w, hw, _, hn⟩ := reads_iff.1 hr
      have : wr l j = w := by unfold wr; rw [hw]
      simp only [List.mem_singleton] at hb
      rw [hb, this]
      intro e
      exact hn (e ▸ ha)
    · cases hb
  · rw [List.pairwise_map]
    unfold dirN
    refine (List.Pairwise.filter _ (List.pairwise_lt_range (n := j))).imp fun h => by omega
  · unfold dirs
    rw [sort_mem, List.mem_append, List.mem_map, prev_mem]
    constructor
    · rintro (⟨i, h1, rfl⟩ | h)
      · exact ⟨i, dirN_mem.2 ⟨(last_lt h1).1, by unfold dirB; rw [h1]; simp⟩, rfl⟩
      · split at h
        · rename_i hr
          obtain ⟨h1, h2, w, hw, h3, hn⟩ := reads_iff.1 hr
          have e : wr l j = w := by unfold wr; rw [hw]
          simp only [List.mem_singleton] at h
          refine ⟨w, dirN_mem.2 ⟨h3, ?_⟩, by rw [h, e]⟩
          unfold dirB
          rw [hw]
          by_cases h5 : (l.getD j default).n = 0 <;> by_cases h6 : (l.getD j default).s = 0
          · exact absurd ⟨h5, h6⟩ h2
          all_goals (generalize l.getD j default = e at h1 h5 h6 ⊢; simp [h1, h5, h6])
        · cases h
    · rintro ⟨i, h, rfl⟩
      obtain ⟨h1, h2⟩ := dirN_mem.1 h
      by_cases hp : (i : Int) ∈ prev l j
      · exact .inl (prev_mem.1 hp)
      · refine .inr ?_
        unfold dirB at h2
        simp only [Bool.or_eq_true, Bool.and_eq_true, decide_eq_true_eq, Bool.not_eq_true', Bool.and_eq_false_iff, decide_eq_false_iff_not] at h2
        rcases h2 with h2 | ⟨⟨h3, h4⟩, h5⟩
        · exact absurd (prev_mem.2 ⟨i, h2, rfl⟩) hp
        · have hr : reads l j = true := reads_iff.2 ⟨h3, fun ⟨h6, h7⟩ => by rcases h4 with h4 | h4 <;> contradiction, i, h5, h1, hp⟩
          rw [if_pos hr]
          unfold wr
          rw [h5]
          simp
def ahF (l : List Event) : Nat → Nat → Nat → Bool
  | 0, _, _ => false
  | f + 1, i, k => (dirN l i).any fun d => d == k || ahF l f d k
def ah (l : List Event) (i k : Nat) : Bool := ahF l (i + 1) i k
theorem ahF_all (l : List Event) : ∀ (i f : Nat), i < f → ∀ k, ahF l f i k = ahF l (i + 1) i k := by
  intro i
  induction i using Nat.strongRecOn with
  | ind i ih =>
    intro f hf k
    obtain ⟨f, rfl⟩ : ∃ g, f = g + 1 := ⟨f - 1, by omega⟩
    show (dirN l i).any _ = (dirN l i).any _
    have : ∀ d ∈ dirN l i, (d == k || ahF l f d k) = (d == k || ahF l i d k) := fun d hd => by
      have hlt := dirN_lt hd
      rw [ih d hlt f (by omega) k, ih d hlt i hlt k]
    rw [Bool.eq_iff_iff, List.any_eq_true, List.any_eq_true]
    constructor
    · rintro ⟨d, h1, h2⟩; exact ⟨d, h1, by rw [← this d h1]; exact h2⟩
    · rintro ⟨d, h1, h2⟩; exact ⟨d, h1, by rw [this d h1]; exact h2⟩
theorem ah_iff {l : List Event} {i k : Nat} : ah l i k = true ↔ ∃ d ∈ dirN l i, d = k ∨ ah l d k = true := by
  unfold ah
  rw [ahF, List.any_eq_true]
  constructor
  · rintro ⟨d, h1, h2⟩
    refine ⟨d, h1, ?_⟩
    rw [ahF_all l d i (dirN_lt h1)] at h2
    simpa using h2
  · rintro ⟨d, h1, h2⟩
    refine ⟨d, h1, ?_⟩
    rw [ahF_all l d i (dirN_lt h1)]
    simpa using h2
abbrev VS := (Nat → Bool) × Nat
def add (s : VS) (k : Nat) : VS := (fun x => x == k || s.1 x, s.2 + 1)
def visit (l : List Event) : Nat → VS → Nat → VS
  | 0, s, _ => s
  | f + 1, s, j => (dirN l j).foldl (fun s k => if s.1 k then s else visit l f (add s k) k) s
def stepV (l : List Event) (f : Nat) (s : VS) (k : Nat) : VS := if s.1 k then s else visit l f (add s k) k
def visAt (l : List Event) (f : Nat) (s : VS) (j k : Nat) : VS := ((dirN l j).take k).foldl (stepV l f) s
theorem visAt_succ (l : List Event) (f : Nat) (s : VS) (j : Nat) {k : Nat} (hk : k < (dirN l j).length) : visAt l f s j (k + 1) = stepV l f (visAt l f s j k) (dirN l j)[k] := by
  unfold visAt
  rw [List.take_succ_eq_append_getElem hk, List.foldl_append]; rfl
theorem visAt_all (l : List Event) (f : Nat) (s : VS) (j : Nat) : visAt l f s j (dirN l j).length = visit l (f + 1) s j := by
  unfold visAt
  rw [List.take_length]; rfl
/-- What a search leaves. -/
structure Seen (l : List Event) (s s' : VS) (ks : List Nat) : Prop where
  sub : ∀ x, s.1 x = true → s'.1 x = true
  all : ∀ k ∈ ks, s'.1 k = true
  new : ∀ x, s'.1 x = true → s.1 x = true ∨ ∃ k ∈ ks, x = k ∨ ah l k x = true
  closed : ∀ x, s'.1 x = true → s.1 x = true ∨ ∀ d ∈ dirN l x, s'.1 d = true
theorem visit_seen (l : List Event) : ∀ (f : Nat) (j : Nat), j < f → ∀ s, Seen l s (visit l f s j) (dirN l j)
  | 0, _, h, _ => by omega
  | f + 1, j, hj, s => by
    have go : ∀ (ks : List Nat), (∀ k ∈ ks, k < f) → ∀ s, Seen l s (ks.foldl (stepV l f) s) ks := by
      intro ks
      induction ks with
      | nil => intro _ s; exact ⟨fun _ h => h, (fun k hk => by cases hk), fun x h => .inl h, fun x h => .inl h⟩
      | cons k ks ih =>
        intro hks s
        have h1 : Seen l s (stepV l f s k) [k] := by
          unfold stepV
          split
          · rename_i h
            exact ⟨fun _ h => h, fun k' hk' => by simp at hk'; subst hk'; exact h, fun x h => .inl h, fun x h => .inl h⟩
          · have h2 := visit_seen l f k (hks k (by simp)) (add s k)
            have hk : (visit l f (add s k) k).1 k = true := h2.sub k (by simp [add])
            refine ⟨fun x hx => h2.sub x (by simp [add, hx]), fun k' hk' => by simp at hk'; subst hk'; exact hk, fun x hx => ?_, fun x hx => ?_⟩
            · rcases h2.new x hx with h3 | ⟨d, h3, h4⟩
              · simp only [add, Bool.or_eq_true, beq_iff_eq] at h3
                rcases h3 with h3 | h3
                · exact .inr ⟨k, by simp, .inl h3⟩
                · exact .inl h3
              · exact .inr ⟨k, by simp, .inr (ah_iff.2 ⟨d, h3, h4.imp Eq.symm id⟩)⟩
            · rcases h2.closed x hx with h3 | h3
              · simp only [add, Bool.or_eq_true, beq_iff_eq] at h3
                rcases h3 with h3 | h3
                · subst h3; exact .inr h2.all
                · exact .inl h3
              · exact .inr h3
        have h2 := ih (fun k' hk' => hks k' (by simp [hk'])) (stepV l f s k)
        refine ⟨fun x hx => h2.sub x (h1.sub x hx), fun k' hk' => ?_, fun x hx => ?_, fun x hx => ?_⟩
        · rcases List.mem_cons.1 hk' with rfl | hk'
          · exact h2.sub _ (h1.all _ (by simp))
          · exact h2.all k' hk'
        · rcases h2.new x hx with h3 | ⟨k', h3, h4⟩
          · rcases h1.new x h3 with h5 | ⟨k', h5, h6⟩
            · exact .inl h5
            · exact .inr ⟨k', by simp at h5; simp [h5], h6⟩
          · exact .inr ⟨k', by simp [h3], h4⟩
        · rcases h2.closed x hx with h3 | h3
          · rcases h1.closed x h3 with h5 | h5
            · exact .inl h5
            · exact .inr fun d hd => h2.sub d (h5 d hd)
          · exact .inr h3
    exact go (dirN l j) (fun k hk => by have := dirN_lt hk; omega) s
def noneV : VS := (fun _ => false, 0)
theorem visit_ah (l : List Event) (i k : Nat) : (visit l (i + 1) noneV i).1 k = ah l i k := by
  have h := visit_seen l (i + 1) i (by omega) noneV
  rw [Bool.eq_iff_iff]
  constructor
  · intro hk
    rcases h.new k hk with h1 | ⟨d, h1, h2⟩
    · cases h1
    · exact ah_iff.2 ⟨d, h1, h2.imp Eq.symm id⟩
  · intro hk
    have go : ∀ (d : Nat), (visit l (i + 1) noneV i).1 d = true → ah l d k = true → (visit l (i + 1) noneV i).1 k = true := by
      intro d
      induction d using Nat.strongRecOn with
      | ind d ih =>
        intro hd ha
        obtain ⟨e, h1, h2⟩ := ah_iff.1 ha
        rcases h.closed d hd with h3 | h3
        · cases h3
        · rcases h2 with rfl | h2
          · exact h3 _ h1
          · exact ih e (dirN_lt h1) (h3 e h1) h2
    obtain ⟨d, h1, h2⟩ := ah_iff.1 hk
    rcases h2 with rfl | h2
    · exact h.all _ h1
    · exact go d (h.all d h1) h2
/-- How many it marks. -/
def room (n : Nat) (s : VS) : Nat := s.2 + (List.range n).countP fun k => !s.1 k
theorem room_add {n : Nat} {s : VS} {k : Nat} (hk : k < n) (h : s.1 k = false) : room n (add s k) = room n s := by
  unfold room add
  have e : ∀ m, k < m → (List.range m).countP (fun x => !s.1 x) = (List.range m).countP (fun x => !(x == k || s.1 x)) + 1 := by
    intro m hm
    induction m with
    | zero => omega
    | succ m ih =>
      rw [List.range_succ, List.countP_append, List.countP_append]
      rcases Nat.lt_or_ge k m with h1 | h1
      · rw [ih h1]
        have : (m == k) = false := by simp; omega
        simp only [List.countP_singleton, this, Bool.false_or]
        omega
      · obtain rfl : k = m := by omega
        have : (List.range k).countP (fun x => !(x == k || s.1 x)) = (List.range k).countP (fun x => !s.1 x) := by
          apply List.countP_congr
          intro x hx
          have := List.mem_range.1 hx
          have : (x == k) = false := by simp; omega
          simp [this]
        rw [this]
        simp [List.countP_singleton, h]
  have := e n hk
  simp only at *
  omega
theorem room_visit (l : List Event) (n : Nat) : ∀ (f : Nat) (j : Nat) (s : VS), j ≤ n → room n (visit l f s j) = room n s
  | 0, _, _, _ => rfl
  | f + 1, j, s, hj => by
    have go : ∀ (ks : List Nat), (∀ k ∈ ks, k < n) → ∀ s, room n (ks.foldl (stepV l f) s) = room n s := by
      intro ks
      induction ks with
      | nil => intro _ s; rfl
      | cons k ks ih =>
        intro hks s
        rw [List.foldl_cons, ih (fun k' hk' => hks k' (by simp [hk']))]
        unfold stepV
        split
        · rfl
        · rename_i h
          have hk := hks k (by simp)
          rw [room_visit l n f k (add s k) (by omega), room_add hk (by simpa using h)]
    exact go (dirN l j) (fun k hk => by have := dirN_lt hk; omega) s
theorem room_at (l : List Event) (n f : Nat) (s : VS) (j k : Nat) (hj : j ≤ n) : room n (visAt l f s j k) = room n s := by
  have go : ∀ (ks : List Nat), (∀ k ∈ ks, k < n) → ∀ s, room n (ks.foldl (stepV l f) s) = room n s := by
    intro ks
    induction ks with
    | nil => intro _ s; rfl
    | cons k ks ih =>
      intro hks s
      rw [List.foldl_cons, ih (fun k' hk' => hks k' (by simp [hk']))]
      unfold stepV
      split
      · rfl
      · rename_i h
        have hk := hks k (by simp)
        rw [room_visit l n f k (add s k) (by omega), room_add hk (by simpa using h)]
  exact go _ (fun k hk => by have := dirN_lt (List.mem_of_mem_take hk); omega) s
theorem room_le {n : Nat} {s : VS} {B : Nat} (h : room n s ≤ B) : s.2 ≤ B := by unfold room at h; omega
/-- The search's map. -/
def mOf (m : Nat → Bool) (z : Int) : Option Bool := if 0 ≤ z ∧ m z.toNat = true then some true else none
theorem mOf_none : mOf (fun _ => false) = fun _ => none := by funext z; simp [mOf]
theorem mOf_get (m : Nat → Bool) (k : Nat) : (mOf m (k : Int)).getD false = m k := by
  unfold mOf
  cases h : m k <;> simp [h]
theorem mOf_add (s : VS) (k : Nat) : (fun c' : Int => if c' = (k : Int) then some true else mOf s.1 c') = mOf (add s k).1 := by
  funext c
  unfold mOf add
  by_cases h : c = (k : Int)
  · subst h; simp
  · rw [if_neg h]
    by_cases h0 : 0 ≤ c
    · have : (c.toNat == k) = false := by simp; omega
      simp only [this, Bool.false_or]
    · simp [h0]
def aheadN (l : List Event) (i : Nat) : List Nat := (List.range l.length).filter (ah l i)
end G
end Go.Proofs.YtojehmkkbdedaaaGreat
namespace Go.Proofs.YtojehmkkbdedaaaGreat
open Go.RowKit A R
open A.RowT
abbrev natsA (l : List Nat) : List (List AV) := l.map fun (i : Nat) => [iv i]
namespace G
def dRows (l : List Event) : List (List AV) := (List.range l.length).map fun j => [.sl 1 (natsA (dirN l j))]
end G
theorem dirs_a (l : List Event) (hl : l.length ≤ 1000) : ACall Tryz.prog 73 [.sl 6 (l.map Event.row)] (.sl 1 (G.dRows l)) := by
  have h := direct_a l hl
  have e : ((List.range l.length).map fun j => [AV.sl 1 ((G.dirs l j).map fun x => [iv x])]) = G.dRows l := by
    unfold G.dRows
    apply List.map_congr_left
    intro j _
    rw [G.dirs_eq, List.map_map]; rfl
  rw [e] at h
  exact h
namespace G
def caps (l : List Event) : SV := .fnb 84 [] [.d (.fp [.sl 1 (dRows l)]), .bx 1002 0 0, .bx 1003 0 0]
def obsS (l : List Event) (b : Nat) (s : VS) : Obs := [(1002, .box 112 [.ow 1012 0]), (1012, .op (mapO (Value.int .i64) okI (fun x : Bool => bv x) b s.2 (mOf s.1))), (1003, .box 123 [caps l])]
abbrev insS (l : List Event) (j : Nat) : List SV := [.d (iv j), .d (.fp [.sl 1 (dRows l)]), .bx 1002 0 0, .bx 1003 0 0]
theorem dRows_at (l : List Event) {j : Nat} (hj : j < l.length) : (dRows l)[j]? = some [.sl 1 (natsA (dirN l j))] := by
  unfold dRows
  rw [List.getElem?_map, List.getElem?_range hj]; rfl
end G
set_option maxRecDepth 100000 in
set_option maxHeartbeats 1000000 in
theorem visit_step (l : List Event) (hl : l.length ≤ 1000) (b : Nat) (f j : Nat) (s : G.VS) (hgo : ∀ (k : Nat) (s' : G.VS), k < f → k < j → G.room l.length s' ≤ 2000 → GCall Tryz.prog 84 (G.insS l k) (G.obsS l b s') (some (G.obsS l b (G.visit l f s' k), .d (.tup []))))
    (hj : j < l.length) (hf : j < f + 1) (hs : G.room l.length s ≤ 2000) : GCall Tryz.prog 84 (G.insS l j) (G.obsS l b s) (some (G.obsS l b (G.visit l (f + 1) s j), .d (.tup []))) := by
  refine GCall_enter (fun _ _ => by kernel_rfl) Tryz.func84 rfl Tryz.ntmps84 (ReadsS.r0 Tryz.results84) (Nat.le_of_ble_eq_true rfl) (fun hok hokB M0 w0 => ?_)
  have hdl : (G.dirN l j).length ≤ 1000 := by
    unfold G.dirN
    have := List.length_filter_le (G.dirB l j) (List.range j)
    rw [List.length_range] at this
    omega
  refine Aw_scope (Aw_seq (Aw_label (Aw_seq (Aw_region ?_))))
  refine Al_p (Pu_load1 rfl Tryz.isAgg114 rfl rfl) ?_
  refine Al_p Pu_mvl ?_
  refine Al_p (Pu_index rfl Tryz.underlying114 Tryz.sizeOf22 rfl rfl (rfl) (G.dRows_at l hj)) ?_
  refine Al_p (Pu_load1 rfl Tryz.isAgg22 rfl rfl) ?_
  refine Al_p (Pu_len rfl Tryz.underlying22 rfl (by first | exact List.length_map .. | exact rfl)) ?_
  refine Al_p Pu_mvl ?_
  refine Al_nil (Aw_block ?_)
  refine Aw_loopk (ι := Nat) [2, 3, 10, 11] [1002, 1003] (fun k => [(12, .d (iv k))]) (fun k => [(1012, 0, .op (mapO (Value.int .i64) okI (fun x : Bool => bv x) b (G.visAt l f s j k).2 (G.mOf (G.visAt l f s j k).1)))]) (fun k => k ≤ (G.dirN l j).length) (fun k => (G.dirN l j).length - k) (0) (Nat.zero_le _) ⟨Sub.rfl, trivial⟩ ⟨rfl, trivial⟩ ?_
  rintro k hk0
  refine Aw_seq (Aw_region ?_)
  refine Al_p (Pu_cmp rfl rfl rfl rfl) ?_
  refine Al_nil (Aw_seq ?_)
  refine Aw_cond rfl (fun h13 => ?_) (fun h13 => ?_)
  · (try simp only [decide_eq_true_eq, decide_eq_false_iff_not, Bool.and_eq_true, Bool.or_eq_true, Bool.and_eq_false_iff, Bool.or_eq_false_iff, Bool.not_eq_true', Bool.not_eq_false', beq_iff_eq, Bool.not_eq_eq_eq_not, Bool.not_true, Bool.not_false, List.length_map, Bool.and_true, Bool.and_false, Bool.false_and, Bool.true_and, Bool.or_false, Bool.false_or] at h13)
    have hk : k < (G.dirN l j).length := by omega
    have hdk := G.dirN_lt (List.getElem_mem hk)
    have hro := G.room_at l l.length f s j k (by omega)
    have hrl := G.room_le (B := 2000) (by rw [hro]; exact hs)
    have hvs := G.visAt_succ l f s j hk
    have hokk : okI (((G.dirN l j)[k]'hk : Nat) : Int) := ⟨by omega, by omega⟩
    refine Aw_skip ?_
    -- join 0: live [2, 3, 10, 11, 12], turned []
    refine Aw_seq (Aw_block (Aw_seq (Aw_region ?_)))
    refine Al_p (Pu_index rfl Tryz.underlying22 Tryz.sizeOf3 rfl rfl (rfl) (mapget hk)) ?_
    refine Al_p (Pu_load1 rfl Tryz.isAgg3 rfl rfl) ?_
    refine Al_p Pu_mvr ?_
    refine Al_nil (Aw_seq (Aw_seq (Aw_region ?_)))
    refine Al_p (Pu_loadb rfl Tryz.isAgg112 rfl rfl rfl) ?_
    refine Al_p Pu_mvl ?_
    refine Al_p (Pu_lookupB (c := (((G.dirN l j)[k]'hk : Nat) : Int)) (int_key0 Tryz.underlying3) rfl Tryz.underlying112 Tryz.zeroValue4 rfl rfl rfl (Only.v _) hokk (G.mOf_get _ _)) ?_
    refine Al_nil ?_
    refine Aw_cond rfl (fun h18 => ?_) (fun h18 => ?_)
    · (try simp only [decide_eq_true_eq, decide_eq_false_iff_not, Bool.and_eq_true, Bool.or_eq_true, Bool.and_eq_false_iff, Bool.or_eq_false_iff, Bool.not_eq_true', Bool.not_eq_false', beq_iff_eq, Bool.not_eq_eq_eq_not, Bool.not_true, Bool.not_false, List.length_map, Bool.and_true, Bool.and_false, Bool.false_and, Bool.true_and, Bool.or_false, Bool.false_or] at h18)
      have hst : G.stepV l f (G.visAt l f s j k) ((G.dirN l j)[k]'hk) = G.visAt l f s j k := by unfold G.stepV; rw [if_pos h18]
      refine Aw_exit (Aw_region ?_)
      refine Al_p (Pu_add rfl rfl rfl (fun h1 h2 => by simp only [A.inI, A.maxI] at *; omega)) ?_
      refine Al_p Pu_mvl ?_
      refine Al_nil ?_
      exact ⟨k + 1, by omega, by omega, Le.ov ⟨Sub.num (by omega), trivial⟩ ⟨Sub.rfl, Sub.rfl, Sub.rfl, Sub.rfl, trivial⟩ ⟨mapeq (by rw [hvs, hst]) (by rw [hvs, hst]), trivial⟩ ⟨rfl, rfl, trivial⟩⟩ -- loop 0 next.0
    · (try simp only [decide_eq_true_eq, decide_eq_false_iff_not, Bool.and_eq_true, Bool.or_eq_true, Bool.and_eq_false_iff, Bool.or_eq_false_iff, Bool.not_eq_true', Bool.not_eq_false', beq_iff_eq, Bool.not_eq_eq_eq_not, Bool.not_true, Bool.not_false, List.length_map, Bool.and_true, Bool.and_false, Bool.false_and, Bool.true_and, Bool.or_false, Bool.false_or] at h18)
      have hst : G.stepV l f (G.visAt l f s j k) ((G.dirN l j)[k]'hk) = G.visit l f (G.add (G.visAt l f s j k) ((G.dirN l j)[k]'hk)) ((G.dirN l j)[k]'hk) := by unfold G.stepV; rw [if_neg (by rw [h18]; decide)]
      have hra := G.room_add (n := l.length) (s := G.visAt l f s j k) (k := (G.dirN l j)[k]'hk) (by omega) h18
      have hcall := hgo ((G.dirN l j)[k]'hk) (G.add (G.visAt l f s j k) ((G.dirN l j)[k]'hk)) (by omega) hdk (by rw [hra, hro]; exact hs)
      refine Aw_skip (Aw_seq (Aw_region ?_))
      refine Al_p (Pu_loadb rfl Tryz.isAgg112 rfl rfl rfl) ?_
      refine Al_p Pu_mvl ?_
      refine Al_mapUpdate (c := (((G.dirN l j)[k]'hk : Nat) : Int)) (v := true) (int_key0 Tryz.underlying3) rfl rfl rfl (by kernel_rfl) Tryz.underlying112 (by simp only [maxLen]; omega) rfl rfl rfl (Only.v _) hokk Sub.rfl ?_
      refine Al_nil (Aw_region ?_)
      refine Al_p (Pu_loadb rfl Tryz.isAgg123 rfl rfl rfl) ?_
      refine Al_p Pu_mvl ?_
      refine Al_gcallv [(1002, 1002, 0), (1012, 1012, 0), (1003, 1003, 0)] [] hcall rfl rfl rfl (by decide) (by kernel_rfl) rfl ⟨rfl, mapeq rfl (G.mOf_add _ _), rfl, trivial⟩ rfl [.d (iv ((G.dirN l j)[k]'hk : Nat))] rfl ⟨Sub.rfl, trivial⟩ (fun g23 => ?_)
      refine Al_nil (Aw_region ?_)
      refine Al_p (Pu_add rfl rfl rfl (fun h1 h2 => by simp only [A.inI, A.maxI] at *; omega)) ?_
      refine Al_p Pu_mvl ?_
      refine Al_nil ?_
      exact ⟨k + 1, by omega, by omega, Le.ov ⟨Sub.num (by omega), trivial⟩ ⟨Sub.rfl, Sub.rfl, Sub.rfl, Sub.rfl, trivial⟩ ⟨mapeq (by rw [hvs, hst]) (by rw [hvs, hst]), trivial⟩ ⟨rfl, rfl, trivial⟩⟩ -- loop 0 next.1
  · (try simp only [decide_eq_true_eq, decide_eq_false_iff_not, Bool.and_eq_true, Bool.or_eq_true, Bool.and_eq_false_iff, Bool.or_eq_false_iff, Bool.not_eq_true', Bool.not_eq_false', beq_iff_eq, Bool.not_eq_eq_eq_not, Bool.not_true, Bool.not_false, List.length_map, Bool.and_true, Bool.and_false, Bool.false_and, Bool.true_and, Bool.or_false, Bool.false_or] at h13)
    have hkk : k = (G.dirN l j).length := by omega
    refine Aw_exit ?_
    exact ⟨_, _, [], rfl, rfl, ⟨rfl, mapeq (by rw [hkk, G.visAt_all]) (by rw [hkk, G.visAt_all]), rfl, trivial⟩, rfl⟩ -- ret 0
theorem visit_g (l : List Event) (hl : l.length ≤ 1000) (b : Nat) : ∀ (f j : Nat) (s : G.VS), j < f → j < l.length → G.room l.length s ≤ 2000 → GCall Tryz.prog 84 (G.insS l j) (G.obsS l b s) (some (G.obsS l b (G.visit l f s j), .d (.tup [])))
  | 0, _, _, h, _, _ => by omega
  | f + 1, j, s, h, hj, hs => visit_step l hl b f j s (fun k s' h1 h2 h3 => visit_g l hl b f k s' h1 (by omega) h3) hj h hs
theorem G.room_none (n : Nat) : G.room n G.noneV = n := by
  unfold G.room G.noneV
  simp
set_option maxRecDepth 100000 in
theorem ahead_g (l : List Event) (hl : l.length ≤ 1000) (i : Nat) (hi : i < l.length) : GCallE Tryz.prog 72 [.d (.sl 1 (G.dRows l)), .d (iv i)] [] (ι := Nat × Nat) (fun bn => some ([(1001, .op (mapO (Value.int .i64) okI (fun x : Bool => bv x) bn.1 bn.2 (G.mOf (G.ah l i))))], .ow 1001 0)) := by
  refine GCallE_enter (fun _ _ => by kernel_rfl) Tryz.func72 rfl Tryz.ntmps72 (ReadsS.r1 Tryz.results72) (Nat.le_of_ble_eq_true rfl) (fun hok hokB M0 w0 => ?_)
  have hva : (G.visit l (i + 1) G.noneV i).1 = G.ah l i := funext fun k => G.visit_ah l i k
  refine Aw_seq (Aw_region ?_)
  refine Al_p (Pu_box1 rfl rfl (by nofun) (by nofun)) ?_
  refine Al_p Pu_mvr ?_
  refine Al_nil (Aw_seq (Aw_region ?_))
  refine Al_makeMap (Value.int .i64) okI (fun x : Bool => bv x) rfl rfl rfl (by decide) (fun b7 g7 => ?_)
  refine Al_alloc rfl rfl rfl (by decide) Tryz.zeroValue112 rfl (by kernel_rfl) (fun g5 => ?_)
  refine Al_store1 rfl rfl rfl (by kernel_rfl) Tryz.isAgg112 Tryz.sizeOf112 rfl rfl (Nat.le_of_ble_eq_true rfl) (by conv => lhs; whnf) rfl ?_
  refine Al_nil (Aw_seq (Aw_region ?_))
  refine Al_alloc rfl rfl rfl (by decide) Tryz.zeroValue123 rfl (by kernel_rfl) (fun g6 => ?_)
  refine Al_nil (Aw_seq (Aw_region ?_))
  refine Al_p (Pu_makeFuncS (ys := []) (xs := [_, _, _]) [] [.d (.fp [.sl 1 (G.dRows l)]), .bx 5 g5 0, .bx 6 g6 0] rfl trivial ⟨Sub.rfl, Sub.rfl, Sub.rfl, trivial⟩) ?_
  refine Al_store1 rfl rfl rfl (by kernel_rfl) Tryz.isAgg123 Tryz.sizeOf123 rfl rfl (Nat.le_of_ble_eq_true rfl) (by conv => lhs; whnf) rfl ?_
  refine Al_nil (Aw_seq ?_)
  have hin := visit_g l hl b7 (i + 1) i G.noneV (by omega) hi (by rw [G.room_none]; omega)
  refine Aw_region ?_
  refine Al_p (Pu_loadb rfl Tryz.isAgg123 rfl rfl rfl) ?_
  refine Al_p Pu_mvl ?_
  refine Al_gcallv [(1002, 5, g5), (1012, 7, g7), (1003, 6, g6)] [] hin rfl rfl rfl (by decide) (by kernel_rfl) rfl ⟨rfl, mapeq rfl G.mOf_none.symm, rfl, trivial⟩ rfl [.d (iv i)] rfl ⟨Sub.rfl, trivial⟩ (fun g11 => ?_)
  refine Al_nil (Aw_seq (Aw_region ?_))
  refine Al_p (Pu_loadb rfl Tryz.isAgg112 rfl rfl rfl) ?_
  refine Al_p Pu_mvr ?_
  refine Al_nil ?_
  refine Aw_ret ?_
  exact ⟨(b7, _), _, _, [(1001, 7, g7)], rfl, Sub.rfl, ⟨mapeq rfl (by rw [hva]), trivial⟩, rfl⟩ -- ret 0
end Go.Proofs.YtojehmkkbdedaaaGreat
namespace Go.Proofs.YtojehmkkbdedaaaGreat
open Go.RowKit A R
open A.RowT
namespace G
def aheadI (l : List Event) (i : Int) : List Nat := if 0 ≤ i ∧ i < l.length then aheadN l i.toNat else []
theorem aheadI_at (l : List Event) {i : Nat} (hi : i < l.length) : aheadI l i = aheadN l i := by
  unfold aheadI
  rw [if_pos ⟨by omega, by omega⟩, Int.toNat_natCast]
theorem aheadI_no (l : List Event) {i : Int} (hi : ¬ (0 ≤ i ∧ i < l.length)) : aheadI l i = [] := if_neg hi
theorem aheadI_lt {l : List Event} {i : Int} {k : Nat} (h : k ∈ aheadI l i) : k < l.length := by
  unfold aheadI at h
  split at h
  · exact List.mem_range.1 (List.mem_filter.1 h).1
  · cases h
theorem aheadI_len (l : List Event) (i : Int) : (aheadI l i).length ≤ l.length := by
  unfold aheadI
  split
  · unfold aheadN
    have := List.length_filter_le (ah l i.toNat) (List.range l.length)
    rwa [List.length_range] at this
  · simp
def aheadTo (l : List Event) (i k : Nat) : List Nat := (List.range k).filter (ah l i)
theorem aheadTo_succ (l : List Event) (i k : Nat) : aheadTo l i (k + 1) = aheadTo l i k ++ if ah l i k then [k] else [] := by
  unfold aheadTo
  rw [List.range_succ, List.filter_append]
  congr 1
  cases h : ah l i k <;> simp [h]
theorem aheadTo_len (l : List Event) (i k : Nat) : (aheadTo l i k).length ≤ k := by
  unfold aheadTo
  have := List.length_filter_le (ah l i) (List.range k)
  rwa [List.length_range] at this
end G
theorem natsA_app (l m : List Nat) : natsA (l ++ m) = natsA l ++ natsA m := List.map_append
set_option maxRecDepth 100000 in
set_option maxHeartbeats 1000000 in
theorem gahead_a (l : List Event) (hl : l.length ≤ 1000) (i : Int) : ACall Tryz.prog 50 [.sl 6 (l.map Event.row), iv i] (.sl 1 (natsA (G.aheadI l i))) := by
  refine ACall_enter (fun _ _ => by kernel_rfl) Tryz.func50 rfl Tryz.ntmps50 Tryz.results50 (Nat.le_of_ble_eq_true rfl) (fun hok M0 w0 hnl => ?_)
  have hda := dirs_a l hl
  refine Aw_seq (Aw_region ?_)
  refine Al_p Pu_mvr ?_
  refine Al_nil (Aw_seq (Aw_seq (Aw_region ?_)))
  refine Al_p Pu_mvl ?_
  refine Al_p (Pu_cmp rfl rfl rfl rfl) ?_
  refine Al_p Pu_mvl ?_
  refine Al_st (St_gd [] rfl rfl rfl rfl trivial (fun hg11 => by exact Pu_move (.inl rfl) (by conv => lhs; whnf))) rfl (by decide) (by kernel_rfl) (by intro j b oj dj h1 h2 h3; cases h1; cases h2; cases h3; decide) ?_
  refine Al_st (St_gd [] rfl rfl rfl rfl trivial (fun hg12 => by exact Pu_move (.inl rfl) (by conv => lhs; whnf))) rfl (by decide) (by kernel_rfl) (by intro j b oj dj h1 h2 h3; cases h1; cases h2; cases h3; decide) ?_
  refine Al_st (St_gd [12] rfl rfl rfl rfl ⟨⟨_, rfl⟩, trivial⟩ (fun hg13 => by exact Pu_len rfl Tryz.underlying30 rfl (by first | exact List.length_map .. | exact rfl))) rfl (by decide) (by kernel_rfl) (by intro j b oj dj h1 h2 h3; cases h1; cases h2; cases h3; decide) ?_
  refine Al_st (St_gd [11, 13] rfl rfl rfl rfl ⟨⟨_, rfl⟩, ⟨_, rfl⟩, trivial⟩ (fun hg14 => Pu_cmp rfl rfl rfl rfl)) rfl (by decide) (by kernel_rfl) (by intro j b oj dj h1 h2 h3; cases h1; cases h2; cases h3; decide) ?_
  refine Al_p (Pu_or rfl rfl rfl rfl) ?_
  refine Al_nil ?_
  refine Aw_cond rfl (fun h15 => ?_) (fun h15 => ?_)
  · (try simp only [decide_eq_true_eq, decide_eq_false_iff_not, Bool.and_eq_true, Bool.or_eq_true, Bool.and_eq_false_iff, Bool.or_eq_false_iff, Bool.not_eq_true', Bool.not_eq_false', beq_iff_eq, Bool.not_eq_eq_eq_not, Bool.not_true, Bool.not_false, List.length_map, Bool.and_true, Bool.and_false, Bool.false_and, Bool.true_and, Bool.or_false, Bool.false_or] at h15)
    have hno : ¬ (0 ≤ i ∧ i < l.length) := by omega
    rw [G.aheadI_no l hno]
    refine Aw_seq (Aw_region ?_)
    refine Al_p Pu_mvr ?_
    refine Al_nil ?_
    refine Aw_ret ?_
    exact Sub.nil -- ret 0
  · (try simp only [decide_eq_true_eq, decide_eq_false_iff_not, Bool.and_eq_true, Bool.or_eq_true, Bool.and_eq_false_iff, Bool.or_eq_false_iff, Bool.not_eq_true', Bool.not_eq_false', beq_iff_eq, Bool.not_eq_eq_eq_not, Bool.not_true, Bool.not_false, List.length_map, Bool.and_true, Bool.and_false, Bool.false_and, Bool.true_and, Bool.or_false, Bool.false_or] at h15)
    have hyes : 0 ≤ i ∧ i < l.length := by omega
    obtain ⟨i, rfl⟩ : ∃ n : Nat, i = n := ⟨i.toNat, by omega⟩
    have hi : i < l.length := by omega
    rw [G.aheadI_at l hi]
    have hag := ahead_g l hl i hi
    refine Aw_skip (Aw_seq (Aw_region ?_))
    refine Al_p Pu_mvl ?_
    refine Al_p (Pu_call (hda) rfl ⟨Sub.rfl, trivial⟩) ?_
    refine Al_p Pu_mvl ?_
    refine Al_gcallE [] [(1001, 19)] (hag) rfl rfl rfl (by decide) (by kernel_rfl) trivial (fun _ => rfl) rfl rfl ⟨Sub.rfl, Sub.rfl, trivial⟩ ?_
    rintro bn19 g19
    refine Al_p Pu_mvr ?_
    refine Al_nil (Aw_seq (Aw_region ?_))
    refine Al_p Pu_mvr ?_
    refine Al_nil (Aw_seq (Aw_seq (Aw_region ?_)))
    refine Al_p Pu_mvl ?_
    refine Al_p (Pu_len rfl Tryz.underlying30 rfl (by first | exact List.length_map .. | exact rfl)) ?_
    refine Al_p Pu_mvl ?_
    refine Al_nil (Aw_block ?_)
    refine Aw_own (j := 6) (k := 6) (T := 3) (n := 1) rfl (fun g0 => ?_)
    refine Aw_loopk (ι := Nat × Nat) [5, 21] [19] (fun (k, g) => [(22, .d (iv k)), (6, .ow 6 g)]) (fun (k, g) => [(6, g, .arr 3 1 (natsA (G.aheadTo l i k)))]) (fun (k, g) => k ≤ l.length) (fun (k, g) => l.length - k) ((0, g0)) (Nat.zero_le _) ⟨Sub.rfl, Sub.rfl, trivial⟩ ⟨rfl, trivial⟩ ?_
    rintro ⟨k, g⟩ hk0
    refine Aw_seq (Aw_region ?_)
    refine Al_p (Pu_cmp rfl rfl rfl rfl) ?_
    refine Al_nil (Aw_seq ?_)
    refine Aw_cond rfl (fun h23 => ?_) (fun h23 => ?_)
    · (try simp only [decide_eq_true_eq, decide_eq_false_iff_not, Bool.and_eq_true, Bool.or_eq_true, Bool.and_eq_false_iff, Bool.or_eq_false_iff, Bool.not_eq_true', Bool.not_eq_false', beq_iff_eq, Bool.not_eq_eq_eq_not, Bool.not_true, Bool.not_false, List.length_map, Bool.and_true, Bool.and_false, Bool.false_and, Bool.true_and, Bool.or_false, Bool.false_or] at h23)
      have hk : k < l.length := by omega
      have hal := G.aheadTo_len l i k
      refine Aw_skip ?_
      -- join 0: live [5, 6, 21, 22], turned [6]
      refine Aw_seq (Aw_block (Aw_seq (Aw_region ?_)))
      refine Al_p Pu_mvl ?_
      refine Al_p Pu_mvr ?_
      refine Al_nil (Aw_seq (Aw_region ?_))
      refine Al_p Pu_mvl ?_
      refine Al_p Pu_mvl ?_
      refine Al_p (Pu_lookupB (c := (k : Int)) (r := G.ah l i k) (int_key0 Tryz.underlying3) rfl Tryz.underlying112 Tryz.zeroValue4 rfl rfl rfl (Only.v _) ⟨by omega, by omega⟩ (G.mOf_get _ _)) ?_
      refine Al_nil ?_
      refine Aw_cond rfl (fun h27 => ?_) (fun h27 => ?_)
      · (try simp only [decide_eq_true_eq, decide_eq_false_iff_not, Bool.and_eq_true, Bool.or_eq_true, Bool.and_eq_false_iff, Bool.or_eq_false_iff, Bool.not_eq_true', Bool.not_eq_false', beq_iff_eq, Bool.not_eq_eq_eq_not, Bool.not_true, Bool.not_false, List.length_map, Bool.and_true, Bool.and_false, Bool.false_and, Bool.true_and, Bool.or_false, Bool.false_or] at h27)
        refine Aw_region ?_
        refine Al_p Pu_mvl ?_
        refine Al_p Pu_mvl ?_
        refine Al_p (Pu_slice1 rfl Tryz.underlying22 Tryz.sizeOf3 Tryz.zeroValue3 rfl (by decide) (by decide) (by kernel_rfl) rfl rfl rfl) ?_
        refine Al_append rfl rfl rfl (by decide) (by kernel_rfl) elem22 (by decide) Tryz.sizeOf3 rfl rfl rfl (by rw [List.length_map, List.length_singleton]; omega) (by decide) (fun g31 => ?_)
        refine Al_p Pu_mvr ?_
        refine Al_nil (Aw_region ?_)
        refine Al_p (Pu_add rfl rfl rfl (fun h1 h2 => by simp only [A.inI, A.maxI] at *; omega)) ?_
        refine Al_p Pu_mvl ?_
        refine Al_nil ?_
        exact ⟨(k + 1, g31), by omega, by simp only []; omega, Le.ov ⟨Sub.num (by omega), Sub.rfl, trivial⟩ ⟨Sub.rfl, Sub.rfl, trivial⟩ ⟨obeq (by rw [G.aheadTo_succ, h27, if_pos rfl, natsA_app]; rfl), trivial⟩ ⟨rfl, trivial⟩⟩ -- loop 0 next.0
      · (try simp only [decide_eq_true_eq, decide_eq_false_iff_not, Bool.and_eq_true, Bool.or_eq_true, Bool.and_eq_false_iff, Bool.or_eq_false_iff, Bool.not_eq_true', Bool.not_eq_false', beq_iff_eq, Bool.not_eq_eq_eq_not, Bool.not_true, Bool.not_false, List.length_map, Bool.and_true, Bool.and_false, Bool.false_and, Bool.true_and, Bool.or_false, Bool.false_or] at h27)
        refine Aw_skip (Aw_region ?_)
        refine Al_p (Pu_add rfl rfl rfl (fun h1 h2 => by simp only [A.inI, A.maxI] at *; omega)) ?_
        refine Al_p Pu_mvl ?_
        refine Al_nil ?_
        exact ⟨(k + 1, g), by omega, by simp only []; omega, Le.ov ⟨Sub.num (by omega), Sub.rfl, trivial⟩ ⟨Sub.rfl, Sub.rfl, trivial⟩ ⟨obeq (by rw [G.aheadTo_succ, h27, if_neg (by decide), List.append_nil]), trivial⟩ ⟨rfl, trivial⟩⟩ -- loop 0 next.1
    · (try simp only [decide_eq_true_eq, decide_eq_false_iff_not, Bool.and_eq_true, Bool.or_eq_true, Bool.and_eq_false_iff, Bool.or_eq_false_iff, Bool.not_eq_true', Bool.not_eq_false', beq_iff_eq, Bool.not_eq_eq_eq_not, Bool.not_true, Bool.not_false, List.length_map, Bool.and_true, Bool.and_false, Bool.false_and, Bool.true_and, Bool.or_false, Bool.false_or] at h23)
      obtain rfl : k = l.length := by omega
      refine Aw_exit (Aw_seq (Aw_region ?_))
      refine Al_p Pu_mvl ?_
      refine Al_p Pu_mvr ?_
      refine Al_nil ?_
      refine Aw_frz hnl (k := 6) [4] rfl ⟨rfl, trivial⟩ ?_
      refine Aw_ret ?_
      exact Sub.rfl -- ret 1
namespace G
def edgesAt (l : List Event) (j : Nat) : List (Nat × Nat) := (dirN l j).map fun i => (i, j)
def edgesTo (l : List Event) (k : Nat) : List (Nat × Nat) := (List.range k).flatMap (edgesAt l)
def edges (l : List Event) : List (Nat × Nat) := edgesTo l l.length
end G
end Go.Proofs.YtojehmkkbdedaaaGreat
namespace Go.Proofs.YtojehmkkbdedaaaGreat
open Go.RowKit A R
open A.RowT
namespace G
end G
namespace G
def depE (e : Event) : Dep := ⟨e.key, e.n, e.s⟩
def seenS (l : List Event) (p : List Dep) (j : Nat) : List Dep := if (l.getD j default).kind = 1 then D.add p (depE (l.getD j default)) else p
def seenTo (l : List Event) (js : List Nat) (k : Nat) : List Dep := (js.take k).foldl (seenS l) []
theorem seenTo_succ (l : List Event) (js : List Nat) {k : Nat} (hk : k < js.length) : seenTo l js (k + 1) = seenS l (seenTo l js k) js[k] := by
  unfold seenTo
  rw [List.take_succ_eq_append_getElem hk, List.foldl_append]; rfl
theorem seenTo_good (l : List Event) (js : List Nat) : ∀ (k : Nat), k ≤ js.length → D.Good (seenTo l js k) ∧ (seenTo l js k).length ≤ k
  | 0, _ => ⟨D.good_nil, Nat.le_refl _⟩
  | k + 1, hk => by
    obtain ⟨h1, h2⟩ := seenTo_good l js k (by omega)
    rw [seenTo_succ l js (by omega)]
    unfold seenS
    split
    · have := D.add_len (seenTo l js k) (depE (l.getD js[k] default))
      exact ⟨D.add_good h1 _, by omega⟩
    · exact ⟨h1, by omega⟩
def seen (l : List Event) (i : Int) : List Dep := seenTo l (aheadI l i) (aheadI l i).length
theorem seen_good (l : List Event) (i : Int) : D.Good (seen l i) := (seenTo_good l _ _ (Nat.le_refl _)).1
theorem seen_len (l : List Event) (i : Int) : (seen l i).length ≤ l.length := Nat.le_trans (seenTo_good l _ _ (Nat.le_refl _)).2 (aheadI_len l i)
def wrB (e w : Event) : Bool := decide (w.kind = 1) && w.key.toList == e.key.toList && (w.n == e.n && w.s == e.s)
def writtenB (l : List Event) (i : Nat) : Bool := ((l.getD i default).n == 0 && (l.getD i default).s == 0) || (l.take i).any (wrB (l.getD i default))
def badB (l : List Event) (i : Nat) : Bool := decide ((l.getD i default).kind = 2) && (!writtenB l i || D.lessB (l.getD i default).n (l.getD i default).s (D.get (seen l i) (l.getD i default).key).1 (D.get (seen l i) (l.getD i default).key).2)
def fine (l : List Event) : Int := S.find (badB l) (List.range l.length)
end G
set_option maxRecDepth 100000 in
set_option maxHeartbeats 1000000 in
theorem gseen_a (l : List Event) (hl : l.length ≤ 1000) (i : Int) : ACall Tryz.prog 29 [.sl 6 (l.map Event.row), iv i] (.sl 3 ((G.seen l i).map Dep.row)) := by
  refine ACall_enter (fun _ _ => by kernel_rfl) Tryz.func29 rfl Tryz.ntmps29 Tryz.results29 (Nat.le_of_ble_eq_true rfl) (fun hok M0 w0 hnl => ?_)
  have hA := gahead_a l hl i
  have hal := G.aheadI_len l i
  refine Aw_seq (Aw_region ?_)
  refine Al_p Pu_mvr ?_
  refine Al_nil (Aw_seq (Aw_region ?_))
  refine Al_p Pu_mvr ?_
  refine Al_nil (Aw_seq (Aw_seq (Aw_region ?_)))
  refine Al_p Pu_mvl ?_
  refine Al_p Pu_mvl ?_
  refine Al_p (Pu_call (hA) rfl ⟨Sub.rfl, Sub.rfl, trivial⟩) ?_
  refine Al_p (Pu_len rfl Tryz.underlying22 rfl (by first | exact List.length_map .. | exact rfl)) ?_
  refine Al_p Pu_mvl ?_
  refine Al_nil (Aw_block ?_)
  refine Aw_loopk (ι := Nat) [0, 10, 11] [] (fun k => [(12, .d (iv k)), (5, .d (.sl 3 ((G.seenTo l (G.aheadI l i) k).map Dep.row)))]) (fun k => []) (fun k => k ≤ (G.aheadI l i).length) (fun k => (G.aheadI l i).length - k) (0) (Nat.zero_le _) ⟨Sub.rfl, Sub.nil, trivial⟩ trivial ?_
  rintro k hk0
  refine Aw_seq (Aw_region ?_)
  refine Al_p (Pu_cmp rfl rfl rfl rfl) ?_
  refine Al_nil (Aw_seq ?_)
  refine Aw_cond rfl (fun h13 => ?_) (fun h13 => ?_)
  · (try simp only [decide_eq_true_eq, decide_eq_false_iff_not, Bool.and_eq_true, Bool.or_eq_true, Bool.and_eq_false_iff, Bool.or_eq_false_iff, Bool.not_eq_true', Bool.not_eq_false', beq_iff_eq, Bool.not_eq_eq_eq_not, Bool.not_true, Bool.not_false, List.length_map, Bool.and_true, Bool.and_false, Bool.false_and, Bool.true_and, Bool.or_false, Bool.false_or] at h13)
    have hk : k < (G.aheadI l i).length := by omega
    have hjl := G.aheadI_lt (List.getElem_mem hk)
    obtain ⟨hg1, hg2⟩ := G.seenTo_good l (G.aheadI l i) k (by omega)
    have hpa := padd_a (G.seenTo l (G.aheadI l i) k) (G.depE (l.getD ((G.aheadI l i)[k]'hk) default)) hg1 (by omega)
    have hss := G.seenTo_succ l (G.aheadI l i) hk
    refine Aw_skip ?_
    -- join 0: live [0, 5, 10, 11, 12], turned [5]
    refine Aw_seq (Aw_block (Aw_seq (Aw_region ?_)))
    refine Al_p (Pu_index rfl Tryz.underlying22 Tryz.sizeOf3 rfl rfl (rfl) (mapget hk)) ?_
    refine Al_p (Pu_load1 rfl Tryz.isAgg3 rfl rfl) ?_
    refine Al_p Pu_mvr ?_
    refine Al_nil (Aw_seq (Aw_region ?_))
    refine Al_p Pu_mvl ?_
    refine Al_p Pu_mvl ?_
    refine Al_p (Pu_index rfl Tryz.underlying30 Tryz.sizeOf51 rfl rfl (rfl) (mapgetD (d := default) hjl)) ?_
    refine Al_p (Pu_field 0 rfl Tryz.underlying51 rfl rfl Tryz.sizeOf3 rfl) ?_
    refine Al_p (Pu_load1 rfl Tryz.isAgg3 rfl rfl) ?_
    refine Al_p (Pu_cmp rfl rfl rfl rfl) ?_
    refine Al_nil ?_
    refine Aw_cond rfl (fun h21 => ?_) (fun h21 => ?_)
    · skip
      have hst := of_decide_eq_true h21
      refine Aw_draw 13 (by kernel_rfl) (by kernel_rfl) ?_
      refine Dr_p Pu_mvl ?_
      refine Dr_p Pu_mvl ?_
      refine Dr_p Pu_mvl ?_
      refine Dr_p (Pu_index rfl Tryz.underlying30 Tryz.sizeOf51 rfl rfl (rfl) (mapgetD (d := default) hjl)) ?_
      refine Dr_p (Pu_field 2 rfl Tryz.underlying51 rfl rfl Tryz.sizeOf9 rfl) ?_
      refine Dr_p (Pu_load1 rfl Tryz.isAgg9 rfl rfl) ?_
      refine Dr_p Pu_mvl ?_
      refine Dr_p Pu_mvl ?_
      refine Dr_p (Pu_index rfl Tryz.underlying30 Tryz.sizeOf51 rfl rfl (rfl) (mapgetD (d := default) hjl)) ?_
      refine Dr_p (Pu_field 3 rfl Tryz.underlying51 rfl rfl Tryz.sizeOf43 rfl) ?_
      refine Dr_p (Pu_loadN rfl Tryz.isAgg43 Tryz.sizeOf43 rfl (Nat.le_of_ble_eq_true rfl)) ?_
      refine Dr_p (Pu_build (aa := [(0, _), (1, _)]) rfl Tryz.underlying45 Tryz.zeroValue45 (places45 Tryz.underlying45) (by kernel_rfl) ⟨rfl, rfl, rfl, rfl, rfl, rfl, trivial⟩ rfl) ?_
      refine Dr_p (Pu_call (hpa) rfl ⟨Sub.rfl, Sub.rfl, trivial⟩) ?_
      refine Dr_nil ?_
      refine Al_p Pu_mvr ?_
      refine Al_nil (Aw_region ?_)
      refine Al_p (Pu_add rfl rfl rfl (fun h1 h2 => by simp only [A.inI, A.maxI] at *; omega)) ?_
      refine Al_p Pu_mvl ?_
      refine Al_nil ?_
      exact ⟨k + 1, by omega, by omega, Le.ov ⟨Sub.num (by omega), Sub.d (by rw [hss]; unfold G.seenS; rw [if_pos hst]), trivial⟩ ⟨Sub.rfl, Sub.rfl, Sub.rfl, trivial⟩ trivial trivial⟩ -- loop 0 next.0
    · skip
      have hst := of_decide_eq_false h21
      refine Aw_skip (Aw_region ?_)
      refine Al_p (Pu_add rfl rfl rfl (fun h1 h2 => by simp only [A.inI, A.maxI] at *; omega)) ?_
      refine Al_p Pu_mvl ?_
      refine Al_nil ?_
      exact ⟨k + 1, by omega, by omega, Le.ov ⟨Sub.num (by omega), Sub.d (by rw [hss]; unfold G.seenS; rw [if_neg hst]), trivial⟩ ⟨Sub.rfl, Sub.rfl, Sub.rfl, trivial⟩ trivial trivial⟩ -- loop 0 next.1
  · (try simp only [decide_eq_true_eq, decide_eq_false_iff_not, Bool.and_eq_true, Bool.or_eq_true, Bool.and_eq_false_iff, Bool.or_eq_false_iff, Bool.not_eq_true', Bool.not_eq_false', beq_iff_eq, Bool.not_eq_eq_eq_not, Bool.not_true, Bool.not_false, List.length_map, Bool.and_true, Bool.and_false, Bool.false_and, Bool.true_and, Bool.or_false, Bool.false_or] at h13)
    have hkk : k = (G.aheadI l i).length := by omega
    refine Aw_exit (Aw_seq (Aw_region ?_))
    refine Al_p Pu_mvl ?_
    refine Al_p Pu_mvr ?_
    refine Al_nil ?_
    refine Aw_ret ?_
    exact Sub.d (by rw [hkk]; rfl) -- ret 0
set_option maxRecDepth 100000 in
theorem written1_a (e w : Event) : ACall Tryz.prog 71 [.row (Event.row w), .fp (Event.row e)] (bv (G.wrB e w)) := by
  refine ACall_enter (fun _ _ => by kernel_rfl) Tryz.func71 rfl Tryz.ntmps71 Tryz.results71 (Nat.le_of_ble_eq_true rfl) (fun hok M0 w0 hnl => ?_)
  refine Aw_seq (Aw_region ?_)
  refine Al_p (Pu_boxN rfl rfl) ?_
  refine Al_p Pu_mvr ?_
  refine Al_nil (Aw_seq (Aw_region ?_))
  refine Al_p (Pu_field 0 rfl Tryz.underlying51 rfl rfl Tryz.sizeOf3 rfl) ?_
  refine Al_p (Pu_load1 rfl Tryz.isAgg3 rfl rfl) ?_
  refine Al_p (Pu_cmp rfl rfl rfl rfl) ?_
  refine Al_p Pu_mvl ?_
  refine Al_st (St_gd [] rfl rfl rfl rfl trivial (fun hg8 => Pu_field 2 rfl Tryz.underlying51 rfl rfl Tryz.sizeOf9 rfl)) rfl (by decide) (by kernel_rfl) (by intro j b oj dj h1 h2 h3; cases h1; cases h2; cases h3; decide) ?_
  refine Al_st (St_gd [8] rfl rfl rfl rfl ⟨⟨_, rfl⟩, trivial⟩ (fun hg9 => Pu_load1 rfl Tryz.isAgg9 rfl rfl)) rfl (by decide) (by kernel_rfl) (by intro j b oj dj h1 h2 h3; cases h1; cases h2; cases h3; decide) ?_
  refine Al_st (St_gd [] rfl rfl rfl rfl trivial (fun hg10 => Pu_field 2 rfl Tryz.underlying51 rfl rfl Tryz.sizeOf9 rfl)) rfl (by decide) (by kernel_rfl) (by intro j b oj dj h1 h2 h3; cases h1; cases h2; cases h3; decide) ?_
  refine Al_st (St_gd [10] rfl rfl rfl rfl ⟨⟨_, rfl⟩, trivial⟩ (fun hg11 => Pu_load1 rfl Tryz.isAgg9 rfl rfl)) rfl (by decide) (by kernel_rfl) (by intro j b oj dj h1 h2 h3; cases h1; cases h2; cases h3; decide) ?_
  refine Al_st (St_gd [9, 11] rfl rfl rfl rfl ⟨⟨_, rfl⟩, ⟨_, rfl⟩, trivial⟩ (fun hg12 => Pu_str rfl rfl rfl rfl)) rfl (by decide) (by kernel_rfl) (by intro j b oj dj h1 h2 h3; cases h1; cases h2; cases h3; decide) ?_
  refine Al_p (Pu_and rfl rfl rfl rfl) ?_
  refine Al_p Pu_mvl ?_
  refine Al_st (St_gd [] rfl rfl rfl rfl trivial (fun hg15 => Pu_field 3 rfl Tryz.underlying51 rfl rfl Tryz.sizeOf43 rfl)) rfl (by decide) (by kernel_rfl) (by intro j b oj dj h1 h2 h3; cases h1; cases h2; cases h3; decide) ?_
  refine Al_st (St_gd [15] rfl rfl rfl rfl ⟨⟨_, rfl⟩, trivial⟩ (fun hg16 => Pu_loadN rfl Tryz.isAgg43 Tryz.sizeOf43 rfl (Nat.le_of_ble_eq_true rfl))) rfl (by decide) (by kernel_rfl) (by intro j b oj dj h1 h2 h3; cases h1; cases h2; cases h3; decide) ?_
  refine Al_st (St_gd [] rfl rfl rfl rfl trivial (fun hg17 => Pu_field 3 rfl Tryz.underlying51 rfl rfl Tryz.sizeOf43 rfl)) rfl (by decide) (by kernel_rfl) (by intro j b oj dj h1 h2 h3; cases h1; cases h2; cases h3; decide) ?_
  refine Al_st (St_gd [17] rfl rfl rfl rfl ⟨⟨_, rfl⟩, trivial⟩ (fun hg18 => Pu_loadN rfl Tryz.isAgg43 Tryz.sizeOf43 rfl (Nat.le_of_ble_eq_true rfl))) rfl (by decide) (by kernel_rfl) (by intro j b oj dj h1 h2 h3; cases h1; cases h2; cases h3; decide) ?_
  refine Al_st (St_gd [16, 18] rfl rfl rfl rfl ⟨⟨_, rfl⟩, ⟨_, rfl⟩, trivial⟩ (fun hg19 => Pu_eqrow [.int .i64 _, .int .i64 _] [.int .i64 _, .int .i64 _] (fun w => eqv43 _ _ _ _ _ _ w) rfl rfl rfl)) rfl (by decide) (by kernel_rfl) (by intro j b oj dj h1 h2 h3; cases h1; cases h2; cases h3; decide) ?_
  refine Al_p (Pu_and rfl rfl rfl rfl) ?_
  refine Al_p Pu_mvr ?_
  refine Al_nil ?_
  refine Aw_ret ?_
  exact Sub.rfl -- ret 0
set_option maxRecDepth 100000 in
theorem indexE_a (l : List Event) (f : FuncId) (caps : List AV) (p : Event → Bool) (hf : ∀ x, ACall Tryz.prog f ([.row (Event.row x)] ++ caps) (bv (p x))) : ACall Tryz.prog 83 [.sl 6 (l.map Event.row), .fn f caps] (iv (S.find p l)) := by
  refine ACall_enter (fun _ _ => by kernel_rfl) Tryz.func83 rfl Tryz.ntmps83 Tryz.results83 (Nat.le_of_ble_eq_true rfl) (fun hok M0 w0 hnl => ?_)
  have hlen := (hok _ (List.mem_cons_self ..)).len
  rw [List.length_map] at hlen
  refine Aw_seq (Aw_region ?_)
  refine Al_p Pu_mvr ?_
  refine Al_nil (Aw_seq (Aw_seq (Aw_region ?_)))
  refine Al_p Pu_mvl ?_
  refine Al_p (Pu_len rfl Tryz.underlying30 rfl (by first | exact List.length_map .. | exact rfl)) ?_
  refine Al_p Pu_mvl ?_
  refine Al_nil (Aw_block ?_)
  refine Aw_loopk (ι := Nat) [0, 1, 7] [] (fun k => [(8, .d (iv k))]) (fun k => []) (fun k => k ≤ l.length ∧ ∀ j (h : j < l.length), j < k → p l[j] = false) (fun k => l.length - k) (0) (⟨Nat.zero_le _, by intros; omega⟩) ⟨Sub.rfl, trivial⟩ trivial ?_
  rintro k ⟨hk0, hk2⟩
  refine Aw_seq (Aw_region ?_)
  refine Al_p (Pu_cmp rfl rfl rfl rfl) ?_
  refine Al_nil (Aw_seq ?_)
  refine Aw_cond rfl (fun h9 => ?_) (fun h9 => ?_)
  · (try simp only [decide_eq_true_eq, decide_eq_false_iff_not, Bool.and_eq_true, Bool.or_eq_true, Bool.and_eq_false_iff, Bool.or_eq_false_iff, Bool.not_eq_true', Bool.not_eq_false', beq_iff_eq, Bool.not_eq_eq_eq_not, Bool.not_true, Bool.not_false, List.length_map, Bool.and_true, Bool.and_false, Bool.false_and, Bool.true_and, Bool.or_false, Bool.false_or] at h9)
    have hk : k < l.length := by omega
    refine Aw_skip (Aw_seq (Aw_block (Aw_seq (Aw_region ?_))))
    refine Al_p Pu_mvl ?_
    refine Al_p Pu_mvr ?_
    refine Al_nil (Aw_seq (Aw_region ?_))
    refine Al_p Pu_mvl ?_
    refine Al_p Pu_mvl ?_
    refine Al_p Pu_mvl ?_
    refine Al_p (Pu_index rfl Tryz.underlying30 Tryz.sizeOf51 rfl rfl (rfl) (mapget hk)) ?_
    refine Al_p (Pu_loadN rfl Tryz.isAgg51 Tryz.sizeOf51 rfl (Nat.le_of_ble_eq_true rfl)) ?_
    refine Al_p (Pu_callv (aa := [(fun x => .row (Event.row x)) l[k]]) (caps := caps) (hf l[k]) rfl rfl ⟨Sub.rfl, trivial⟩) ?_
    refine Al_nil ?_
    refine Aw_cond rfl (fun h16 => ?_) (fun h16 => ?_)
    · skip
      refine Aw_seq (Aw_region ?_)
      refine Al_p Pu_mvl ?_
      refine Al_p Pu_mvr ?_
      refine Al_nil ?_
      refine Aw_ret ?_
      exact Sub.num (S.find_at hk h16 hk2) -- ret 0
    · skip
      have h16' : p l[k] = false := h16
      refine Aw_skip (Aw_region ?_)
      refine Al_p (Pu_add rfl rfl rfl (fun h1 h2 => by simp only [A.inI, A.maxI] at *; omega)) ?_
      refine Al_p Pu_mvl ?_
      refine Al_nil ?_
      exact ⟨k + 1, ⟨by omega, fun j hj hjk => by
        by_cases e : j = k
        · subst e; exact h16'
        · exact hk2 j hj (by omega)⟩, by omega, Le.ov ⟨Sub.num (by omega), trivial⟩ ⟨Sub.rfl, Sub.rfl, Sub.rfl, trivial⟩ trivial trivial⟩ -- loop 0 next.0
  · (try simp only [decide_eq_true_eq, decide_eq_false_iff_not, Bool.and_eq_true, Bool.or_eq_true, Bool.and_eq_false_iff, Bool.or_eq_false_iff, Bool.not_eq_true', Bool.not_eq_false', beq_iff_eq, Bool.not_eq_eq_eq_not, Bool.not_true, Bool.not_false, List.length_map, Bool.and_true, Bool.and_false, Bool.false_and, Bool.true_and, Bool.or_false, Bool.false_or] at h9)
    obtain rfl : k = l.length := by omega
    refine Aw_exit (Aw_seq (Aw_region ?_))
    refine Al_p Pu_mvr ?_
    refine Al_nil ?_
    refine Aw_ret ?_
    exact Sub.num (S.find_no hk2) -- ret 1
set_option maxRecDepth 100000 in
theorem containsE_a (l : List Event) (f : FuncId) (caps : List AV) (p : Event → Bool) (hf : ∀ x, ACall Tryz.prog f ([.row (Event.row x)] ++ caps) (bv (p x))) : ACall Tryz.prog 70 [.sl 6 (l.map Event.row), .fn f caps] (bv (l.any p)) := by
  refine ACall_enter (fun _ _ => by kernel_rfl) Tryz.func70 rfl Tryz.ntmps70 Tryz.results70 (Nat.le_of_ble_eq_true rfl) (fun hok M0 w0 hnl => ?_)
  refine Aw_seq (Aw_region ?_)
  refine Al_p Pu_mvr ?_
  refine Al_nil (Aw_seq (Aw_region ?_))
  refine Al_p Pu_mvl ?_
  refine Al_p Pu_mvl ?_
  refine Al_p (Pu_call (indexE_a l f caps p hf) rfl ⟨Sub.rfl, Sub.rfl, trivial⟩) ?_
  refine Al_p (Pu_cmp rfl rfl rfl rfl) ?_
  refine Al_p Pu_mvr ?_
  refine Al_nil ?_
  refine Aw_ret ?_
  exact Sub.bool S.find_any -- ret 0
set_option maxRecDepth 100000 in
theorem written_a (l : List Event) (i : Nat) (hi : i < l.length) : ACall Tryz.prog 48 [.sl 6 (l.map Event.row), iv i] (bv (G.writtenB l i)) := by
  refine ACall_enter (fun _ _ => by kernel_rfl) Tryz.func48 rfl Tryz.ntmps48 Tryz.results48 (Nat.le_of_ble_eq_true rfl) (fun hok M0 w0 hnl => ?_)
  refine Aw_seq (Aw_region ?_)
  refine Al_p Pu_mvr ?_
  refine Al_nil (Aw_seq (Aw_region ?_))
  refine Al_p (Pu_build (aa := []) rfl Tryz.underlying43 Tryz.zeroValue43 (places43 Tryz.underlying43) (by kernel_rfl) trivial rfl) ?_
  refine Al_alloc rfl rfl rfl (by decide) Tryz.zeroValue43 rfl (by kernel_rfl) (fun g5 => ?_)
  refine Al_storeN rfl rfl rfl (by kernel_rfl) Tryz.isAgg43 Tryz.sizeOf43 rfl rfl rfl rfl (Nat.le_of_ble_eq_true rfl) ?_
  refine Al_nil (Aw_seq (Aw_region ?_))
  refine Al_p Pu_mvl ?_
  refine Al_p Pu_mvl ?_
  refine Al_p (Pu_index rfl Tryz.underlying30 Tryz.sizeOf51 rfl rfl (rfl) (mapgetD (d := default) hi)) ?_
  refine Al_p (Pu_loadN rfl Tryz.isAgg51 Tryz.sizeOf51 rfl (Nat.le_of_ble_eq_true rfl)) ?_
  refine Al_alloc rfl rfl rfl (by decide) Tryz.zeroValue51 rfl (by kernel_rfl) (fun g6 => ?_)
  refine Al_storeN rfl rfl rfl (by kernel_rfl) Tryz.isAgg51 Tryz.sizeOf51 rfl rfl rfl rfl (Nat.le_of_ble_eq_true rfl) ?_
  refine Al_nil (Aw_seq ?_)
  refine Aw_frzb hnl (k := 6) (cs := Event.row (l.getD i default)) [6] rfl ⟨rfl, trivial⟩ ?_
  refine Aw_region ?_
  refine Al_p (Pu_field 3 rfl Tryz.underlying51 rfl rfl Tryz.sizeOf43 rfl) ?_
  refine Al_p (Pu_loadN rfl Tryz.isAgg43 Tryz.sizeOf43 rfl (Nat.le_of_ble_eq_true rfl)) ?_
  refine Al_p (Pu_loadbN (r := [_, _]) rfl Tryz.isAgg43 Tryz.sizeOf43 rfl rfl rfl rfl) ?_
  refine Al_p (Pu_eqrow [.int .i64 _, .int .i64 _] [.int .i64 _, .int .i64 _] (fun w => eqv43 _ _ _ _ _ _ w) rfl rfl rfl) ?_
  refine Al_p Pu_mvl ?_
  refine Al_st (St_gd [] rfl rfl rfl rfl trivial (fun hg17 => by exact Pu_move (.inl rfl) (by conv => lhs; whnf))) rfl (by decide) (by kernel_rfl) (by intro j b oj dj h1 h2 h3; cases h1; cases h2; cases h3; decide) ?_
  refine Al_st (St_gd [] rfl rfl rfl rfl trivial (fun hg18 => by exact Pu_move (.inl rfl) (by conv => lhs; whnf))) rfl (by decide) (by kernel_rfl) (by intro j b oj dj h1 h2 h3; cases h1; cases h2; cases h3; decide) ?_
  refine Al_st (St_gd [17, 18] rfl rfl rfl rfl ⟨⟨_, rfl⟩, ⟨_, rfl⟩, trivial⟩ (fun hg19 => by exact Pu_subL (0) (i) rfl Tryz.underlying30 Tryz.sizeOf51 rfl rfl ⟨_, rfl, by omega⟩ ⟨by first | omega | (simp; omega), by first | omega | (simp; omega)⟩)) rfl (by decide) (by kernel_rfl) (by intro j b oj dj h1 h2 h3; cases h1; cases h2; cases h3; decide) ?_
  refine Al_st (St_gd [] rfl rfl rfl rfl trivial (fun hg20 => Pu_makeFunc (caps := [.fp (Event.row (l.getD i default))]) rfl ⟨Sub.rfl, trivial⟩)) rfl (by decide) (by kernel_rfl) (by intro j b oj dj h1 h2 h3; cases h1; cases h2; cases h3; decide) ?_
  refine Al_st (St_gd [19, 20] rfl rfl rfl rfl ⟨⟨_, rfl⟩, ⟨_, rfl⟩, trivial⟩ (fun hg21 => by exact Pu_call (containsE_a (l.take i) _ _ _ (written1_a (l.getD i default))) rfl ⟨Sub.d (by simp [List.map_take]), Sub.rfl, trivial⟩)) rfl (by decide) (by kernel_rfl) (by intro j b oj dj h1 h2 h3; cases h1; cases h2; cases h3; decide) ?_
  refine Al_p (Pu_or rfl rfl rfl rfl) ?_
  refine Al_p Pu_mvr ?_
  refine Al_nil ?_
  refine Aw_ret ?_
  exact Sub.rfl -- ret 0
theorem G.seen_srt (l : List Event) (i : Int) : D.Srt (G.seen l i) := (G.seen_good l i).srt
set_option maxRecDepth 100000 in
set_option maxHeartbeats 1000000 in
theorem gfine_a (l : List Event) (hl : l.length ≤ 1000) : ACall Tryz.prog 27 [.sl 6 (l.map Event.row)] (iv (G.fine l)) := by
  refine ACall_enter (fun _ _ => by kernel_rfl) Tryz.func27 rfl Tryz.ntmps27 Tryz.results27 (Nat.le_of_ble_eq_true rfl) (fun hok M0 w0 hnl => ?_)
  have hseen := fun (i : Nat) => gseen_a l hl (i : Int)
  refine Aw_seq (Aw_region ?_)
  refine Al_p Pu_mvr ?_
  refine Al_nil (Aw_seq (Aw_seq (Aw_region ?_)))
  refine Al_p Pu_mvl ?_
  refine Al_p (Pu_len rfl Tryz.underlying30 rfl (by first | exact List.length_map .. | exact rfl)) ?_
  refine Al_p Pu_mvl ?_
  refine Al_nil (Aw_block ?_)
  refine Aw_loopk (ι := Nat) [0, 5, 6] [] (fun k => [(7, .d (iv k))]) (fun k => []) (fun k => k ≤ l.length ∧ ∀ j, j < k → G.badB l j = false) (fun k => l.length - k) (0) (⟨Nat.zero_le _, by intros; omega⟩) ⟨Sub.rfl, trivial⟩ trivial ?_
  rintro k ⟨hk0, hk2⟩
  refine Aw_seq (Aw_region ?_)
  refine Al_p (Pu_cmp rfl rfl rfl rfl) ?_
  refine Al_nil (Aw_seq ?_)
  refine Aw_cond rfl (fun h8 => ?_) (fun h8 => ?_)
  · (try simp only [decide_eq_true_eq, decide_eq_false_iff_not, Bool.and_eq_true, Bool.or_eq_true, Bool.and_eq_false_iff, Bool.or_eq_false_iff, Bool.not_eq_true', Bool.not_eq_false', beq_iff_eq, Bool.not_eq_eq_eq_not, Bool.not_true, Bool.not_false, List.length_map, Bool.and_true, Bool.and_false, Bool.false_and, Bool.true_and, Bool.or_false, Bool.false_or] at h8)
    have hk : k < l.length := by omega
    have hwr := written_a l k hk
    have hse := hseen k
    have hge := pget_a (G.seen l k) (l.getD k default).key (G.seen_srt l k) (by have := G.seen_len l k; omega)
    refine Aw_skip (Aw_seq (Aw_block (Aw_seq (Aw_region ?_))))
    refine Al_p Pu_mvl ?_
    refine Al_p (Pu_index rfl Tryz.underlying30 Tryz.sizeOf51 rfl rfl (rfl) (mapgetD (d := default) hk)) ?_
    refine Al_p (Pu_loadN rfl Tryz.isAgg51 Tryz.sizeOf51 rfl (Nat.le_of_ble_eq_true rfl)) ?_
    refine Al_alloc rfl rfl rfl (by decide) Tryz.zeroValue51 rfl (by kernel_rfl) (fun g4 => ?_)
    refine Al_p Pu_mvr ?_
    refine Al_storeN rfl rfl rfl (by kernel_rfl) Tryz.isAgg51 Tryz.sizeOf51 rfl rfl rfl rfl (Nat.le_of_ble_eq_true rfl) ?_
    refine Al_nil (Aw_seq ?_)
    refine Aw_draw 20 (by kernel_rfl) (by kernel_rfl) ?_
    refine Dr_p (Pu_fieldb 0 rfl Tryz.underlying51 rfl rfl Tryz.sizeOf3 rfl) ?_
    refine Dr_p (Pu_loadb rfl Tryz.isAgg3 rfl rfl rfl) ?_
    refine Dr_p (Pu_cmp rfl rfl rfl rfl) ?_
    refine Dr_p Pu_mvl ?_
    refine Dr_st (St_gd [] rfl rfl rfl rfl trivial (fun hg16 => by exact Pu_move (.inl rfl) (by conv => lhs; whnf))) rfl ?_
    refine Dr_st (St_gd [] rfl rfl rfl rfl trivial (fun hg17 => by exact Pu_move (.inl rfl) (by conv => lhs; whnf))) rfl ?_
    refine Dr_st (St_gd [16, 17] rfl rfl rfl rfl ⟨⟨_, rfl⟩, ⟨_, rfl⟩, trivial⟩ (fun hg18 => Pu_call (hwr) rfl ⟨Sub.rfl, Sub.rfl, trivial⟩)) rfl ?_
    refine Dr_st (St_gd [18] rfl rfl rfl rfl ⟨⟨_, rfl⟩, trivial⟩ (fun hg19 => Pu_not rfl rfl)) rfl ?_
    refine Dr_st (St_gd [19] rfl rfl rfl rfl ⟨⟨_, rfl⟩, trivial⟩ (fun hg20 => by exact Pu_move (.inl rfl) (by conv => lhs; whnf))) rfl ?_
    refine Dr_st (St_gd2 [] rfl rfl rfl rfl trivial (fun hp21 hg21 => Pu_fieldb 3 rfl Tryz.underlying51 rfl rfl Tryz.sizeOf43 rfl)) rfl ?_
    refine Dr_st (St_gd2 [21] rfl rfl rfl rfl ⟨⟨_, rfl⟩, trivial⟩ (fun hp22 hg22 => Pu_loadbN (r := [_, _]) rfl Tryz.isAgg43 Tryz.sizeOf43 rfl rfl rfl rfl)) rfl ?_
    refine Dr_st (St_gd2 [] rfl rfl rfl rfl trivial (fun hp23 hg23 => by exact Pu_move (.inl rfl) (by conv => lhs; whnf))) rfl ?_
    refine Dr_st (St_gd2 [] rfl rfl rfl rfl trivial (fun hp24 hg24 => by exact Pu_move (.inl rfl) (by conv => lhs; whnf))) rfl ?_
    refine Dr_st (St_gd2 [23, 24] rfl rfl rfl rfl ⟨⟨_, rfl⟩, ⟨_, rfl⟩, trivial⟩ (fun hp25 hg25 => Pu_call (hse) rfl ⟨Sub.rfl, Sub.rfl, trivial⟩)) rfl ?_
    refine Dr_st (St_gd2 [] rfl rfl rfl rfl trivial (fun hp26 hg26 => Pu_fieldb 2 rfl Tryz.underlying51 rfl rfl Tryz.sizeOf9 rfl)) rfl ?_
    refine Dr_st (St_gd2 [26] rfl rfl rfl rfl ⟨⟨_, rfl⟩, trivial⟩ (fun hp27 hg27 => Pu_loadb rfl Tryz.isAgg9 rfl rfl rfl)) rfl ?_
    refine Dr_st (St_gd2 [25, 27] rfl rfl rfl rfl ⟨⟨_, rfl⟩, ⟨_, rfl⟩, trivial⟩ (fun hp28 hg28 => Pu_call (hge) rfl ⟨Sub.rfl, Sub.rfl, trivial⟩)) rfl ?_
    refine Dr_st (St_gd2 [22, 28] rfl rfl rfl rfl ⟨⟨_, rfl⟩, ⟨_, rfl⟩, trivial⟩ (fun hp29 hg29 => Pu_call (less_a _ _ _ _) rfl ⟨Sub.rfl, Sub.rfl, trivial⟩)) rfl ?_
    refine Dr_st (St_gd [20] rfl rfl rfl rfl ⟨⟨_, rfl⟩, trivial⟩ (fun hg30 => Pu_orG rfl rfl rfl (fun h => ⟨hg30, h⟩) rfl)) rfl ?_
    refine Dr_p (Pu_and rfl rfl rfl rfl) ?_
    refine Dr_nil (Al_nil ?_)
    refine Aw_cond rfl (fun h31 => ?_) (fun h31 => ?_)
    · skip
      have hb : G.badB l k = true := h31
      have hff : G.fine l = k := by
        have := S.find_at (p := G.badB l) (l := List.range l.length) (k := k) (by simpa using hk) (by simpa using hb) (fun j hj hjk => by simpa using hk2 j hjk)
        simpa [G.fine] using this.symm
      refine Aw_seq (Aw_region ?_)
      refine Al_p Pu_mvl ?_
      refine Al_p Pu_mvr ?_
      refine Al_nil ?_
      refine Aw_ret ?_
      exact Sub.num hff.symm -- ret 0
    · skip
      have hb : G.badB l k = false := h31
      refine Aw_skip (Aw_region ?_)
      refine Al_p (Pu_add rfl rfl rfl (fun h1 h2 => by simp only [A.inI, A.maxI] at *; omega)) ?_
      refine Al_p Pu_mvl ?_
      refine Al_nil ?_
      exact ⟨k + 1, ⟨by omega, fun j hj => by
        by_cases e : j = k
        · subst e; exact hb
        · exact hk2 j (by omega)⟩, by omega, Le.ov ⟨Sub.num (by omega), trivial⟩ ⟨Sub.rfl, Sub.rfl, Sub.rfl, trivial⟩ trivial trivial⟩ -- loop 0 next.0
  · (try simp only [decide_eq_true_eq, decide_eq_false_iff_not, Bool.and_eq_true, Bool.or_eq_true, Bool.and_eq_false_iff, Bool.or_eq_false_iff, Bool.not_eq_true', Bool.not_eq_false', beq_iff_eq, Bool.not_eq_eq_eq_not, Bool.not_true, Bool.not_false, List.length_map, Bool.and_true, Bool.and_false, Bool.false_and, Bool.true_and, Bool.or_false, Bool.false_or] at h8)
    have hkk : k = l.length := by omega
    have hff : G.fine l = -1 := (S.find_no (p := G.badB l) (l := List.range l.length) (fun j hj hjk => by
      rw [List.length_range] at hj
      simpa using hk2 j (by omega))).symm
    refine Aw_exit (Aw_seq (Aw_region ?_))
    refine Al_p Pu_mvr ?_
    refine Al_nil ?_
    refine Aw_ret ?_
    exact Sub.num hff.symm -- ret 1
end Go.Proofs.YtojehmkkbdedaaaGreat
end

section
set_option maxRecDepth 100000
namespace Go.Proofs.YtojehmkkbdedaaaGreat
open Go.RowKit A R
namespace D
def coversB (p q : List Dep) : Bool := q.all fun d => !lessB (get p d.key).1 (get p d.key).2 d.n d.s
end D
abbrev pastA (p : List Dep) : AV := .sl 3 (p.map Dep.row)
end Go.Proofs.YtojehmkkbdedaaaGreat
end

section
namespace Go.Proofs.YtojehmkkbdedaaaGreat
open Go.RowKit A R
namespace G
/-- What the reverse scan has marked. -/
def mk (l : List Event) (i k x : Nat) : Bool := ((edges l).drop k).any fun p => decide (p.1 = x) && (decide (p.2 = i) || ah l i p.2)
def marks (l : List Event) (i k : Nat) : List Bool := (List.range l.length).map (mk l i k)
end G
end Go.Proofs.YtojehmkkbdedaaaGreat
namespace Go.Proofs.YtojehmkkbdedaaaGreat
open Go.RowKit A R
open A.RowT
namespace G
end G
end Go.Proofs.YtojehmkkbdedaaaGreat
namespace Go.Proofs.YtojehmkkbdedaaaGreat
open Go.RowKit A R
open A.RowT
end Go.Proofs.YtojehmkkbdedaaaGreat
namespace Go.Proofs.YtojehmkkbdedaaaGreat
open Go.RowKit A R
open A.RowT
end Go.Proofs.YtojehmkkbdedaaaGreat
end

section
namespace Go.Proofs.YtojehmkkbdedaaaGreat
open Go.RowKit A R
open A.RowT
namespace D
def addAll (p q : List Dep) : List Dep := q.foldl add p
def mergeL (l : List (List Dep)) : List Dep := addAll [] l.flatten
theorem addAll_len : ∀ (q p : List Dep), (addAll p q).length ≤ p.length + q.length
  | [], p => Nat.le_refl _
  | d :: q, p => by
    have h1 := addAll_len q (add p d)
    have h2 := add_len p d
    show (addAll (add p d) q).length ≤ _
    simp only [List.length_cons]
    omega
theorem addAll_succ (p q : List Dep) {k : Nat} (hk : k < q.length) : addAll p (q.take (k + 1)) = add (addAll p (q.take k)) q[k] := by
  unfold addAll
  rw [List.take_succ_eq_append_getElem hk, List.foldl_append]; rfl
theorem addAll_app (p q r : List Dep) : addAll p (q ++ r) = addAll (addAll p q) r := List.foldl_append
theorem flat_len (l : List (List Dep)) (k : Nat) : (l.take k).flatten.length ≤ l.flatten.length := by
  have : l.flatten = (l.take k).flatten ++ (l.drop k).flatten := by rw [← List.flatten_append, List.take_append_drop]
  rw [this, List.length_append]; omega
theorem flat_len2 (l : List (List Dep)) {k : Nat} (hk : k < l.length) : (l.take k).flatten.length + l[k].length ≤ l.flatten.length := by
  have := flat_len l (k + 1)
  rw [List.take_succ_eq_append_getElem hk, List.flatten_append, List.length_append] at this
  simpa using this
theorem mergeL_succ (l : List (List Dep)) {k : Nat} (hk : k < l.length) : mergeL (l.take (k + 1)) = addAll (mergeL (l.take k)) l[k] := by
  unfold mergeL
  rw [List.take_succ_eq_append_getElem hk, List.flatten_append, addAll_app]; simp
end D
namespace G
def behindN (l : List Event) (j : Nat) : List Dep := D.mergeL [(l.getD j default).seen, [depE (l.getD j default)]]
def behind (l : List Event) (i : Int) : List Dep := if 0 ≤ i ∧ i < l.length then behindN l i.toNat else []
theorem behind_at (l : List Event) {i : Nat} (hi : i < l.length) : behind l i = behindN l i := by
  unfold behind
  rw [if_pos ⟨by omega, by omega⟩, Int.toNat_natCast]
theorem behind_no (l : List Event) {i : Int} (hi : ¬ (0 ≤ i ∧ i < l.length)) : behind l i = [] := if_neg hi
end G
end Go.Proofs.YtojehmkkbdedaaaGreat
end

section
set_option maxRecDepth 100000
namespace Go.Proofs.YtojehmkkbdedaaaGreat
open Go.RowKit A R
open A.RowT
structure Ver where
  key : ByteArray
  value : ByteArray
  gone : Bool
  n : Int
  s : Int
  past : List Dep
def Ver.row (v : Ver) : List AV := [tv v.key, tv v.value, bv v.gone, iv v.n, iv v.s, .sl 3 (v.past.map Dep.row)]
instance : Inhabited Ver := ⟨⟨⟨#[]⟩, ⟨#[]⟩, false, 0, 0, []⟩⟩
instance : DecidableEq Ver := fun a b => decidable_of_iff (a.key = b.key ∧ a.value = b.value ∧ a.gone = b.gone ∧ a.n = b.n ∧ a.s = b.s ∧ a.past = b.past) (by cases a; cases b; simp)
namespace J
/-- A past that may be. -/
def okAt (p : List Dep) (i : Nat) : Bool := D.okB (p.getD i default) && (decide (i = 0) || Op.bytesLess (p.getD (i - 1) default).key.toList (p.getD i default).key.toList)
def pastB (p : List Dep) : Bool := (List.range p.length).all (okAt p) && decide ((p.length : Int) ≤ 24)
theorem adj_srt : ∀ (p : List Dep), (∀ i, i + 1 < p.length → Op.bytesLess (p.getD i default).key.toList (p.getD (i + 1) default).key.toList = true) → D.Srt p
  | [], _ => .nil
  | [x], _ => List.pairwise_singleton ..
  | x :: y :: r, h => by
    have ih := adj_srt (y :: r) fun i hi => h (i + 1) (by simpa using hi)
    have h0 : Op.bytesLess x.key.toList y.key.toList = true := h 0 (by simp)
    refine List.pairwise_cons.2 ⟨fun z hz => ?_, ih⟩
    rcases List.mem_cons.1 hz with rfl | hz
    · exact h0
    · exact K.bl_trans _ _ _ h0 ((List.pairwise_cons.1 ih).1 z hz)
theorem size_runes (s : ByteArray) : ∀ (k i f n : Nat), s.size - i ≤ k → s.size ≤ i + f → K.runesF s f i = some n → s.size ≤ i + 4 * n := by
  intro k
  induction k with
  | zero => intro i f n h _ _; omega
  | succ k ih =>
    intro i f n h hf hr
    by_cases hi : i < s.size
    · cases ho : K.okAt s i with
      | false => rw [K.runesF_bad s f i hi hf ho] at hr; cases hr
      | true =>
        obtain ⟨g, hg, e⟩ := K.runesF_ok s f i hi hf ho
        rw [e] at hr
        obtain ⟨m, hm, rfl⟩ := Option.map_eq_some_iff.1 hr
        have hw := K.wd_pos s i hi
        have hw4 : K.wd s i ≤ 4 := by rw [← (K.ref_ok s i hi).2 ho]; exact K.longN_le _
        have := ih (i + K.wd s i) g m (by omega) hg hm
        omega
    · omega
theorem check_size {s : ByteArray} (h : K.checkB s = true) : s.size ≤ 32 := by
  unfold K.checkB K.lim at h
  simp only [Bool.and_eq_true, decide_eq_true_eq] at h
  obtain ⟨⟨h1, h2⟩, _⟩ := h
  unfold K.runes at h1 h2
  split at h1
  · rename_i n hn
    have := size_runes s s.size 0 s.size n (by omega) (by omega) hn
    rw [hn] at h2
    simp only at h2
    omega
  · omega
def checkB (v : Ver) : Bool := K.checkB v.key && (V.stampB v.n v.s && (pastB v.past && (decide ((v.value.size : Int) ≤ 32) && (!v.gone || (v.value.toList == (⟨#[]⟩ : ByteArray).toList)))))
theorem ver_key {v : Ver} (h : checkB v = true) : v.key.size ≤ 32 := by
  unfold checkB at h
  simp only [Bool.and_eq_true] at h
  exact check_size h.1
end J
end Go.Proofs.YtojehmkkbdedaaaGreat
end

section
namespace Go.Proofs.YtojehmkkbdedaaaGreat.A
open Go Go.RowKit
section
variable {P : Program} {N : Nat} {M0 : Nat → Prop} {w0 : Base} {ops : Array Oper} {Q : Exit → ASt → Prop} {o : Oper} {l : List Oper} {st : ASt}
/-- The end of a row of the call's own is cleared; nothing is yielded. -/
theorem Al_clear0 {k g n lo h : Nat} {x : Operand} {t e T : TypeId} {z : Value} {zs : List AV} {rows : List (List AV)} (ho : o.op = .call ⟨.builtin .clear, #[x], #[t]⟩) (hg : o.guard = none) (hd : o.dst = none) (hc : conB o = true) (ht : P.underlying t = some (.slice e)) (hz : ∀ w, (zeroValue e).run P w = .ok z w) (hzn : z.cells.size = n) (hn : 0 < n)
    (hzs : z.cells.toList.map AV.v = zs) (hv : z.cells.toList.all (fun z => decide (vok z)) = true) (hx : st.ev x = .ows k g n lo h) (hob : st.ob k = some (g, .arr T n rows)) (hh : h = rows.length)
    (hr : Al P N M0 w0 ops Q l (st.put k g (.arr T n (rows.take lo ++ List.replicate (h - lo) zs)))) : Al P N M0 w0 ops Q (o :: l) st := by
  refine ⟨?_⟩
  rintro a w ⟨ρ, hsim⟩
  have h1 := hsim.ev hc x (mem_call ho x (by simp))
  rw [hx] at h1
  obtain ⟨ad, len, cp, a', k1, k2, k3, k4, k5⟩ := h1
  obtain ⟨u, hu, hO⟩ := hsim.obj k g _ hob
  rw [k1] at hu; cases hu
  subst hh
  have fin : ∀ w', SimR N M0 w0 (st.put k g (.arr T n (rows.take lo ++ List.replicate (rows.length - lo) zs))) ρ a w' → (execOp a.eval o).run P w = .ok (.value (.tuple #[])) w' → wpList P ops (QL N M0 w0 Q) (o :: l) a w := fun w' hs e => by
    refine wpList_plain hg fun K hK => wp_upon ?_
    rw [e]
    refine hK _ _ (hr.out _ _ ⟨ρ, ?_⟩)
    rw [hd]
    exact hs
  by_cases hlt : lo < rows.length
  · obtain ⟨b, rfl, rfl⟩ := k5 hlt
    obtain ⟨cap, cur, vals, he, hgb, hnc, hcp, hsz, htk, hrw, hl, hlb⟩ := arr_at hO (b := b) rfl
    have hcc : cap = cp := by cases he; rfl
    subst hcc
    cases he
    have hun := unif_rows hrw
    have hfr := flat_lenA hun
    have hzl : zs.length = n := by rw [← hzs]; simp [hzn]
    have hrl : (List.replicate (rows.length - lo) zs).flatten.length = (rows.length - lo) * n := by simp [hzl]
    have hul : (List.replicate (rows.length - lo) z.cells.toList).flatten.length = (rows.length - lo) * n := by simp [hzn]
    have hlen : (rows.take lo ++ List.replicate (rows.length - lo) zs).length = rows.length := by simp; omega
    have e1 : lo * n + (rows.length - lo) * n = rows.length * n := by rw [← Nat.add_mul]; congr 1; omega
    have e2 : rows.length * n ≤ cap * n := Nat.mul_le_mul_right _ hnc
    obtain ⟨w', vs', q1, q2, q3, q4, q5, q6, q7⟩ := splice_core (P := P) (rows.take lo ++ List.replicate (rows.length - lo) zs) hgb hsz htk hrw (zero_cells hzs hv (rows.length - lo)) (off := lo * n) (by omega) (by rw [hul]; omega) (by rw [hlen]; exact hnc)
      (fun q hq => by
        rcases List.mem_append.1 hq with hq | hq
        · exact hun q (List.mem_of_mem_take hq)
        · rw [List.eq_of_mem_replicate hq]; exact hzl)
      (by rw [List.flatten_append, flat_take hun, hrl, List.drop_eq_nil_of_le (by omega), List.append_nil])
    refine fin w' (hsim.mod (w' := w') hob k1 q6 (by omega) (fun c' hc' hne => q4 c' (fun e => hne (by simp [blk, e]))) (fun M' hK _ => by
      obtain ⟨vals', hv1, hv2⟩ := q7 M' hK
      exact ⟨vals', ⟨by have h9 : vs'.toList.length = cap * n := (Array.length_toList ..).trans q3; rw [hv1, List.length_take, hlen, h9]; omega, .inr ⟨b, cap, vs', by rw [hlen], Nat.zero_le _, q2, by rw [hlen]; exact hnc, hcp, q3, hv1.symm⟩⟩, hv2, ⟨_, cap, by rw [hlen]⟩, by rw [hlen]; exact hl, fun c' hc' => by simp only [blk, Option.some.injEq] at hc'; subst hc'; exact hlb⟩)) ?_
    have hne : rows.length - lo ≠ 0 := by omega
    rw [← zeroCells_list z.cells _ (by omega)] at q1
    simp only [execOp, ho, resolve, invoke, builtin, Sem.run_bind, Sem.run_pure, Result.andThen_ok, List.map_toArray, List.map_cons, List.map_nil, k2, Builtin.clear_]
    simp [run_underlying ht, hz, hne, q1, Result.andThen]
  · have hll : rows.length - lo = 0 := by omega
    refine fin w (hsim.mod (w' := w) hob k1 ⟨rfl, rfl, rfl⟩ (Nat.le_refl _) (fun _ _ _ => rfl) (fun M' hK _ => ?_)) ?_
    · rw [hll, List.replicate_zero, List.append_nil, List.take_of_length_le (by omega)]
      exact hO.mono hK fun _ _ => rfl
    · simp only [execOp, ho, resolve, invoke, builtin, Sem.run_bind, Sem.run_pure, Result.andThen_ok, List.map_toArray, List.map_cons, List.map_nil, k2, hll, Builtin.clear_]
      cases a' <;> simp [run_underlying ht, Result.andThen]
end
end Go.Proofs.YtojehmkkbdedaaaGreat.A
namespace Go.Proofs.YtojehmkkbdedaaaGreat
open Go.RowKit A
namespace S
theorem find_neg {α : Type} {p : α → Bool} {l : List α} (h : S.find p l = -1) : (l.filter fun x => !p x) = l := by
  unfold S.find at h
  split at h
  · omega
  · rename_i hn
    rw [List.filter_eq_self]
    intro x hx
    cases hp : p x with
    | false => rfl
    | true => exact (hn (List.any_eq_true.2 ⟨x, hx, hp⟩)).elim
theorem find_pos {α : Type} {p : α → Bool} {l : List α} (h : ¬ S.find p l = -1) : ∃ i, ∃ hi : i < l.length, S.find p l = (i : Int) ∧ p l[i] = true ∧ ∀ j (hj : j < l.length), j < i → p l[j] = false := by
  unfold S.find at h ⊢
  split at h
  · rename_i hy
    rw [if_pos hy]
    obtain ⟨x, hx, hp⟩ := List.any_eq_true.1 hy
    have hlt : l.findIdx p < l.length := List.findIdx_lt_length_of_exists ⟨x, hx, hp⟩
    exact ⟨l.findIdx p, hlt, rfl, List.findIdx_getElem, fun j hj hji => by simpa using List.not_of_lt_findIdx hji⟩
  · exact (h rfl).elim
theorem filter_first {α : Type} {p : α → Bool} {l : List α} {i : Nat} (hi : i < l.length) (hp : p l[i] = true) (hb : ∀ j (hj : j < l.length), j < i → p l[j] = false) : l.take i = (l.take (i + 1)).filter (fun x => !p x) := by
  rw [List.take_succ_eq_append_getElem hi, List.filter_append, List.filter_cons, hp]
  have : (l.take i).filter (fun x => !p x) = l.take i := by
    rw [List.filter_eq_self]
    intro x hx
    obtain ⟨j, hj, rfl⟩ := List.getElem_of_mem hx
    rw [List.length_take] at hj
    rw [List.getElem_take, hb j (by omega) (by omega)]; rfl
  rw [this]; simp
theorem drop_at {α : Type} [Inhabited α] {c l : List α} {j : Nat} (h : c.drop j = l.drop j) (hj : j < l.length) (hc : j < c.length) : c.getD j default = l[j] := by
  have h1 : (c.drop j)[0]? = (l.drop j)[0]? := by rw [h]
  rw [List.getElem?_drop, List.getElem?_drop, Nat.add_zero, List.getElem?_eq_getElem hj] at h1
  rw [List.getD_eq_getElem?_getD, h1]; rfl
theorem map_getD {α β : Type} [Inhabited α] {f : α → β} {c : List α} {j : Nat} (hj : j < c.length) : (c.map f)[j]'(by simpa using hj) = f (c.getD j default) := by simp [hj]
theorem row_at {rows : List (List AV)} {n j : Nat} (hu : ∀ r ∈ rows, r.length = n) (hj : j < rows.length) : (rows.flatten.drop (j * n)).take n = rows[j] := by
  rw [← flat_drop hu, List.drop_eq_getElem_cons hj, List.flatten_cons, List.take_append_of_le_length (by rw [hu _ (List.getElem_mem hj)]; exact Nat.le_refl _), List.take_of_length_le (by rw [hu _ (List.getElem_mem hj)]; exact Nat.le_refl _)]
theorem flat_set {rows : List (List AV)} {n i : Nat} {x : List AV} (hu : ∀ r ∈ rows, r.length = n) (hi : i < rows.length) (hx : x.length = n) : (rows.set i x).flatten = rows.flatten.take (i * n) ++ x ++ rows.flatten.drop (i * n + n) := by
  have h2 : i * n + n = (i + 1) * n := by rw [Nat.add_mul, Nat.one_mul]
  rw [h2, ← flat_take hu, ← flat_drop hu, List.set_eq_take_append_cons_drop, if_pos hi]
  simp
theorem del_keep {α : Type} {p : α → Bool} {c l : List α} {i j : Nat} (hj : j < l.length) (h : c.take i = (l.take j).filter fun x => !p x) (hp : p l[j] = false) (hi : i < c.length) : (c.set i l[j]).take (i + 1) = (l.take (j + 1)).filter fun x => !p x := by
  rw [List.take_succ_eq_append_getElem hj, List.filter_append, List.filter_cons, hp, ← h]
  rw [List.take_succ_eq_append_getElem (by simpa using hi), List.take_set_of_le (Nat.le_refl i)]
  simp
theorem del_drop {α : Type} {p : α → Bool} {c l : List α} {i j : Nat} (hj : j < l.length) (h : c.take i = (l.take j).filter fun x => !p x) (hp : p l[j] = true) : c.take i = (l.take (j + 1)).filter fun x => !p x := by
  rw [List.take_succ_eq_append_getElem hj, List.filter_append, List.filter_cons, hp, ← h]
  simp
end S
end Go.Proofs.YtojehmkkbdedaaaGreat
end

section
set_option maxRecDepth 100000
namespace Go.Proofs.YtojehmkkbdedaaaGreat
open Go.RowKit A R
open A.RowT
namespace J
def notB (n s : Int) (v : Ver) : Bool := !D.lessB v.n v.s n s
/-- The place of the first one that is not below a stamp. -/
def frm (l : List Ver) (n s : Int) : Nat := l.findIdx (notB n s)
def told (l : List Ver) (i : Int) : Option Ver := if 0 ≤ i ∧ i < l.length then l[i.toNat]? else none
def head (l : List Ver) : Option Ver := told l ((l.length : Int) - 1)
def isSt (n s : Int) (v : Ver) : Bool := (v.n == n) && (v.s == s)
def atc (l : List Ver) (n s : Int) : Option Ver := (l[frm l n s]?).filter (isSt n s)
def below (l : List Ver) (n s : Int) : Option Ver := match atc l n s with
  | some v => some v
  | none => told l ((frm l n s : Int) - 1)
def put (l : List Ver) (v : Ver) : Option (List Ver) := if checkB v = true ∧ (∀ x, l[0]? = some x → x.key.toList = v.key.toList) ∧ (∀ x, l[frm l v.n v.s]? = some x → isSt v.n v.s x = false) then some (l.take (frm l v.n v.s) ++ v :: l.drop (frm l v.n v.s)) else none
end J
end Go.Proofs.YtojehmkkbdedaaaGreat
end
