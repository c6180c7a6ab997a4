
/- stamp, past, the reference's 03 and 04: by abstract states. -/
import Derived.Test.YtmbaeloiepjakaaGreatGDl
import Derived.Test.YtmbaeloiepjakaaGreatLAdd
set_option linter.unusedSimpArgs false
set_option linter.unusedVariables false
namespace Go.Proofs.YtmbaeloiepjakaaGreat
open Go.RowKit A R
open A.RowT
namespace D
def cmpS (a b : ByteArray) : Int := if Op.bytesLess a.toList b.toList then -1 else if Op.bytesLess b.toList a.toList then 1 else 0
theorem cmp_lt {a b : ByteArray} : cmpS a b < 0 ↔ Op.bytesLess a.toList b.toList = true := by
  unfold cmpS
  cases h : Op.bytesLess a.toList b.toList <;> cases Op.bytesLess b.toList a.toList <;> simp
theorem cmp_ge {a b : ByteArray} (h : Op.bytesLess a.toList b.toList = false) : 0 ≤ cmpS a b := Int.not_lt.1 fun e => by rw [cmp_lt.1 e] at h; cases h
theorem cmp_eq {a b : ByteArray} : cmpS a b = 0 ↔ a.toList = b.toList := by
  unfold cmpS
  cases h : Op.bytesLess a.toList b.toList <;> cases h2 : Op.bytesLess b.toList a.toList <;> simp
  · exact K.bl_tri _ _ h h2
  · intro e; rw [e, K.bl_irrefl] at h2; cases h2
  · intro e; rw [e, K.bl_irrefl] at h; cases h
  · intro e; rw [e, K.bl_irrefl] at h; cases h
/-- A row of deps that rises. -/
def Srt (p : List Dep) : Prop := p.Pairwise fun x y => Op.bytesLess x.key.toList y.key.toList = true
/-- And all of which may be. -/
structure Good (p : List Dep) : Prop where
  srt : Srt p
  ok : ∀ x ∈ p, okB x = true
/-- Where a key is, or would be. -/
def pos : List Dep → ByteArray → Nat
  | [], _ => 0
  | x :: r, k => if Op.bytesLess x.key.toList k.toList then pos r k + 1 else 0
theorem pos_le : ∀ (p : List Dep) (k : ByteArray), pos p k ≤ p.length
  | [], _ => Nat.le_refl _
  | x :: r, k => by
    unfold pos
    have := pos_le r k
    split
    · simp; omega
    · simp
theorem pos_lo : ∀ (p : List Dep) (k : ByteArray) (j : Nat) (hj : j < p.length), j < pos p k → Op.bytesLess p[j].key.toList k.toList = true
  | [], _, j, hj, _ => by cases hj
  | x :: r, k, j, hj, h => by
    unfold pos at h
    split at h
    · rename_i hx
      cases j with
      | zero => exact hx
      | succ j => exact pos_lo r k j (by simpa using hj) (by omega)
    · omega
theorem pos_hi : ∀ (p : List Dep) (k : ByteArray), Srt p → ∀ (j : Nat) (hj : j < p.length), pos p k ≤ j → Op.bytesLess p[j].key.toList k.toList = false
  | [], _, _, j, hj, _ => by cases hj
  | x :: r, k, hs, j, hj, h => by
    have hc := List.pairwise_cons.1 hs
    unfold pos at h
    split at h
    · cases j with
      | zero => omega
      | succ j => exact pos_hi r k hc.2 j (by simpa using hj) (by omega)
    · rename_i hx
      have hx : Op.bytesLess x.key.toList k.toList = false := by simpa using hx
      cases j with
      | zero => exact hx
      | succ j =>
        cases h2 : Op.bytesLess (x :: r)[j + 1].key.toList k.toList with
        | false => rfl
        | true =>
          have h3 := hc.1 _ (List.getElem_mem (by simpa using hj : j < r.length))
          have := K.bl_trans _ _ _ h3 h2
          rw [hx] at this; cases this
def hasK (p : List Dep) (k : ByteArray) : Bool := p.any fun x => x.key.toList == k.toList
theorem pos_has {p : List Dep} {k : ByteArray} (hs : Srt p) : (decide (pos p k < p.length) && decide (cmpS (p.getD (pos p k) default).key k = 0)) = hasK p k := by
  unfold hasK
  cases h : p.any fun x => x.key.toList == k.toList with
  | true =>
    obtain ⟨x, hx, he⟩ := List.any_eq_true.1 h
    obtain ⟨j, hj, rfl⟩ := List.getElem_of_mem hx
    have he : p[j].key.toList = k.toList := by simpa using he
    have h1 : pos p k = j := by
      rcases Nat.lt_trichotomy (pos p k) j with h2 | h2 | h2
      · have h3 := pos_hi p k hs (pos p k) (by omega) (Nat.le_refl _)
        have h4 := List.pairwise_iff_getElem.1 hs (pos p k) j (by omega) hj h2
        rw [he] at h4; rw [h4] at h3; cases h3
      · exact h2
      · have h3 := pos_lo p k j hj h2
        rw [he, K.bl_irrefl] at h3; cases h3
    rw [h1]
    simp [hj, cmp_eq.2 he]
  | false =>
    by_cases h1 : pos p k < p.length
    · have h2 : ¬ cmpS (p.getD (pos p k) default).key k = 0 := fun e => by
        have e := cmp_eq.1 e
        rw [List.any_eq_false] at h
        exact h p[pos p k] (List.getElem_mem h1) (by simpa [h1] using e)
      simp only [h2, decide_false, Bool.and_false]
    · simp [h1]
theorem byte_inj {a b : ByteArray} (h : a.toList = b.toList) : a = b := by
  rw [ByteArray.toList_eq, ByteArray.toList_eq] at h
  exact ByteArray.ext (Array.toList_inj.1 h)
theorem pos_at {p : List Dep} {k : ByteArray} (hs : Srt p) (h : hasK p k = true) : ∃ hj : pos p k < p.length, p[pos p k].key = k := by
  rw [← pos_has hs] at h
  simp only [Bool.and_eq_true, decide_eq_true_eq] at h
  refine ⟨h.1, ?_⟩
  have := cmp_eq.1 h.2
  simp only [List.getD_eq_getElem?_getD, h.1, List.getElem?_eq_getElem, Option.getD_some] at this
  exact byte_inj this
/-- A key's stamp. -/
def get (p : List Dep) (k : ByteArray) : Int × Int := match p.find? fun x => x.key.toList == k.toList with
  | some x => (x.n, x.s)
  | none => (0, 0)
theorem get_no {p : List Dep} {k : ByteArray} (h : hasK p k = false) : get p k = (0, 0) := by
  unfold get
  have : p.find? (fun x => x.key.toList == k.toList) = none := by
    rw [List.find?_eq_none]
    intro x hx
    have := List.any_eq_false.1 h x hx
    simpa using this
  rw [this]
theorem get_first : ∀ {p : List Dep} {k : ByteArray} {j : Nat} (hj : j < p.length), p[j].key.toList = k.toList → (∀ (i : Nat) (hi : i < p.length), i < j → ¬ p[i].key.toList = k.toList) → get p k = (p[j].n, p[j].s)
  | [], _, j, hj, _, _ => by cases hj
  | x :: r, k, 0, _, h, _ => by
    unfold get
    rw [List.find?_cons_of_pos (by simpa using h)]; rfl
  | x :: r, k, j + 1, hj, h, hn => by
    have h0 := hn 0 (by simp) (by omega)
    have ih := get_first (p := r) (k := k) (j := j) (by simpa using hj) (by simpa using h) (fun i hi hij => by have := hn (i + 1) (by simpa using hi) (by omega); rwa [List.getElem_cons_succ] at this)
    unfold get at *
    rw [List.find?_cons_of_neg (by simpa using h0), ih]; rfl
theorem get_pos {p : List Dep} {k : ByteArray} (hs : Srt p) (h : hasK p k = true) {x : Dep} (hx : p.getD (pos p k) default = x) : get p k = (x.n, x.s) := by
  obtain ⟨hj, he⟩ := pos_at hs h
  have : p[pos p k] = x := by rw [← hx]; simp [hj]
  rw [← this]
  refine get_first hj (by rw [he]) fun i hi hij e => ?_
  have := pos_lo p k i hi hij
  rw [e, K.bl_irrefl] at this; cases this
/-! Add -/
theorem addF_true : ∀ (r : List Dep) (d : Dep), (∀ x ∈ r, eqB x d = false) → addF r d true = r
  | [], d, _ => by simp [addF]
  | x :: r, d, h => by
    rw [addF, if_neg (by simp [h x (by simp)]), if_pos rfl, addF_true r d fun y hy => h y (by simp [hy])]
theorem eq_toList {x d : Dep} : eqB x d = true ↔ x.key.toList = d.key.toList := by unfold eqB; simp
theorem addF_srt : ∀ (p : List Dep) (d : Dep), Srt p → addF p d false = (if hasK p d.key then p.take (pos p d.key) ++ (if lessB (p.getD (pos p d.key) default).n (p.getD (pos p d.key) default).s d.n d.s then d else p.getD (pos p d.key) default) :: p.drop (pos p d.key + 1) else p.take (pos p d.key) ++ d :: p.drop (pos p d.key))
  | [], d, _ => by simp [addF, hasK, pos]
  | x :: r, d, hs => by
    have hc := List.pairwise_cons.1 hs
    have ih := addF_srt r d hc.2
    rw [addF]
    cases he : eqB x d with
    | true =>
      have he' := eq_toList.1 he
      have hp : pos (x :: r) d.key = 0 := by unfold pos; rw [he', K.bl_irrefl]; rfl
      have hh : hasK (x :: r) d.key = true := by simp [hasK, he']
      have hr : addF r d true = r := addF_true r d fun y hy => by
        cases h : eqB y d with
        | false => rfl
        | true =>
          have := hc.1 y hy
          rw [eq_toList.1 h, he', K.bl_irrefl] at this; cases this
      rw [if_pos rfl, hr, if_pos hh, hp]
      simp
    | false =>
      have hne : ¬ x.key.toList = d.key.toList := fun e => by rw [eq_toList.2 e] at he; cases he
      cases hl : ltB x d with
      | true =>
        have hl' : Op.bytesLess x.key.toList d.key.toList = true := hl
        have hp : pos (x :: r) d.key = pos r d.key + 1 := by rw [pos, if_pos hl']
        have hh : hasK (x :: r) d.key = hasK r d.key := by unfold hasK; rw [List.any_cons]; simp [hne]
        rw [if_neg (by simp), if_neg (by simp), if_pos rfl, ih, hp, hh]
        cases hasK r d.key <;> simp
      | false =>
        have hl' : Op.bytesLess x.key.toList d.key.toList = false := hl
        have hp : pos (x :: r) d.key = 0 := by rw [pos, if_neg (by simp [hl'])]
        have hlt : Op.bytesLess d.key.toList x.key.toList = true := by
          cases h : Op.bytesLess d.key.toList x.key.toList with
          | true => rfl
          | false => exact absurd (K.bl_tri _ _ hl' h) hne
        have hno : ∀ y ∈ r, eqB y d = false := fun y hy => by
          cases h : eqB y d with
          | false => rfl
          | true =>
            have := K.bl_trans _ _ _ hlt (hc.1 y hy)
            rw [eq_toList.1 h, K.bl_irrefl] at this; cases this
        have hh : hasK (x :: r) d.key = false := by
          unfold hasK
          rw [List.any_eq_false]
          intro y hy
          rcases List.mem_cons.1 hy with rfl | hy
          · simpa using hne
          · have := hno y hy; unfold eqB at this; simp [this]
        rw [if_neg (by simp), if_neg (by simp), if_neg (by simp), addF_true r d hno, hh, hp]
        simp
theorem add_no {p : List Dep} {d : Dep} (h : okB d = false) : add p d = p := by unfold add; rw [h]; rfl
theorem add_new {p : List Dep} {d : Dep} (hs : Srt p) (h : okB d = true) (hk : hasK p d.key = false) : add p d = p.take (pos p d.key) ++ d :: p.drop (pos p d.key) := by
  unfold add
  rw [if_pos h, addF_srt p d hs, hk]; rfl
theorem add_old {p : List Dep} {d : Dep} (hs : Srt p) (h : okB d = true) (hk : hasK p d.key = true) : add p d = p.set (pos p d.key) (if lessB (p.getD (pos p d.key) default).n (p.getD (pos p d.key) default).s d.n d.s then d else p.getD (pos p d.key) default) := by
  unfold add
  obtain ⟨hj, _⟩ := pos_at hs hk
  rw [if_pos h, addF_srt p d hs, if_pos hk, List.set_eq_take_append_cons_drop, if_pos hj]
theorem less_irrefl (n s : Int) : lessB n s n s = false := by unfold lessB; simp
theorem add_good {p : List Dep} (hp : Good p) (d : Dep) : Good (add p d) := by
  cases hd : okB d with
  | false => rw [add_no hd]; exact hp
  | true =>
    refine ⟨?_, fun x hx => ?_⟩
    · have key : ∀ (p : List Dep), Srt p → (∀ x : Dep, (∀ y ∈ p, Op.bytesLess x.key.toList y.key.toList = true) → Op.bytesLess x.key.toList d.key.toList = true → ∀ y ∈ addF p d false, Op.bytesLess x.key.toList y.key.toList = true) ∧ Srt (addF p d false) := by
        intro p
        induction p with
        | nil => intro _; exact ⟨fun x _ h y hy => by simp [addF] at hy; subst hy; exact h, by simp [addF, Srt]⟩
        | cons z r ih =>
          intro hs
          have hc := List.pairwise_cons.1 hs
          have hmem : ∀ (q : List Dep) (put : Bool) (y : Dep), y ∈ addF q d put → y ∈ q ∨ y = d := fun q put y => addF_mem q d put y
          refine ⟨fun x h1 h2 y hy => ?_, ?_⟩
          · rcases hmem _ _ _ hy with h | rfl
            · exact h1 y h
            · exact h2
          · rw [addF]
            split
            · rename_i he
              have he' := eq_toList.1 he
              have hr : addF r d true = r := addF_true r d fun y hy => by
                cases h : eqB y d with
                | false => rfl
                | true =>
                  have := hc.1 y hy
                  rw [eq_toList.1 h, he', K.bl_irrefl] at this; cases this
              rw [hr]
              refine List.pairwise_cons.2 ⟨fun y hy => ?_, hc.2⟩
              have h3 := hc.1 y hy
              split
              · rw [← he']; exact h3
              · exact h3
            · rename_i he
              have hne : ¬ z.key.toList = d.key.toList := fun e => he (eq_toList.2 e)
              rw [if_neg (by simp)]
              split
              · rename_i hl
                exact List.pairwise_cons.2 ⟨(ih hc.2).1 z hc.1 hl, (ih hc.2).2⟩
              · rename_i hl
                have hl' : Op.bytesLess z.key.toList d.key.toList = false := by unfold ltB at hl; simpa using hl
                have hlt : Op.bytesLess d.key.toList z.key.toList = true := by
                  cases h : Op.bytesLess d.key.toList z.key.toList with
                  | true => rfl
                  | false => exact absurd (K.bl_tri _ _ hl' h) hne
                have hno : ∀ y ∈ r, eqB y d = false := fun y hy => by
                  cases h : eqB y d with
                  | false => rfl
                  | true =>
                    have := K.bl_trans _ _ _ hlt (hc.1 y hy)
                    rw [eq_toList.1 h, K.bl_irrefl] at this; cases this
                rw [addF_true r d hno]
                refine List.pairwise_cons.2 ⟨fun y hy => ?_, hs⟩
                rcases List.mem_cons.1 hy with rfl | hy
                · exact hlt
                · exact K.bl_trans _ _ _ hlt (hc.1 y hy)
      have := (key p hp.srt).2
      unfold add
      rw [if_pos hd]
      exact this
    · rcases add_mem p d x hx with h | rfl
      · exact hp.ok x h
      · exact hd
theorem less_eq (a b c d : Int) : (!(a == c && b == d) && (decide (a < c) || decide (a = c) && decide (b ≤ d))) = lessB a b c d := by
  unfold lessB
  by_cases h : a = c <;> by_cases h2 : b = d <;> simp [h, h2] <;> first | omega | (rw [Bool.eq_iff_iff]; simp; omega)
theorem good_nil : Good [] := ⟨.nil, fun x hx => by cases hx⟩
theorem ok_stamp {d : Dep} (h : okB d = true) : 1 ≤ d.n ∧ d.n ≤ 1099511627776 ∧ 0 ≤ d.s ∧ d.s < 6 := by
  unfold okB V.stampB at h
  simp only [Bool.and_eq_true, decide_eq_true_eq] at h
  obtain ⟨_, h⟩ := h
  refine ⟨?_, ?_, ?_, ?_⟩ <;> omega
end D
theorem check_a (s : ByteArray) : ACall Tryz.prog 76 [tv s] (bv (K.checkB s)) := A.ofv (fun _ _ => by kernel_rfl) trivial fun M w vs ha => by
  obtain ⟨rfl, h⟩ := A.all1 ha
  exact check_any s h w
set_option maxRecDepth 100000 in
theorem stcheck_a (n s : Int) : ACall Tryz.prog 77 [.row [iv n, iv s]] (bv (V.stampB n s)) := by
  refine ACall_enter (fun _ _ => by kernel_rfl) Tryz.func77 rfl Tryz.ntmps77 Tryz.results77 (Nat.le_of_ble_eq_true rfl) (fun hok M0 w0 hnl => ?_)
  refine Aw_seq (Aw_region ?_)
  refine Al_p (Pu_boxN rfl rfl) ?_
  refine Al_p Pu_mvr ?_
  refine Al_nil (Aw_seq (Aw_region ?_))
  refine Al_p (Pu_field 0 rfl Tryz.underlying31 rfl rfl Tryz.sizeOf3 rfl) ?_
  refine Al_p (Pu_load1 rfl Tryz.isAgg3 rfl rfl) ?_
  refine Al_p (Pu_cmp rfl rfl rfl rfl) ?_
  refine Al_p Pu_mvl ?_
  refine Al_st (St_gd [] rfl rfl rfl rfl trivial (fun hg7 => Pu_field 0 rfl Tryz.underlying31 rfl rfl Tryz.sizeOf3 rfl)) rfl (by decide) (by kernel_rfl) (by intro j b oj dj h1 h2 h3; cases h1; cases h2; cases h3; decide) ?_
  refine Al_st (St_gd [7] rfl rfl rfl rfl ⟨⟨_, rfl⟩, trivial⟩ (fun hg8 => Pu_load1 rfl Tryz.isAgg3 rfl rfl)) rfl (by decide) (by kernel_rfl) (by intro j b oj dj h1 h2 h3; cases h1; cases h2; cases h3; decide) ?_
  refine Al_st (St_gd [8] rfl rfl rfl rfl ⟨⟨_, rfl⟩, trivial⟩ (fun hg9 => Pu_cmp rfl rfl rfl rfl)) rfl (by decide) (by kernel_rfl) (by intro j b oj dj h1 h2 h3; cases h1; cases h2; cases h3; decide) ?_
  refine Al_p (Pu_and rfl rfl rfl rfl) ?_
  refine Al_p Pu_mvl ?_
  refine Al_st (St_gd [] rfl rfl rfl rfl trivial (fun hg12 => Pu_field 1 rfl Tryz.underlying31 rfl rfl Tryz.sizeOf3 rfl)) rfl (by decide) (by kernel_rfl) (by intro j b oj dj h1 h2 h3; cases h1; cases h2; cases h3; decide) ?_
  refine Al_st (St_gd [12] rfl rfl rfl rfl ⟨⟨_, rfl⟩, trivial⟩ (fun hg13 => Pu_load1 rfl Tryz.isAgg3 rfl rfl)) rfl (by decide) (by kernel_rfl) (by intro j b oj dj h1 h2 h3; cases h1; cases h2; cases h3; decide) ?_
  refine Al_st (St_gd [13] rfl rfl rfl rfl ⟨⟨_, rfl⟩, trivial⟩ (fun hg14 => Pu_cmp rfl rfl rfl rfl)) rfl (by decide) (by kernel_rfl) (by intro j b oj dj h1 h2 h3; cases h1; cases h2; cases h3; decide) ?_
  refine Al_p (Pu_and rfl rfl rfl rfl) ?_
  refine Al_p Pu_mvl ?_
  refine Al_st (St_gd [] rfl rfl rfl rfl trivial (fun hg17 => Pu_field 1 rfl Tryz.underlying31 rfl rfl Tryz.sizeOf3 rfl)) rfl (by decide) (by kernel_rfl) (by intro j b oj dj h1 h2 h3; cases h1; cases h2; cases h3; decide) ?_
  refine Al_st (St_gd [17] rfl rfl rfl rfl ⟨⟨_, rfl⟩, trivial⟩ (fun hg18 => Pu_load1 rfl Tryz.isAgg3 rfl rfl)) rfl (by decide) (by kernel_rfl) (by intro j b oj dj h1 h2 h3; cases h1; cases h2; cases h3; decide) ?_
  refine Al_st (St_gd [18] rfl rfl rfl rfl ⟨⟨_, rfl⟩, trivial⟩ (fun hg19 => Pu_cmp rfl rfl rfl rfl)) rfl (by decide) (by kernel_rfl) (by intro j b oj dj h1 h2 h3; cases h1; cases h2; cases h3; decide) ?_
  refine Al_p (Pu_and rfl rfl rfl rfl) ?_
  refine Al_p Pu_mvr ?_
  refine Al_nil ?_
  refine Aw_ret ?_
  exact Sub.bool (by unfold V.stampB; simp [Bool.and_assoc]) -- ret 0
set_option maxRecDepth 100000 in
theorem less_a (a b c d : Int) : ACall Tryz.prog 83 [.row [iv a, iv b], .row [iv c, iv d]] (bv (D.lessB a b c d)) := by
  refine ACall_enter (fun _ _ => by kernel_rfl) Tryz.func83 rfl Tryz.ntmps83 Tryz.results83 (Nat.le_of_ble_eq_true rfl) (fun hok M0 w0 hnl => ?_)
  refine Aw_seq (Aw_region ?_)
  refine Al_p (Pu_boxN rfl rfl) ?_
  refine Al_p (Pu_boxN rfl rfl) ?_
  refine Al_p Pu_mvr ?_
  refine Al_nil (Aw_seq (Aw_region ?_))
  refine Al_p (Pu_loadN rfl Tryz.isAgg31 Tryz.sizeOf31 rfl (Nat.le_of_ble_eq_true rfl)) ?_
  refine Al_p (Pu_loadN rfl Tryz.isAgg31 Tryz.sizeOf31 rfl (Nat.le_of_ble_eq_true rfl)) ?_
  refine Al_p (Pu_eqrow [.int .i64 _, .int .i64 _] [.int .i64 _, .int .i64 _] (fun w => nev31 _ _ _ _ _ _ w) rfl rfl rfl) ?_
  refine Al_p Pu_mvl ?_
  refine Al_st (St_gd [] rfl rfl rfl rfl trivial (fun hg9 => Pu_field 0 rfl Tryz.underlying31 rfl rfl Tryz.sizeOf3 rfl)) rfl (by decide) (by kernel_rfl) (by intro j b oj dj h1 h2 h3; cases h1; cases h2; cases h3; decide) ?_
  refine Al_st (St_gd [9] rfl rfl rfl rfl ⟨⟨_, rfl⟩, trivial⟩ (fun hg10 => Pu_load1 rfl Tryz.isAgg3 rfl rfl)) rfl (by decide) (by kernel_rfl) (by intro j b oj dj h1 h2 h3; cases h1; cases h2; cases h3; decide) ?_
  refine Al_st (St_gd [] rfl rfl rfl rfl trivial (fun hg11 => Pu_field 0 rfl Tryz.underlying31 rfl rfl Tryz.sizeOf3 rfl)) rfl (by decide) (by kernel_rfl) (by intro j b oj dj h1 h2 h3; cases h1; cases h2; cases h3; decide) ?_
  refine Al_st (St_gd [11] rfl rfl rfl rfl ⟨⟨_, rfl⟩, trivial⟩ (fun hg12 => Pu_load1 rfl Tryz.isAgg3 rfl rfl)) rfl (by decide) (by kernel_rfl) (by intro j b oj dj h1 h2 h3; cases h1; cases h2; cases h3; decide) ?_
  refine Al_st (St_gd [10, 12] rfl rfl rfl rfl ⟨⟨_, rfl⟩, ⟨_, rfl⟩, trivial⟩ (fun hg13 => Pu_cmp rfl rfl rfl rfl)) rfl (by decide) (by kernel_rfl) (by intro j b oj dj h1 h2 h3; cases h1; cases h2; cases h3; decide) ?_
  refine Al_st (St_gd [13] rfl rfl rfl rfl ⟨⟨_, rfl⟩, trivial⟩ (fun hg14 => by exact Pu_move (.inl rfl) (by conv => lhs; whnf))) rfl (by decide) (by kernel_rfl) (by intro j b oj dj h1 h2 h3; cases h1; cases h2; cases h3; decide) ?_
  refine Al_st (St_gd2 [] rfl rfl rfl rfl trivial (fun hp15 hg15 => Pu_field 0 rfl Tryz.underlying31 rfl rfl Tryz.sizeOf3 rfl)) rfl (by decide) (by kernel_rfl) (by intro j b oj dj h1 h2 h3; cases h1; cases h2; cases h3; decide) ?_
  refine Al_st (St_gd2 [15] rfl rfl rfl rfl ⟨⟨_, rfl⟩, trivial⟩ (fun hp16 hg16 => Pu_load1 rfl Tryz.isAgg3 rfl rfl)) rfl (by decide) (by kernel_rfl) (by intro j b oj dj h1 h2 h3; cases h1; cases h2; cases h3; decide) ?_
  refine Al_st (St_gd2 [] rfl rfl rfl rfl trivial (fun hp17 hg17 => Pu_field 0 rfl Tryz.underlying31 rfl rfl Tryz.sizeOf3 rfl)) rfl (by decide) (by kernel_rfl) (by intro j b oj dj h1 h2 h3; cases h1; cases h2; cases h3; decide) ?_
  refine Al_st (St_gd2 [17] rfl rfl rfl rfl ⟨⟨_, rfl⟩, trivial⟩ (fun hp18 hg18 => Pu_load1 rfl Tryz.isAgg3 rfl rfl)) rfl (by decide) (by kernel_rfl) (by intro j b oj dj h1 h2 h3; cases h1; cases h2; cases h3; decide) ?_
  refine Al_st (St_gd2 [16, 18] rfl rfl rfl rfl ⟨⟨_, rfl⟩, ⟨_, rfl⟩, trivial⟩ (fun hp19 hg19 => Pu_cmp rfl rfl rfl rfl)) rfl (by decide) (by kernel_rfl) (by intro j b oj dj h1 h2 h3; cases h1; cases h2; cases h3; decide) ?_
  refine Al_st (St_gd2 [19] rfl rfl rfl rfl ⟨⟨_, rfl⟩, trivial⟩ (fun hp20 hg20 => by exact Pu_move (.inl rfl) (by conv => lhs; whnf))) rfl (by decide) (by kernel_rfl) (by intro j b oj dj h1 h2 h3; cases h1; cases h2; cases h3; decide) ?_
  refine Al_st (St_gd2 [] rfl rfl rfl rfl trivial (fun hp21 hg21 => Pu_field 1 rfl Tryz.underlying31 rfl rfl Tryz.sizeOf3 rfl)) rfl (by decide) (by kernel_rfl) (by intro j b oj dj h1 h2 h3; cases h1; cases h2; cases h3; decide) ?_
  refine Al_st (St_gd2 [21] rfl rfl rfl rfl ⟨⟨_, rfl⟩, trivial⟩ (fun hp22 hg22 => Pu_load1 rfl Tryz.isAgg3 rfl rfl)) rfl (by decide) (by kernel_rfl) (by intro j b oj dj h1 h2 h3; cases h1; cases h2; cases h3; decide) ?_
  refine Al_st (St_gd2 [] rfl rfl rfl rfl trivial (fun hp23 hg23 => Pu_field 1 rfl Tryz.underlying31 rfl rfl Tryz.sizeOf3 rfl)) rfl (by decide) (by kernel_rfl) (by intro j b oj dj h1 h2 h3; cases h1; cases h2; cases h3; decide) ?_
  refine Al_st (St_gd2 [23] rfl rfl rfl rfl ⟨⟨_, rfl⟩, trivial⟩ (fun hp24 hg24 => Pu_load1 rfl Tryz.isAgg3 rfl rfl)) rfl (by decide) (by kernel_rfl) (by intro j b oj dj h1 h2 h3; cases h1; cases h2; cases h3; decide) ?_
  refine Al_st (St_gd2 [22, 24] rfl rfl rfl rfl ⟨⟨_, rfl⟩, ⟨_, rfl⟩, trivial⟩ (fun hp25 hg25 => Pu_cmp rfl rfl rfl rfl)) rfl (by decide) (by kernel_rfl) (by intro j b oj dj h1 h2 h3; cases h1; cases h2; cases h3; decide) ?_
  refine Al_st (St_gd2 [20] rfl rfl rfl rfl ⟨⟨_, rfl⟩, trivial⟩ (fun hp26 hg26 => Pu_andG rfl rfl (fun h => ⟨⟨hp26, hg26⟩, h⟩) rfl rfl)) rfl (by decide) (by kernel_rfl) (by intro j b oj dj h1 h2 h3; cases h1; cases h2; cases h3; decide) ?_
  refine Al_st (St_gd [14] rfl rfl rfl rfl ⟨⟨_, rfl⟩, trivial⟩ (fun hg27 => Pu_orG rfl rfl rfl (fun h => ⟨hg27, h⟩) rfl)) rfl (by decide) (by kernel_rfl) (by intro j b oj dj h1 h2 h3; cases h1; cases h2; cases h3; decide) ?_
  refine Al_p (Pu_and rfl rfl rfl rfl) ?_
  refine Al_p Pu_mvr ?_
  refine Al_nil ?_
  refine Aw_ret ?_
  exact Sub.bool (D.less_eq a b c d) -- ret 0
theorem isnan_a (s : ByteArray) : ACall Tryz.prog 167 [tv s] (bv false) := by
  refine ACall_enter (fun _ _ => by kernel_rfl) Tryz.func167 rfl Tryz.ntmps167 Tryz.results167 (Nat.le_of_ble_eq_true rfl) (fun hok M0 w0 hnl => ?_)
  refine Aw_seq (Aw_region ?_)
  refine Al_p Pu_mvr ?_
  refine Al_nil (Aw_seq (Aw_region ?_))
  refine Al_p Pu_mvl ?_
  refine Al_p Pu_mvl ?_
  refine Al_p (Pu_str rfl rfl rfl rfl) ?_
  refine Al_p Pu_mvr ?_
  refine Al_nil ?_
  refine Aw_ret ?_
  exact Sub.bool (by simp) -- ret 0
set_option maxRecDepth 100000 in
theorem cmps_a (s t : ByteArray) : ACall Tryz.prog 159 [tv s, tv t] (iv (D.cmpS s t)) := by
  refine ACall_enter (fun _ _ => by kernel_rfl) Tryz.func159 rfl Tryz.ntmps159 Tryz.results159 (Nat.le_of_ble_eq_true rfl) (fun hok M0 w0 hnl => ?_)
  refine Aw_seq (Aw_region ?_)
  refine Al_p Pu_mvr ?_
  refine Al_nil (Aw_seq (Aw_region ?_))
  refine Al_p Pu_mvl ?_
  refine Al_p (Pu_call (isnan_a s) rfl ⟨Sub.rfl, trivial⟩) ?_
  refine Al_p Pu_mvr ?_
  refine Al_nil (Aw_seq (Aw_region ?_))
  refine Al_p Pu_mvl ?_
  refine Al_p (Pu_call (isnan_a t) rfl ⟨Sub.rfl, trivial⟩) ?_
  refine Al_p Pu_mvr ?_
  refine Al_nil (Aw_seq (Aw_seq (Aw_region ?_)))
  refine Al_p Pu_mvl ?_
  refine Al_nil ?_
  refine Aw_condF rfl (rfl) ?_
  refine Aw_skip (Aw_seq (Aw_seq (Aw_region ?_)))
  refine Al_p Pu_mvl ?_
  refine Al_nil ?_
  refine Aw_condF rfl (rfl) ?_
  refine Aw_skip (Aw_seq (Aw_seq (Aw_region ?_)))
  refine Al_p Pu_mvl ?_
  refine Al_p Pu_mvl ?_
  refine Al_p (Pu_str rfl rfl rfl rfl) ?_
  refine Al_nil ?_
  refine Aw_cond rfl (fun h16 => ?_) (fun h16 => ?_)
  · (try simp only [decide_eq_true_eq, decide_eq_false_iff_not, Bool.and_eq_true, Bool.or_eq_true, Bool.and_eq_false_iff, Bool.or_eq_false_iff, Bool.not_eq_true', Bool.not_eq_false', beq_iff_eq, Bool.not_eq_eq_eq_not, Bool.not_true, Bool.not_false, List.length_map, Bool.and_true, Bool.and_false, Bool.false_and, Bool.true_and, Bool.or_false, Bool.false_or] at h16)
    refine Aw_seq (Aw_region ?_)
    refine Al_p Pu_mvr ?_
    refine Al_nil ?_
    refine Aw_ret ?_
    exact Sub.num (by unfold D.cmpS; simp_all) -- ret 0
  · (try simp only [decide_eq_true_eq, decide_eq_false_iff_not, Bool.and_eq_true, Bool.or_eq_true, Bool.and_eq_false_iff, Bool.or_eq_false_iff, Bool.not_eq_true', Bool.not_eq_false', beq_iff_eq, Bool.not_eq_eq_eq_not, Bool.not_true, Bool.not_false, List.length_map, Bool.and_true, Bool.and_false, Bool.false_and, Bool.true_and, Bool.or_false, Bool.false_or] at h16)
    refine Aw_skip (Aw_seq (Aw_seq (Aw_region ?_)))
    refine Al_p Pu_mvl ?_
    refine Al_p Pu_mvl ?_
    refine Al_p (Pu_str rfl rfl rfl rfl) ?_
    refine Al_nil ?_
    refine Aw_cond rfl (fun h19 => ?_) (fun h19 => ?_)
    · (try simp only [decide_eq_true_eq, decide_eq_false_iff_not, Bool.and_eq_true, Bool.or_eq_true, Bool.and_eq_false_iff, Bool.or_eq_false_iff, Bool.not_eq_true', Bool.not_eq_false', beq_iff_eq, Bool.not_eq_eq_eq_not, Bool.not_true, Bool.not_false, List.length_map, Bool.and_true, Bool.and_false, Bool.false_and, Bool.true_and, Bool.or_false, Bool.false_or] at h19)
      have hlt : Op.bytesLess t.toList s.toList = true := by
        cases h : Op.bytesLess t.toList s.toList with
        | true => rfl
        | false => have := K.bl_tri _ _ (by simpa using h16) h; simp_all
      refine Aw_seq (Aw_region ?_)
      refine Al_p Pu_mvr ?_
      refine Al_nil ?_
      refine Aw_ret ?_
      exact Sub.num (by unfold D.cmpS; simp_all) -- ret 1
    · (try simp only [decide_eq_true_eq, decide_eq_false_iff_not, Bool.and_eq_true, Bool.or_eq_true, Bool.and_eq_false_iff, Bool.or_eq_false_iff, Bool.not_eq_true', Bool.not_eq_false', beq_iff_eq, Bool.not_eq_eq_eq_not, Bool.not_true, Bool.not_false, List.length_map, Bool.and_true, Bool.and_false, Bool.false_and, Bool.true_and, Bool.or_false, Bool.false_or] at h19)
      refine Aw_skip (Aw_seq (Aw_region ?_))
      refine Al_p Pu_mvr ?_
      refine Al_nil ?_
      refine Aw_ret ?_
      exact Sub.num (by unfold D.cmpS; simp_all) -- ret 2
set_option maxRecDepth 100000 in
theorem pfindc_a (d : Dep) (k : ByteArray) : ACall Tryz.prog 158 [.row d.row, tv k] (iv (D.cmpS d.key k)) := by
  refine ACall_enter (fun _ _ => by kernel_rfl) Tryz.func158 rfl Tryz.ntmps158 Tryz.results158 (Nat.le_of_ble_eq_true rfl) (fun hok M0 w0 hnl => ?_)
  refine Aw_seq (Aw_region ?_)
  refine Al_p (Pu_boxN rfl rfl) ?_
  refine Al_p Pu_mvr ?_
  refine Al_nil (Aw_seq (Aw_region ?_))
  refine Al_p (Pu_field 0 rfl Tryz.underlying59 rfl rfl Tryz.sizeOf9 rfl) ?_
  refine Al_p (Pu_load1 rfl Tryz.isAgg9 rfl rfl) ?_
  refine Al_p Pu_mvl ?_
  refine Al_p (Pu_call (cmps_a d.key k) rfl ⟨Sub.rfl, Sub.rfl, trivial⟩) ?_
  refine Al_p Pu_mvr ?_
  refine Al_nil ?_
  refine Aw_ret ?_
  exact Sub.rfl -- ret 0
set_option maxRecDepth 100000 in
theorem pfind_a (p : List Dep) (k : ByteArray) (hs : D.Srt p) (hl : p.length ≤ 1000000) : ACall Tryz.prog 140 [.sl 3 (p.map Dep.row), tv k] (.tup [iv (D.pos p k), bv (D.hasK p k)]) := by
  refine ACall_enter2 (fun _ _ => by kernel_rfl) Tryz.func140 rfl Tryz.ntmps140 Tryz.results140 (Nat.le_of_ble_eq_true rfl) (fun hok M0 w0 hnl => ?_)
  refine Aw_seq (Aw_region ?_)
  refine Al_p Pu_mvr ?_
  refine Al_p Pu_mvr ?_
  refine Al_nil (Aw_seq (Aw_region ?_))
  refine Al_p Pu_mvl ?_
  refine Al_p Pu_mvl ?_
  refine Al_p (Pu_call (bsearchD_a p (tv k) _ (fun x => D.cmpS x.key k) (D.pos p k) (fun x => pfindc_a x k) hl (D.pos_le p k) (fun j hj h => D.cmp_lt.2 (D.pos_lo p k j hj h)) (fun j hj h => D.cmp_ge (D.pos_hi p k hs j hj h))) rfl ⟨Sub.rfl, Sub.rfl, Sub.rfl, trivial⟩) ?_
  refine Al_p (Pu_extract rfl rfl rfl) ?_
  refine Al_p (Pu_extract rfl rfl rfl) ?_
  refine Al_p Pu_mvr ?_
  refine Al_p Pu_mvr ?_
  refine Al_nil ?_
  refine Aw_ret ?_
  exact ⟨Sub.rfl, Sub.bool (D.pos_has hs)⟩ -- ret 0
set_option maxRecDepth 100000 in
theorem pget_a (p : List Dep) (k : ByteArray) (hs : D.Srt p) (hl : p.length ≤ 1000000) : ACall Tryz.prog 126 [.sl 3 (p.map Dep.row), tv k] (.row [iv (D.get p k).1, iv (D.get p k).2]) := by
  refine ACall_enterG (fun _ _ => by kernel_rfl) Tryz.func126 rfl Tryz.ntmps126 (Reads.cN Tryz.results126 Tryz.isAgg31 Tryz.sizeOf31) (Nat.le_of_ble_eq_true rfl) (fun hok M0 w0 hnl => ?_)
  refine Aw_seq (Aw_region ?_)
  refine Al_alloc rfl rfl rfl (by decide) Tryz.zeroValue31 rfl (by kernel_rfl) (fun g4 => ?_)
  refine Al_nil (Aw_seq (Aw_region ?_))
  refine Al_p Pu_mvl ?_
  refine Al_p Pu_mvl ?_
  refine Al_p (Pu_call (pfind_a p k hs hl) rfl ⟨Sub.rfl, Sub.rfl, trivial⟩) ?_
  refine Al_p Pu_mvl ?_
  refine Al_p (Pu_extract rfl rfl rfl) ?_
  refine Al_p (Pu_extract rfl rfl rfl) ?_
  refine Al_p Pu_mvr ?_
  refine Al_p Pu_mvr ?_
  refine Al_nil (Aw_seq (Aw_seq (Aw_region ?_)))
  refine Al_p Pu_mvl ?_
  refine Al_p (Pu_not rfl rfl) ?_
  refine Al_nil ?_
  refine Aw_cond rfl (fun h14 => ?_) (fun h14 => ?_)
  · skip
    have hk : D.hasK p k = false := by simpa using h14
    refine Aw_seq (Aw_region ?_)
    refine Al_p (Pu_build (aa := []) rfl Tryz.underlying31 Tryz.zeroValue31 (places31 Tryz.underlying31) (by kernel_rfl) trivial rfl) ?_
    refine Al_storeN rfl rfl rfl (by kernel_rfl) Tryz.isAgg31 Tryz.sizeOf31 rfl rfl rfl rfl (Nat.le_of_ble_eq_true rfl) ?_
    refine Al_nil ?_
    refine Aw_ret ?_
    rw [D.get_no hk]; exact ⟨_, _, _, _, _, [_, _], rfl, rfl, rfl, rfl, rfl⟩ -- ret 0
  · skip
    have hk : D.hasK p k = true := by simpa using h14
    obtain ⟨hj, he⟩ := D.pos_at hs hk
    have hg : D.get p k = ((p.getD (D.pos p k) default).n, (p.getD (D.pos p k) default).s) := D.get_pos hs hk rfl
    refine Aw_skip (Aw_seq (Aw_region ?_))
    refine Al_p Pu_mvl ?_
    refine Al_p Pu_mvl ?_
    refine Al_p (Pu_index rfl Tryz.underlying32 Tryz.sizeOf59 rfl rfl (rfl) (mapgetD (d := default) hj)) ?_
    refine Al_p (Pu_field 1 rfl Tryz.underlying59 rfl rfl Tryz.sizeOf31 rfl) ?_
    refine Al_p (Pu_loadN rfl Tryz.isAgg31 Tryz.sizeOf31 rfl (Nat.le_of_ble_eq_true rfl)) ?_
    refine Al_storeN rfl rfl rfl (by kernel_rfl) Tryz.isAgg31 Tryz.sizeOf31 rfl rfl rfl rfl (Nat.le_of_ble_eq_true rfl) ?_
    refine Al_nil ?_
    refine Aw_ret ?_
    rw [hg]; exact ⟨_, _, _, _, _, [_, _], rfl, rfl, rfl, rfl, rfl⟩ -- ret 1
set_option maxRecDepth 100000 in
theorem pmay_a (d : Dep) : ACall Tryz.prog 101 [.row d.row] (bv (D.okB d)) := by
  refine ACall_enter (fun _ _ => by kernel_rfl) Tryz.func101 rfl Tryz.ntmps101 Tryz.results101 (Nat.le_of_ble_eq_true rfl) (fun hok M0 w0 hnl => ?_)
  refine Aw_seq (Aw_region ?_)
  refine Al_p (Pu_boxN rfl rfl) ?_
  refine Al_p Pu_mvr ?_
  refine Al_nil (Aw_seq (Aw_region ?_))
  refine Al_p (Pu_field 0 rfl Tryz.underlying59 rfl rfl Tryz.sizeOf9 rfl) ?_
  refine Al_p (Pu_load1 rfl Tryz.isAgg9 rfl rfl) ?_
  refine Al_p (Pu_call (check_a d.key) rfl ⟨Sub.rfl, trivial⟩) ?_
  refine Al_p Pu_mvl ?_
  refine Al_st (St_gd [] rfl rfl rfl rfl trivial (fun hg7 => Pu_field 1 rfl Tryz.underlying59 rfl rfl Tryz.sizeOf31 rfl)) rfl (by decide) (by kernel_rfl) (by intro j b oj dj h1 h2 h3; cases h1; cases h2; cases h3; decide) ?_
  refine Al_st (St_gd [7] rfl rfl rfl rfl ⟨⟨_, rfl⟩, trivial⟩ (fun hg8 => Pu_loadN rfl Tryz.isAgg31 Tryz.sizeOf31 rfl (Nat.le_of_ble_eq_true rfl))) rfl (by decide) (by kernel_rfl) (by intro j b oj dj h1 h2 h3; cases h1; cases h2; cases h3; decide) ?_
  refine Al_st (St_gd [8] rfl rfl rfl rfl ⟨⟨_, rfl⟩, trivial⟩ (fun hg9 => Pu_call (stcheck_a d.n d.s) rfl ⟨Sub.rfl, trivial⟩)) rfl (by decide) (by kernel_rfl) (by intro j b oj dj h1 h2 h3; cases h1; cases h2; cases h3; decide) ?_
  refine Al_p (Pu_and rfl rfl rfl rfl) ?_
  refine Al_p Pu_mvr ?_
  refine Al_nil ?_
  refine Aw_ret ?_
  exact Sub.rfl -- ret 0
def D.maxS (l : List (Int × Int)) : Int × Int := l.foldl (fun m s => if D.lessB m.1 m.2 s.1 s.2 then s else m) (0, 0)
theorem D.maxS_take (l : List (Int × Int)) {k : Nat} (hk : k < l.length) : D.maxS (l.take (k + 1)) = if D.lessB (D.maxS (l.take k)).1 (D.maxS (l.take k)).2 l[k].1 l[k].2 then l[k] else D.maxS (l.take k) := by
  rw [List.take_succ_eq_append_getElem hk]; unfold D.maxS; rw [List.foldl_append]; rfl
set_option maxRecDepth 100000 in
theorem smax_a (l : List (Int × Int)) : ACall Tryz.prog 48 [.sl 2 (l.map fun s => [iv s.1, iv s.2])] (.row [iv (D.maxS l).1, iv (D.maxS l).2]) := by
  refine ACall_enterG (fun _ _ => by kernel_rfl) Tryz.func48 rfl Tryz.ntmps48 (Reads.cN Tryz.results48 Tryz.isAgg31 Tryz.sizeOf31) (Nat.le_of_ble_eq_true rfl) (fun hok M0 w0 hnl => ?_)
  have hlen := (hok _ (List.mem_cons_self ..)).len
  rw [List.length_map] at hlen
  refine Aw_seq (Aw_region ?_)
  refine Al_alloc rfl rfl rfl (by decide) Tryz.zeroValue31 rfl (by kernel_rfl) (fun g2 => ?_)
  refine Al_nil (Aw_seq (Aw_region ?_))
  refine Al_alloc rfl rfl rfl (by decide) Tryz.zeroValue31 rfl (by kernel_rfl) (fun g3 => ?_)
  refine Al_nil (Aw_seq (Aw_seq (Aw_region ?_)))
  refine Al_p Pu_mvl ?_
  refine Al_p (Pu_len rfl Tryz.underlying101 rfl (by first | exact List.length_map .. | exact rfl)) ?_
  refine Al_p Pu_mvl ?_
  refine Al_nil (Aw_block ?_)
  refine Aw_loopk (ι := Nat) [2, 3, 6, 7] [2] (fun k => [(8, .d (iv k))]) (fun k => [(3, g3, .box 31 [.d (iv (D.maxS (l.take k)).1), .d (iv (D.maxS (l.take k)).2)])]) (fun k => k ≤ l.length) (fun k => l.length - k) (0) (Nat.zero_le _) ⟨Sub.rfl, trivial⟩ ⟨rfl, trivial⟩ ?_
  rintro k hk0
  refine Aw_seq (Aw_region ?_)
  refine Al_p (Pu_cmp rfl rfl rfl rfl) ?_
  refine Al_nil (Aw_seq ?_)
  refine Aw_cond rfl (fun h9 => ?_) (fun h9 => ?_)
  · (try simp only [decide_eq_true_eq, decide_eq_false_iff_not, Bool.and_eq_true, Bool.or_eq_true, Bool.and_eq_false_iff, Bool.or_eq_false_iff, Bool.not_eq_true', Bool.not_eq_false', beq_iff_eq, Bool.not_eq_eq_eq_not, Bool.not_true, Bool.not_false, List.length_map, Bool.and_true, Bool.and_false, Bool.false_and, Bool.true_and, Bool.or_false, Bool.false_or] at h9)
    have hk : k < l.length := by omega
    have hmt := D.maxS_take l hk
    refine Aw_skip ?_
    -- join 0: live [2, 3, 6, 7, 8], turned []
    refine Aw_seq (Aw_block (Aw_seq (Aw_region ?_)))
    refine Al_p (Pu_index rfl Tryz.underlying101 Tryz.sizeOf31 rfl rfl (rfl) (mapget hk)) ?_
    refine Al_p (Pu_loadN rfl Tryz.isAgg31 Tryz.sizeOf31 rfl (Nat.le_of_ble_eq_true rfl)) ?_
    refine Al_alloc rfl rfl rfl (by decide) Tryz.zeroValue31 rfl (by kernel_rfl) (fun g5 => ?_)
    refine Al_storeN rfl rfl rfl (by kernel_rfl) Tryz.isAgg31 Tryz.sizeOf31 rfl rfl rfl rfl (Nat.le_of_ble_eq_true rfl) ?_
    refine Al_nil (Aw_seq (Aw_region ?_))
    refine Al_p (Pu_loadbN (r := [_, _]) rfl Tryz.isAgg31 Tryz.sizeOf31 rfl rfl rfl rfl) ?_
    refine Al_p (Pu_loadbN (r := [_, _]) rfl Tryz.isAgg31 Tryz.sizeOf31 rfl rfl rfl rfl) ?_
    refine Al_p (Pu_call (less_a (D.maxS (l.take k)).1 (D.maxS (l.take k)).2 (l[k]'hk).1 (l[k]'hk).2) rfl ⟨Sub.rfl, Sub.rfl, trivial⟩) ?_
    refine Al_nil ?_
    refine Aw_cond rfl (fun h14 => ?_) (fun h14 => ?_)
    · skip
      rw [if_pos h14] at hmt
      refine Aw_region ?_
      refine Al_p (Pu_loadbN (r := [_, _]) rfl Tryz.isAgg31 Tryz.sizeOf31 rfl rfl rfl rfl) ?_
      refine Al_storeN rfl rfl rfl (by kernel_rfl) Tryz.isAgg31 Tryz.sizeOf31 rfl rfl rfl rfl (Nat.le_of_ble_eq_true rfl) ?_
      refine Al_nil (Aw_region ?_)
      refine Al_p (Pu_add rfl rfl rfl (fun h1 h2 => by simp only [A.inI, A.maxI] at *; omega)) ?_
      refine Al_p Pu_mvl ?_
      refine Al_nil ?_
      exact ⟨k + 1, by omega, by omega, Le.ov ⟨Sub.num (by omega), trivial⟩ ⟨Sub.rfl, Sub.rfl, Sub.rfl, Sub.rfl, trivial⟩ ⟨by rw [hmt]; rfl, trivial⟩ ⟨rfl, trivial⟩⟩ -- loop 0 next.0
    · skip
      rw [if_neg (by rw [h14]; decide)] at hmt
      refine Aw_skip (Aw_region ?_)
      refine Al_p (Pu_add rfl rfl rfl (fun h1 h2 => by simp only [A.inI, A.maxI] at *; omega)) ?_
      refine Al_p Pu_mvl ?_
      refine Al_nil ?_
      exact ⟨k + 1, by omega, by omega, Le.ov ⟨Sub.num (by omega), trivial⟩ ⟨Sub.rfl, Sub.rfl, Sub.rfl, Sub.rfl, trivial⟩ ⟨by rw [hmt]; rfl, trivial⟩ ⟨rfl, trivial⟩⟩ -- loop 0 next.1
  · (try simp only [decide_eq_true_eq, decide_eq_false_iff_not, Bool.and_eq_true, Bool.or_eq_true, Bool.and_eq_false_iff, Bool.or_eq_false_iff, Bool.not_eq_true', Bool.not_eq_false', beq_iff_eq, Bool.not_eq_eq_eq_not, Bool.not_true, Bool.not_false, List.length_map, Bool.and_true, Bool.and_false, Bool.false_and, Bool.true_and, Bool.or_false, Bool.false_or] at h9)
    obtain rfl : k = l.length := by omega
    rw [List.take_length]
    refine Aw_exit (Aw_seq (Aw_region ?_))
    refine Al_p (Pu_loadbN (r := [_, _]) rfl Tryz.isAgg31 Tryz.sizeOf31 rfl rfl rfl rfl) ?_
    refine Al_storeN rfl rfl rfl (by kernel_rfl) Tryz.isAgg31 Tryz.sizeOf31 rfl rfl rfl rfl (Nat.le_of_ble_eq_true rfl) ?_
    refine Al_nil ?_
    refine Aw_ret ?_
    exact ⟨_, _, _, _, _, [_, _], rfl, rfl, rfl, rfl, rfl⟩ -- ret 0
namespace D
theorem max_two {x d : Dep} (h : okB x = true) : maxS [(x.n, x.s), (d.n, d.s)] = if lessB x.n x.s d.n d.s then (d.n, d.s) else (x.n, x.s) := by
  have h1 := (ok_stamp h).1
  have h2 : lessB 0 0 x.n x.s = true := by
    unfold lessB
    rw [if_neg (by omega)]
    simp; omega
  unfold maxS
  simp only [List.foldl_cons, List.foldl_nil, h2, if_true]
theorem cells_at {p : List Dep} {j : Nat} (hj : j < p.length) : ((p.map Dep.row).flatten.drop (j * 3 + 1)).take 2 = [iv (p.getD j default).n, iv (p.getD j default).s] := by
  have hu : ∀ r ∈ p.map Dep.row, r.length = 3 := fun r hr => by obtain ⟨x, _, rfl⟩ := List.mem_map.1 hr; rfl
  rw [← List.drop_drop, ← flat_drop hu, List.drop_eq_getElem_cons (l := p.map Dep.row) (by simpa using hj)]
  simp [Dep.row, hj]
theorem cells_set {p : List Dep} {j : Nat} (hj : j < p.length) (n s : Int) : ((p.set j ⟨(p.getD j default).key, n, s⟩).map Dep.row).flatten = (p.map Dep.row).flatten.take (j * 3 + 1) ++ [iv n, iv s] ++ (p.map Dep.row).flatten.drop (j * 3 + 1 + 2) := by
  have hu : ∀ r ∈ p.map Dep.row, r.length = 3 := fun r hr => by obtain ⟨x, _, rfl⟩ := List.mem_map.1 hr; rfl
  have h1 : (p.map Dep.row).flatten.take (j * 3 + 1) = (p.map Dep.row).flatten.take (j * 3) ++ [tv (p.getD j default).key] := by
    rw [List.take_add, ← flat_drop hu, List.drop_eq_getElem_cons (l := p.map Dep.row) (by simpa using hj)]
    simp [Dep.row, hj]
  have h2 : (p.map Dep.row).flatten.drop (j * 3 + 1 + 2) = (p.map Dep.row).flatten.drop ((j + 1) * 3) := by congr 1; omega
  rw [h1, h2, ← flat_take hu, ← flat_drop hu, List.set_eq_take_append_cons_drop, if_pos hj]
  simp [Dep.row]
end D
end Go.Proofs.YtmbaeloiepjakaaGreat
