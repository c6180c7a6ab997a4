/- SiteClock: the clock is never less, and no less than all that is kept; no condition. -/
import Derived.Test.YtmbaeloiepjakaaGreatB4
set_option linter.unusedSimpArgs false
set_option linter.unusedVariables false
set_option linter.constructorNameAsVariable false

section
namespace Go.Proofs.YtmbaeloiepjakaaGreat
open Go.RowKit A R
namespace J
theorem nl_trans {a b c d e f : Int} (h : D.lessB a b c d = false) (h2 : D.lessB c d e f = false) : D.lessB a b e f = false := by
  unfold D.lessB at *
  split at h <;> split at h2 <;> split <;> simp_all <;> omega
theorem nl_n {a b c d : Int} (h : D.lessB a b c d = false) : c ≤ a := by
  unfold D.lessB at h
  split at h <;> simp_all
theorem l_n {a b c d : Int} (h : a < c) : D.lessB a b c d = true := by
  unfold D.lessB
  rw [if_neg (by omega)]
  simpa using h
theorem nl_of {a b c d : Int} (h : c < a) : D.lessB a b c d = false := by
  unfold D.lessB
  rw [if_neg (by omega)]
  simp; omega
theorem mx_ge (x y : Int × Int) : D.lessB (mx x y).1 (mx x y).2 x.1 x.2 = false ∧ D.lessB (mx x y).1 (mx x y).2 y.1 y.2 = false := by
  unfold mx D.maxS
  simp only [List.foldl_cons, List.foldl_nil]
  have hx : D.lessB (if D.lessB 0 0 x.1 x.2 then x else ((0, 0) : Int × Int)).1 (if D.lessB 0 0 x.1 x.2 then x else ((0, 0) : Int × Int)).2 x.1 x.2 = false := by
    cases h : D.lessB 0 0 x.1 x.2 with
    | true => simp [D.less_irrefl]
    | false => simpa using h
  generalize (if D.lessB 0 0 x.1 x.2 then x else ((0, 0) : Int × Int)) = m at hx
  cases h : D.lessB m.1 m.2 y.1 y.2 with
  | true =>
    simp only [if_true]
    refine ⟨nl_trans (less_asymm h) hx, D.less_irrefl _ _⟩
  | false => simp only [Bool.false_eq_true, if_false]; exact ⟨hx, h⟩
theorem seen_ge : ∀ (past : List Dep) (x : Int × Int), D.lessB (past.foldl (fun x d => mx x (d.n, d.s)) x).1 (past.foldl (fun x d => mx x (d.n, d.s)) x).2 x.1 x.2 = false ∧ ∀ d ∈ past, D.lessB (past.foldl (fun x d => mx x (d.n, d.s)) x).1 (past.foldl (fun x d => mx x (d.n, d.s)) x).2 d.n d.s = false
  | [], x => ⟨D.less_irrefl _ _, fun d h => by cases h⟩
  | e :: r, x => by
    obtain ⟨h1, h2⟩ := seen_ge r (mx x (e.n, e.s))
    obtain ⟨m1, m2⟩ := mx_ge x (e.n, e.s)
    rw [List.foldl_cons]
    refine ⟨nl_trans h1 m1, fun d hd => ?_⟩
    rcases List.mem_cons.1 hd with rfl | hd
    · exact nl_trans h1 m2
    · exact h2 d hd
theorem head_mem {l : List Ver} {v : Ver} (h : head l = some v) : v ∈ l := by
  unfold head told at h
  split at h
  · exact List.mem_of_getElem? h
  · cases h
theorem getC_mem {cs : SC} {k : ByteArray} {v : Ver} (h : v ∈ getC cs k) : (k, getC cs k) ∈ cs := by
  unfold getC at h ⊢
  cases hl : look cs k with
  | none => rw [hl] at h; cases h
  | some l => exact mem_look hl
/-- The stamp of a head; none: 0. -/
def hst (o : Option Ver) : Int × Int := ((o.getD default).n, (o.getD default).s)
theorem put_head {l m : List Ver} {v : Ver} (h : put l v = some m) : D.lessB (hst (head m)).1 (hst (head m)).2 (hst (head l)).1 (hst (head l)).2 = false := by
  have hc := put_ok h
  have hn := (check_stamp hc).1
  unfold put at h
  split at h
  · cases h
    by_cases hd : l.drop (frm l v.n v.s) = []
    · have hfl : frm l v.n v.s = l.length := by
        have h1 := frm_le l v.n v.s
        rw [List.drop_eq_nil_iff] at hd
        omega
      rw [hd, head_snoc]
      show D.lessB v.n v.s _ _ = false
      cases hh : head l with
      | none => exact nl_of (by show (0 : Int) < v.n; omega)
      | some x =>
        have hx := head_mem hh
        obtain ⟨j, hj, rfl⟩ := List.getElem_of_mem hx
        have hnot := List.not_of_lt_findIdx (p := notB v.n v.s) (xs := l) (i := j) (by unfold frm at hfl; omega)
        unfold notB at hnot
        simp only [Bool.not_eq_true', Bool.not_eq_false', Bool.not_eq_true] at hnot
        have h5 : D.lessB l[j].n l[j].s v.n v.s = true := by simpa using hnot
        exact less_asymm h5
    · have hl : l ≠ [] := fun e => hd (by rw [e]; simp)
      have h1 : head (l.take (frm l v.n v.s) ++ v :: l.drop (frm l v.n v.s)) = head l := by
        rw [head_last (l := l.take (frm l v.n v.s) ++ v :: l.drop (frm l v.n v.s)) (by simp), head_last hl]
        congr 1
        rw [List.getLast_append_of_ne_nil _ (by simp), List.getLast_cons hd, List.getLast_drop]
      rw [h1]
      exact D.less_irrefl _ _
  · cases h
theorem put_mem {l m : List Ver} {v w : Ver} (h : put l v = some m) (hw : w ∈ m) : w = v ∨ w ∈ l := by
  unfold put at h
  split at h
  · cases h
    rcases List.mem_append.1 hw with hw | hw
    · exact .inr (List.mem_of_mem_take hw)
    · rcases List.mem_cons.1 hw with rfl | hw
      · exact .inl rfl
      · exact .inr (List.mem_of_mem_drop hw)
  · cases h
theorem sput_mem {rs : List Rng} {cs : SC} {v : Ver} {q : ByteArray × List Ver} (hq : q ∈ (sput rs cs v).1) {w : Ver} (hw : w ∈ q.2) : w = v ∨ ∃ q' ∈ cs, w ∈ q'.2 := by
  cases hb : (sput rs cs v).2 with
  | false => rw [sput_no hb] at hq; exact .inr ⟨q, hq, hw⟩
  | true =>
    obtain ⟨l, _, hl, he⟩ := sput_some hb
    rw [he] at hq
    rcases mem_setC _ _ _ _ hq with rfl | hq
    · rcases put_mem hl hw with h | h
      · exact .inl h
      · exact .inr ⟨_, getC_mem h, h⟩
    · exact .inr ⟨q, hq, hw⟩
theorem sput_head {rs : List Rng} {cs : SC} (hr : RiseC cs) (v : Ver) (c : ByteArray) : D.lessB (hst (shead (sput rs cs v).1 c)).1 (hst (shead (sput rs cs v).1 c)).2 (hst (shead cs c)).1 (hst (shead cs c)).2 = false := by
  cases hb : (sput rs cs v).2 with
  | false => rw [sput_no hb]; exact D.less_irrefl _ _
  | true =>
    obtain ⟨l, _, hl, he⟩ := sput_some hb
    rw [he]
    unfold shead
    rw [getC_set hr]
    by_cases hc : c = v.key
    · rw [if_pos hc, hc]; exact put_head hl
    · rw [if_neg hc]; exact D.less_irrefl _ _
end J
namespace PS
/-- The clock is no less than all that is kept, or waits. -/
structure Top (p : PS) : Prop where
  ch : ∀ q ∈ p.cs, ∀ v ∈ q.2, D.lessB p.n p.s v.n v.s = false
  wt : ∀ v ∈ p.wait, D.lessB p.n p.s v.n v.s = false
/-- The stamp of a key's head. -/
def top (p : PS) (c : ByteArray) : Int × Int := J.hst (J.shead p.cs c)
/-- A later site: its clock is not less, its heads are not older. -/
structure Since (p q : PS) : Prop where
  clock : D.lessB q.n q.s p.n p.s = false
  head : ∀ c, D.lessB (q.top c).1 (q.top c).2 (p.top c).1 (p.top c).2 = false
theorem Top.zero (k : Int) (rs : List Rng) : (PS.zero k rs).Top := ⟨fun q h => (by cases h), fun v h => by cases h⟩
theorem seen_clock (p : PS) (past : List Dep) : D.lessB (p.seen past).1 (p.seen past).2 p.n p.s = false := (J.seen_ge past (p.n, p.s)).1
theorem seen_past (p : PS) (past : List Dep) : ∀ d ∈ past, D.lessB (p.seen past).1 (p.seen past).2 d.n d.s = false := (J.seen_ge past (p.n, p.s)).2
theorem made_gt (p : PS) (key value : ByteArray) (gone : Bool) (past : List Dep) : D.lessB p.n p.s (p.made key value gone past).n (p.made key value gone past).s = true ∧ ∀ d ∈ past, D.lessB d.n d.s (p.made key value gone past).n (p.made key value gone past).s = true := by
  have h1 := J.nl_n (p.seen_clock past)
  refine ⟨J.l_n (by show p.n < max (p.seen past).1 0 + 1; omega), fun d hd => ?_⟩
  have h2 := J.nl_n (p.seen_past past d hd)
  exact J.l_n (by show d.n < max (p.seen past).1 0 + 1; omega)
theorem Since.refl (p : PS) : Since p p := ⟨D.less_irrefl _ _, fun _ => D.less_irrefl _ _⟩
theorem since_write (p : PS) {m : Nat} (hi : p.Inv m) (ht : p.Top) (key value : ByteArray) (gone : Bool) (past : List Dep) : (p.write key value gone past).Top ∧ Since p (p.write key value gone past) := by
  unfold PS.write
  split
  · have hg := (p.made_gt key value gone past).1
    have hge : ∀ a b, D.lessB p.n p.s a b = false → D.lessB (p.made key value gone past).n (p.made key value gone past).s a b = false := fun a b h => J.nl_trans (J.less_asymm hg) h
    refine ⟨⟨fun q hq v hv => ?_, fun v hv => hge _ _ (ht.wt v hv)⟩, ⟨J.less_asymm hg, fun c => J.sput_head hi.ok.rise _ c⟩⟩
    rcases J.sput_mem hq hv with rfl | ⟨q', h1, h2⟩
    · exact D.less_irrefl _ _
    · exact hge _ _ (ht.ch q' h1 v h2)
  · exact ⟨ht, Since.refl p⟩
theorem clockP_ge (p : PS) (v : Ver) : D.lessB (p.clockP v).n (p.clockP v).s p.n p.s = false ∧ D.lessB (p.clockP v).n (p.clockP v).s v.n v.s = false := J.mx_ge (p.n, p.s) (v.n, v.s)
theorem since_arrive (p : PS) (ht : p.Top) (v : Ver) : (p.arrive v).Top ∧ Since p (p.arrive v) := by
  obtain ⟨g1, g2⟩ := p.clockP_ge v
  unfold PS.arrive
  split
  · split
    · exact ⟨⟨fun q hq w hw => J.nl_trans g1 (ht.ch q hq w hw), fun w hw => J.nl_trans g1 (ht.wt w hw)⟩, ⟨g1, fun _ => D.less_irrefl _ _⟩⟩
    · refine ⟨⟨fun q hq w hw => J.nl_trans g1 (ht.ch q hq w hw), fun w hw => ?_⟩, ⟨g1, fun _ => D.less_irrefl _ _⟩⟩
      rcases List.mem_append.1 hw with hw | hw
      · exact J.nl_trans g1 (ht.wt w hw)
      · cases List.mem_singleton.1 hw; exact g2
  · exact ⟨ht, Since.refl p⟩
theorem since_step (p : PS) {m : Nat} (hi : p.Inv m) (ht : p.Top) : p.step.Top ∧ Since p p.step := by
  unfold PS.step
  split
  · rename_i v hv
    have hm : v ∈ p.wait := by
      unfold PS.stepV J.nextV at hv
      exact List.mem_of_getElem? hv
    refine ⟨⟨fun q hq w hw => ?_, fun w hw => ht.wt w (List.mem_of_mem_eraseIdx hw)⟩, ⟨D.less_irrefl _ _, fun c => J.sput_head hi.ok.rise _ c⟩⟩
    rcases J.sput_mem hq hw with rfl | ⟨q', h1, h2⟩
    · exact ht.wt _ hm
    · exact ht.ch q' h1 w h2
  · exact ⟨ht, Since.refl p⟩
theorem since_clean (p : PS) {m : Nat} (hi : p.Inv m) (ht : p.Top) (n s : Int) (pins : List Dep) : (p.clean n s pins).Top ∧ Since p (p.clean n s pins) := by
  refine ⟨⟨fun q hq w hw => ?_, ht.wt⟩, ⟨D.less_irrefl _ _, fun c => ?_⟩⟩
  · obtain ⟨q', h1, rfl⟩ := List.mem_map.1 hq
    exact ht.ch q' h1 w (List.mem_filter.1 hw).1
  · have h1 : J.shead (J.sclean p.cs n s pins) c = J.shead p.cs c := by
      unfold J.shead
      rw [J.getC_clean]
      by_cases h : J.getC p.cs c = []
      · rw [h]; rfl
      · exact J.head_clean h _ _ _
    show D.lessB (J.hst (J.shead (J.sclean p.cs n s pins) c)).1 _ _ _ = false
    rw [show (p.clean n s pins).top c = J.hst (J.shead (J.sclean p.cs n s pins) c) from rfl, h1]
    exact D.less_irrefl _ _
/-- No head is above the clock. -/
theorem have_le {p : PS} {m : Nat} (hi : p.Inv m) (ht : p.Top) {j : Nat} (hj : j < (J.have' p.cs).length) : D.lessB p.n p.s ((J.have' p.cs).getD j default).n ((J.have' p.cs).getD j default).s = false := by
  have hk : j < (J.keysC p.cs).length := by rw [← J.have_len]; exact hj
  obtain ⟨_, h2, h3⟩ := hi.own.at hk
  obtain ⟨v, hv⟩ := Option.isSome_iff_exists.1 h2
  rw [h3, hv]
  have hm : v ∈ J.getC p.cs ((J.keysC p.cs).getD j default) := J.head_mem hv
  exact ht.ch _ (J.getC_mem hm) v hm
end PS
end Go.Proofs.YtmbaeloiepjakaaGreat
end

section
set_option maxRecDepth 100000
namespace Go.Proofs.YtmbaeloiepjakaaGreat
open Go.RowKit A R
open A.RowT
namespace TOp
def id6 (z : Int) : Int := Int.tmod (Int.tmod z 6 + 6) 6
theorem id6_le (z : Int) : (0 ≤ id6 z ∧ id6 z < 6) ∧ -6 < Int.tmod z 6 ∧ Int.tmod z 6 < 6 := by
  have h0 : -6 < Int.tmod z 6 := Int.lt_tmod_of_pos _ (by decide)
  have h1 : Int.tmod z 6 < 6 := Int.tmod_lt_of_pos _ (by decide)
  unfold id6
  have h2 : 0 ≤ Int.tmod z 6 + 6 := by omega
  exact ⟨⟨Int.tmod_nonneg _ h2, Int.tmod_lt_of_pos _ (by decide)⟩, h0, h1⟩
end TOp
theorem PS.write_same (p : PS) (key value : ByteArray) (gone : Bool) (past : List Dep) : (p.write key value gone past).rs = p.rs ∧ (p.write key value gone past).id = p.id := by unfold PS.write; split <;> exact ⟨rfl, rfl⟩
theorem PS.arrive_same (p : PS) (v : Ver) : (p.arrive v).rs = p.rs ∧ (p.arrive v).id = p.id := by
  unfold PS.arrive
  split
  · split <;> exact ⟨rfl, rfl⟩
  · exact ⟨rfl, rfl⟩
theorem PS.step_same (p : PS) : p.step.rs = p.rs ∧ p.step.id = p.id := by unfold PS.step; split <;> exact ⟨rfl, rfl⟩
set_option maxHeartbeats 2000000 in
theorem siteclock_law (z : Int) (l : List TOp) : ACall Tryz.prog 7 [iv z, .sl 7 (l.map TOp.row)] (bv true) := by
  refine ACall_enter (fun _ _ => by kernel_rfl) Tryz.func7 rfl Tryz.ntmps7 Tryz.results7 (Nat.le_of_ble_eq_true rfl) (fun hok M0 w0 hnl => ?_)
  have hlen := (hok (.sl 7 (l.map TOp.row)) (by simp)).len
  rw [List.length_map] at hlen
  have hr0 : (J.ranges 0).length ≤ 1000000 := Nat.le_trans (J.ranges_len 0) (by decide)
  obtain ⟨hid, hw0, hw1⟩ := TOp.id6_le z
  have hw2 : Int.tmod (Int.tmod z 6 + 6) 6 = TOp.id6 z := rfl
  refine Aw_seq (Aw_region ?_)
  refine Al_p Pu_mvr ?_
  refine Al_nil (Aw_seq (Aw_region ?_))
  refine Al_p (Pu_call (tawake_a) rfl trivial) ?_
  refine Al_p Pu_mvr ?_
  refine Al_nil (Aw_seq (Aw_region ?_))
  refine Al_p Pu_mvl ?_
  refine Al_p (Pu_rem rfl rfl rfl (by omega) rfl) ?_
  refine Al_p (Pu_add rfl rfl rfl (fun h1 h2 => by simp only [A.inI, A.maxI] at *; omega)) ?_
  refine Al_p (Pu_rem rfl rfl rfl (by omega) rfl) ?_
  refine Al_p Pu_mvr ?_
  refine Al_nil (Aw_seq ?_)
  rw [hw2]
  refine Aw_region ?_
  refine Al_p Pu_mvl ?_
  refine Al_p (Pu_call (tranges_a 0) rfl ⟨Sub.rfl, trivial⟩) ?_
  refine Al_gcallE [] [(1001, 31), (1002, 310), (1003, 311)] (stNew_g (TOp.id6 z) hid (J.ranges 0) hr0) rfl rfl rfl (by decide) (by kernel_rfl) trivial (fun _ => rfl) rfl rfl ⟨Sub.rfl, Sub.rfl, trivial⟩ ?_
  rintro b g31
  refine Al_p Pu_mvr ?_
  refine Al_nil (Aw_seq (Aw_seq (Aw_region ?_)))
  refine Al_p Pu_mvl ?_
  refine Al_p (Pu_eqnilb Tryz.underlying24 rfl rfl) ?_
  refine Al_nil ?_
  refine Aw_condF rfl (rfl) ?_
  refine Aw_skip (Aw_seq (Aw_seq (Aw_region ?_)))
  refine Al_p Pu_mvr ?_
  refine Al_nil (Aw_block ?_)
  refine Aw_loopk (ι := Nat × PS) [1, 5, 6, 7] [] (fun (k, p) => [(8, .d (iv k))]) (fun (k, p) => [(31, g31, .box 84 [.bx 310 g31 0, .d (iv p.id), .d (versA p.wait), .d (iv p.n), .d (iv p.s)]), (310, g31, .box 115 [.d (rngA p.rs), .ow 311 g31]), (311, g31, mapV b p.cs)]) (fun (k, p) => k ≤ l.length ∧ k ≤ 40 ∧ p.Inv k ∧ p.Top ∧ p.rs = J.ranges 0 ∧ p.id = TOp.id6 z) (fun (k, p) => 40 - k) (0, PS.zero (TOp.id6 z) (J.ranges 0)) (⟨Nat.zero_le _, Nat.zero_le _, PS.Inv.zero hid hr0, PS.Top.zero _ _, rfl, rfl⟩) ⟨Sub.rfl, trivial⟩ ⟨rfl, rfl, rfl, trivial⟩ ?_
  rintro ⟨k, p⟩ ⟨hk1, hk2, hp, ht, hrs, hpid⟩
  refine Aw_seq (Aw_seq (Aw_region ?_))
  refine Al_p Pu_mvl ?_
  refine Al_p Pu_mvl ?_
  refine Al_p (Pu_len rfl Tryz.underlying22 rfl (by first | exact List.length_map .. | exact rfl)) ?_
  refine Al_p (Pu_cmp rfl rfl rfl rfl) ?_
  refine Al_p Pu_mvl ?_
  refine Al_st (St_gd [] rfl rfl rfl rfl trivial (fun hg39 => by exact Pu_move (.inl rfl) (by conv => lhs; whnf))) rfl (by decide) (by kernel_rfl) (by intro j b oj dj h1 h2 h3; cases h1; cases h2; cases h3; decide) ?_
  refine Al_st (St_gd [39] rfl rfl rfl rfl ⟨⟨_, rfl⟩, trivial⟩ (fun hg40 => Pu_cmp rfl rfl rfl rfl)) rfl (by decide) (by kernel_rfl) (by intro j b oj dj h1 h2 h3; cases h1; cases h2; cases h3; decide) ?_
  refine Al_p (Pu_and rfl rfl rfl rfl) ?_
  refine Al_nil ?_
  refine Aw_cond rfl (fun h41 => ?_) (fun h41 => ?_)
  · (try simp only [decide_eq_true_eq, decide_eq_false_iff_not, Bool.and_eq_true, Bool.or_eq_true, Bool.and_eq_false_iff, Bool.or_eq_false_iff, Bool.not_eq_true', Bool.not_eq_false', beq_iff_eq, Bool.not_eq_eq_eq_not, Bool.not_true, Bool.not_false, List.length_map, Bool.and_true, Bool.and_false, Bool.false_and, Bool.true_and, Bool.or_false, Bool.false_or] at h41)
    obtain ⟨ha, hb⟩ : k < l.length ∧ k < 40 := by omega
    obtain ⟨o, ho⟩ : ∃ o, o = l.getD k default := ⟨_, rfl⟩
    have hrv : ∀ q : PS, q.rs = J.ranges 0 → q.readV (J.word o.key) = J.shead q.cs (J.word o.key) ∧ q.readE (J.word o.key) = 0 := fun q hq => by
      unfold PS.readV PS.readE
      rw [hq, if_neg (J.findR_all _), if_neg (J.findR_all _)]
      exact ⟨rfl, rfl⟩
    obtain ⟨hrv1, hrv2⟩ := hrv p hrs
    have hpl5 := o.past_len
    refine Aw_skip ?_
    -- join 0: live [1, 5, 6, 7, 8], turned []
    refine Aw_seq (Aw_block (Aw_seq (Aw_region ?_)))
    refine Al_p Pu_mvl ?_
    refine Al_p Pu_mvl ?_
    refine Al_p (Pu_index rfl Tryz.underlying22 Tryz.sizeOf36 rfl rfl (rfl) (mapgetD (d := default) ha)) ?_
    refine Al_p (Pu_loadN rfl Tryz.isAgg36 Tryz.sizeOf36 rfl (Nat.le_of_ble_eq_true rfl)) ?_
    refine Al_alloc rfl rfl rfl (by decide) Tryz.zeroValue36 rfl (by kernel_rfl) (fun g9 => ?_)
    refine Al_storeN rfl rfl rfl (by kernel_rfl) Tryz.isAgg36 Tryz.sizeOf36 rfl rfl rfl rfl (Nat.le_of_ble_eq_true rfl) ?_
    refine Al_nil (Aw_seq ?_)
    rw [← ho]
    refine Aw_region ?_
    refine Al_p (Pu_fieldb 1 rfl Tryz.underlying36 rfl rfl Tryz.sizeOf3 rfl) ?_
    refine Al_p (Pu_loadb rfl Tryz.isAgg3 rfl rfl rfl) ?_
    refine Al_p (Pu_call (tword_a o.key) rfl ⟨Sub.rfl, trivial⟩) ?_
    refine Al_p Pu_mvr ?_
    refine Al_nil (Aw_seq (Aw_region ?_))
    refine Al_p Pu_mvl ?_
    refine Al_p (Pu_gcall [(1001, 31, g31), (1002, 310, g31), (1003, 311, g31)] (stClock_g p b) (ST_in ..) rfl ⟨rfl, rfl, rfl, trivial⟩ rfl ⟨Sub.rfl, trivial⟩) ?_
    refine Al_alloc rfl rfl rfl (by decide) Tryz.zeroValue31 rfl (by kernel_rfl) (fun g11 => ?_)
    refine Al_storeN rfl rfl rfl (by kernel_rfl) Tryz.isAgg31 Tryz.sizeOf31 rfl rfl rfl rfl (Nat.le_of_ble_eq_true rfl) ?_
    refine Al_nil (Aw_seq (Aw_region ?_))
    refine Al_p Pu_mvl ?_
    refine Al_p Pu_mvl ?_
    refine Al_p (Pu_gcall [(1001, 31, g31), (1002, 310, g31), (1003, 311, g31)] (stRead_g p b (J.word o.key) hp.ok (by omega)) (ST_in ..) rfl ⟨rfl, rfl, rfl, trivial⟩ rfl ⟨Sub.rfl, Sub.rfl, trivial⟩) ?_
    refine Al_p Pu_mvl ?_
    refine Al_p (Pu_extract rfl rfl rfl) ?_
    refine Al_p (Pu_extract rfl rfl rfl) ?_
    refine Al_p (Pu_extract rfl rfl rfl) ?_
    refine Al_alloc rfl rfl rfl (by decide) Tryz.zeroValue34 rfl (by kernel_rfl) (fun g12 => ?_)
    refine Al_storeN rfl rfl rfl (by kernel_rfl) Tryz.isAgg34 Tryz.sizeOf34 rfl rfl rfl rfl (Nat.le_of_ble_eq_true rfl) ?_
    refine Al_p Pu_mvr ?_
    refine Al_p Pu_mvr ?_
    refine Al_nil ?_
    refine Aw_join (ι := PS) [1, 5, 6, 7, 8, 10, 11, 12] [11, 12] (fun q => []) (fun q => [(31, g31, .box 84 [.bx 310 g31 0, .d (iv q.id), .d (versA q.wait), .d (iv q.n), .d (iv q.s)]), (310, g31, .box 115 [.d (rngA q.rs), .ow 311 g31]), (311, g31, mapV b q.cs)]) (fun q => q.Inv (k + 1) ∧ q.Top ∧ q.rs = J.ranges 0 ∧ q.id = TOp.id6 z ∧ PS.Since p q) ?_ ?_ -- join 1
    · refine Aw_seq ?_
      rw [hrv1]
      refine Aw_region ?_
      refine Al_p (Pu_fieldb 0 rfl Tryz.underlying36 rfl rfl Tryz.sizeOf3 rfl) ?_
      refine Al_p (Pu_loadb rfl Tryz.isAgg3 rfl rfl rfl) ?_
      refine Al_p (Pu_int_and (r := J.andI o.kind 7) rfl rfl rfl rfl (fun _ => V.i64_ok _)) ?_
      refine Al_nil (Aw_block ?_)
      refine Aw_join (ι := Bool) [1, 5, 6, 7, 8, 9, 10, 11, 12, 62] [31, 310, 311, 9, 11, 12] (fun x => [(113, .d (bv x))]) (fun x => []) (fun x => True) ?_ ?_ -- join 2
      · refine Aw_seq (Aw_region ?_)
        refine Al_p (Pu_cmp rfl rfl rfl rfl) ?_
        refine Al_p Pu_mvr ?_
        refine Al_nil ?_
        refine Aw_cond rfl (fun h113 => ?_) (fun h113 => ?_)
        · (try simp only [decide_eq_true_eq, decide_eq_false_iff_not, Bool.and_eq_true, Bool.or_eq_true, Bool.and_eq_false_iff, Bool.or_eq_false_iff, Bool.not_eq_true', Bool.not_eq_false', beq_iff_eq, Bool.not_eq_eq_eq_not, Bool.not_true, Bool.not_false, List.length_map, Bool.and_true, Bool.and_false, Bool.false_and, Bool.true_and, Bool.or_false, Bool.false_or] at h113)
          refine Aw_skip ?_
          exact ⟨_, trivial, Le.ov ⟨Sub.rfl, trivial⟩ ⟨Sub.rfl, Sub.rfl, Sub.rfl, Sub.rfl, Sub.rfl, Sub.rfl, Sub.rfl, Sub.rfl, Sub.rfl, Sub.rfl, trivial⟩ trivial ⟨rfl, rfl, rfl, rfl, rfl, rfl, trivial⟩⟩ -- join 2 next.0
        · (try simp only [decide_eq_true_eq, decide_eq_false_iff_not, Bool.and_eq_true, Bool.or_eq_true, Bool.and_eq_false_iff, Bool.or_eq_false_iff, Bool.not_eq_true', Bool.not_eq_false', beq_iff_eq, Bool.not_eq_eq_eq_not, Bool.not_true, Bool.not_false, List.length_map, Bool.and_true, Bool.and_false, Bool.false_and, Bool.true_and, Bool.or_false, Bool.false_or] at h113)
          refine Aw_region ?_
          refine Al_p (Pu_cmp rfl rfl rfl rfl) ?_
          refine Al_p Pu_mvr ?_
          refine Al_nil ?_
          exact ⟨_, trivial, Le.ov ⟨Sub.rfl, trivial⟩ ⟨Sub.rfl, Sub.rfl, Sub.rfl, Sub.rfl, Sub.rfl, Sub.rfl, Sub.rfl, Sub.rfl, Sub.rfl, Sub.rfl, trivial⟩ trivial ⟨rfl, rfl, rfl, rfl, rfl, rfl, trivial⟩⟩ -- join 2 next.1
      · rintro x hj2
        refine Aw_cond rfl (fun h113 => ?_) (fun h113 => ?_)
        · (try simp only [decide_eq_true_eq, decide_eq_false_iff_not, Bool.and_eq_true, Bool.or_eq_true, Bool.and_eq_false_iff, Bool.or_eq_false_iff, Bool.not_eq_true', Bool.not_eq_false', beq_iff_eq, Bool.not_eq_eq_eq_not, Bool.not_true, Bool.not_false, List.length_map, Bool.and_true, Bool.and_false, Bool.false_and, Bool.true_and, Bool.or_false, Bool.false_or] at h113)
          refine Aw_region ?_
          refine Al_p Pu_mvl ?_
          refine Al_p (Pu_loadbN (r := [_, _, _, _, _, _, _]) rfl Tryz.isAgg36 Tryz.sizeOf36 rfl rfl rfl rfl) ?_
          refine Al_p (Pu_call (tversion_a o) rfl ⟨Sub.rfl, trivial⟩) ?_
          refine Al_gcall [(1001, 31, g31), (1002, 310, g31), (1003, 311, g31)] [] (stArrive_g p b o.ver hp.ok (by omega)) rfl rfl rfl (by decide) (by kernel_rfl) ⟨rfl, rfl, rfl, trivial⟩ rfl ⟨Sub.rfl, Sub.rfl, trivial⟩ (fun g119 => ?_)
          refine Al_nil ?_
          exact ⟨p.arrive o.ver, ⟨(hp.arrive _).mono (by omega), (p.since_arrive ht _).1, (p.arrive_same _).1.trans hrs, (p.arrive_same _).2.trans hpid, (p.since_arrive ht _).2⟩, Le.ov trivial ⟨Sub.rfl, Sub.rfl, Sub.rfl, Sub.rfl, Sub.rfl, Sub.rfl, Sub.rfl, Sub.rfl, trivial⟩ ⟨rfl, rfl, rfl, trivial⟩ ⟨rfl, rfl, trivial⟩⟩ -- join 1 next.0
        · (try simp only [decide_eq_true_eq, decide_eq_false_iff_not, Bool.and_eq_true, Bool.or_eq_true, Bool.and_eq_false_iff, Bool.or_eq_false_iff, Bool.not_eq_true', Bool.not_eq_false', beq_iff_eq, Bool.not_eq_eq_eq_not, Bool.not_true, Bool.not_false, List.length_map, Bool.and_true, Bool.and_false, Bool.false_and, Bool.true_and, Bool.or_false, Bool.false_or] at h113)
          refine Aw_join (ι := Bool) [1, 5, 6, 7, 8, 9, 10, 11, 12, 62] [31, 310, 311, 9, 11, 12] (fun y => [(120, .d (bv y))]) (fun y => []) (fun y => True) ?_ ?_ -- join 3
          · refine Aw_seq (Aw_region ?_)
            refine Al_p (Pu_cmp rfl rfl rfl rfl) ?_
            refine Al_p Pu_mvr ?_
            refine Al_nil ?_
            refine Aw_cond rfl (fun h120 => ?_) (fun h120 => ?_)
            · (try simp only [decide_eq_true_eq, decide_eq_false_iff_not, Bool.and_eq_true, Bool.or_eq_true, Bool.and_eq_false_iff, Bool.or_eq_false_iff, Bool.not_eq_true', Bool.not_eq_false', beq_iff_eq, Bool.not_eq_eq_eq_not, Bool.not_true, Bool.not_false, List.length_map, Bool.and_true, Bool.and_false, Bool.false_and, Bool.true_and, Bool.or_false, Bool.false_or] at h120)
              refine Aw_skip ?_
              exact ⟨_, trivial, Le.ov ⟨Sub.rfl, trivial⟩ ⟨Sub.rfl, Sub.rfl, Sub.rfl, Sub.rfl, Sub.rfl, Sub.rfl, Sub.rfl, Sub.rfl, Sub.rfl, Sub.rfl, trivial⟩ trivial ⟨rfl, rfl, rfl, rfl, rfl, rfl, trivial⟩⟩ -- join 3 next.0
            · (try simp only [decide_eq_true_eq, decide_eq_false_iff_not, Bool.and_eq_true, Bool.or_eq_true, Bool.and_eq_false_iff, Bool.or_eq_false_iff, Bool.not_eq_true', Bool.not_eq_false', beq_iff_eq, Bool.not_eq_eq_eq_not, Bool.not_true, Bool.not_false, List.length_map, Bool.and_true, Bool.and_false, Bool.false_and, Bool.true_and, Bool.or_false, Bool.false_or] at h120)
              refine Aw_region ?_
              refine Al_p (Pu_cmp rfl rfl rfl rfl) ?_
              refine Al_p Pu_mvr ?_
              refine Al_nil ?_
              exact ⟨_, trivial, Le.ov ⟨Sub.rfl, trivial⟩ ⟨Sub.rfl, Sub.rfl, Sub.rfl, Sub.rfl, Sub.rfl, Sub.rfl, Sub.rfl, Sub.rfl, Sub.rfl, Sub.rfl, trivial⟩ trivial ⟨rfl, rfl, rfl, rfl, rfl, rfl, trivial⟩⟩ -- join 3 next.1
          · rintro y hj3
            refine Aw_cond rfl (fun h120 => ?_) (fun h120 => ?_)
            · (try simp only [decide_eq_true_eq, decide_eq_false_iff_not, Bool.and_eq_true, Bool.or_eq_true, Bool.and_eq_false_iff, Bool.or_eq_false_iff, Bool.not_eq_true', Bool.not_eq_false', beq_iff_eq, Bool.not_eq_eq_eq_not, Bool.not_true, Bool.not_false, List.length_map, Bool.and_true, Bool.and_false, Bool.false_and, Bool.true_and, Bool.or_false, Bool.false_or] at h120)
              refine Aw_region ?_
              refine Al_p Pu_mvl ?_
              refine Al_gcall [(1001, 31, g31), (1002, 310, g31), (1003, 311, g31)] [] (stStep_g p b hp.ok (by omega)) rfl rfl rfl (by decide) (by kernel_rfl) ⟨rfl, rfl, rfl, trivial⟩ rfl ⟨Sub.rfl, trivial⟩ (fun g124 => ?_)
              refine Al_nil ?_
              exact ⟨p.step, ⟨hp.step, (p.since_step hp ht).1, p.step_same.1.trans hrs, p.step_same.2.trans hpid, (p.since_step hp ht).2⟩, Le.ov trivial ⟨Sub.rfl, Sub.rfl, Sub.rfl, Sub.rfl, Sub.rfl, Sub.rfl, Sub.rfl, Sub.rfl, trivial⟩ ⟨rfl, rfl, rfl, trivial⟩ ⟨rfl, rfl, trivial⟩⟩ -- join 1 next.1
            · (try simp only [decide_eq_true_eq, decide_eq_false_iff_not, Bool.and_eq_true, Bool.or_eq_true, Bool.and_eq_false_iff, Bool.or_eq_false_iff, Bool.not_eq_true', Bool.not_eq_false', beq_iff_eq, Bool.not_eq_eq_eq_not, Bool.not_true, Bool.not_false, List.length_map, Bool.and_true, Bool.and_false, Bool.false_and, Bool.true_and, Bool.or_false, Bool.false_or] at h120)
              refine Aw_seq (Aw_region ?_)
              refine Al_p (Pu_cmp rfl rfl rfl rfl) ?_
              refine Al_p Pu_mvr ?_
              refine Al_nil ?_
              refine Aw_cond rfl (fun h125 => ?_) (fun h125 => ?_)
              · (try simp only [decide_eq_true_eq, decide_eq_false_iff_not, Bool.and_eq_true, Bool.or_eq_true, Bool.and_eq_false_iff, Bool.or_eq_false_iff, Bool.not_eq_true', Bool.not_eq_false', beq_iff_eq, Bool.not_eq_eq_eq_not, Bool.not_true, Bool.not_false, List.length_map, Bool.and_true, Bool.and_false, Bool.false_and, Bool.true_and, Bool.or_false, Bool.false_or] at h125)
                refine Aw_draw 6 (by kernel_rfl) (by kernel_rfl) ?_
                refine Dr_p Pu_mvl ?_
                refine Dr_p (Pu_fieldb 2 rfl Tryz.underlying36 rfl rfl Tryz.sizeOf3 rfl) ?_
                refine Dr_p (Pu_loadb rfl Tryz.isAgg3 rfl rfl rfl) ?_
                refine Dr_p (Pu_build (aa := [(0, _)]) rfl Tryz.underlying31 Tryz.zeroValue31 (places31 Tryz.underlying31) (by kernel_rfl) ⟨rfl, rfl, rfl, trivial⟩ rfl) ?_
                refine Dr_p (Pu_loadbN (r := [_, _, _, _, _, _, _]) rfl Tryz.isAgg36 Tryz.sizeOf36 rfl rfl rfl rfl) ?_
                refine Dr_p (Pu_call (tpast_a o) rfl ⟨Sub.rfl, trivial⟩) ?_
                refine Dr_nil ?_
                refine Al_gcall [(1001, 31, g31), (1002, 310, g31), (1003, 311, g31)] [] (stClean_g p b o.n 0 o.pastP (by have := o.past_len; omega) hp.ok (by omega)) rfl rfl rfl (by decide) (by kernel_rfl) ⟨rfl, rfl, rfl, trivial⟩ rfl ⟨Sub.rfl, Sub.rfl, Sub.rfl, trivial⟩ (fun g133 => ?_)
                refine Al_nil ?_
                exact ⟨p.clean o.n 0 o.pastP, ⟨(hp.clean _ _ _).mono (by omega), (p.since_clean hp ht _ _ _).1, hrs, hpid, (p.since_clean hp ht _ _ _).2⟩, Le.ov trivial ⟨Sub.rfl, Sub.rfl, Sub.rfl, Sub.rfl, Sub.rfl, Sub.rfl, Sub.rfl, Sub.rfl, trivial⟩ ⟨rfl, rfl, rfl, trivial⟩ ⟨rfl, rfl, trivial⟩⟩ -- join 1 next.2
              · (try simp only [decide_eq_true_eq, decide_eq_false_iff_not, Bool.and_eq_true, Bool.or_eq_true, Bool.and_eq_false_iff, Bool.or_eq_false_iff, Bool.not_eq_true', Bool.not_eq_false', beq_iff_eq, Bool.not_eq_eq_eq_not, Bool.not_true, Bool.not_false, List.length_map, Bool.and_true, Bool.and_false, Bool.false_and, Bool.true_and, Bool.or_false, Bool.false_or] at h125)
                -- join 4: live [1, 5, 6, 7, 8, 9, 10, 11, 12, 15, 16], turned [15, 16]
                refine Aw_seq ?_
                refine Aw_drawPA 8 12 6 (by kernel_rfl) (by kernel_rfl) rfl (by decide) rfl rfl rfl rfl (by decide) Tryz.zeroValue34 rfl (by kernel_rfl) rfl ?_
                refine Dr_p Pu_mvl ?_
                refine Dr_p Pu_mvl ?_
                refine Dr_p (Pu_loadbN (r := [_, _, _, _, _, _, _]) rfl Tryz.isAgg36 Tryz.sizeOf36 rfl rfl rfl rfl) ?_
                refine Dr_p (Pu_call (tvalue_a o) rfl ⟨Sub.rfl, trivial⟩) ?_
                refine Dr_p (Pu_fieldb 4 rfl Tryz.underlying36 rfl rfl Tryz.sizeOf4 rfl) ?_
                refine Dr_p (Pu_loadb rfl Tryz.isAgg4 rfl rfl rfl) ?_
                refine Dr_p (Pu_loadbN (r := [_, _, _, _, _, _, _]) rfl Tryz.isAgg36 Tryz.sizeOf36 rfl rfl rfl rfl) ?_
                refine Dr_p (Pu_call (tpast_a o) rfl ⟨Sub.rfl, trivial⟩) ?_
                refine Dr_nil ⟨?_, fun g15 => ?_⟩
                · refine Ad_two 8 12 rfl rfl (by kernel_rfl) ?_ ?_
                  · refine Al_gcall [(1001, 31, g31), (1002, 310, g31), (1003, 311, g31)] [] (stWrite_g p b (J.word o.key) o.val o.gone o.pastP (by have := o.past_len; omega) hp.ok (by omega)) rfl rfl rfl (by decide) (by kernel_rfl) ⟨rfl, rfl, rfl, trivial⟩ rfl ⟨Sub.rfl, Sub.rfl, Sub.rfl, Sub.rfl, Sub.rfl, trivial⟩ (fun g72 => ?_)
                    refine Al_nil ?_
                    refine Ad_take 9 rfl (PuI_move (.inl rfl) (by conv => lhs; whnf)) rfl rfl (by decide) (by kernel_rfl) (by kernel_rfl) (by kernel_rfl) (by kernel_rfl) (fun _ _ h => h) ?_
                    refine Ad_take 10 rfl (PuI_extract rfl rfl rfl) rfl rfl (by decide) (by kernel_rfl) (by kernel_rfl) (by kernel_rfl) (by kernel_rfl) (fun _ _ h => h) ?_
                    refine Ad_take 11 rfl (PuI_extract rfl rfl rfl) rfl rfl (by decide) (by kernel_rfl) (by kernel_rfl) (by kernel_rfl) (by kernel_rfl) (fun _ _ h => h) ?_
                    refine Ad_one 12 rfl (by kernel_rfl) ?_
                    refine Al_alloc rfl rfl rfl (by decide) Tryz.zeroValue34 rfl (by kernel_rfl) (fun g15 => ?_)
                    refine Al_nil ?_
                    refine Ad_one 13 rfl (by kernel_rfl) ?_
                    refine Al_storeN rfl rfl rfl (by kernel_rfl) Tryz.isAgg34 Tryz.sizeOf34 rfl rfl rfl rfl (Nat.le_of_ble_eq_true rfl) ?_
                    refine Al_nil ?_
                    refine Ad_take 14 rfl (PuI_move (.inr rfl) (by conv => lhs; whnf)) rfl rfl (by decide) (by kernel_rfl) (by kernel_rfl) (by kernel_rfl) (by kernel_rfl) (fun _ _ h => h) ?_
                    refine Ad_done (by kernel_rfl) ?_
                    refine Aw_seq ?_
                    obtain ⟨w1, w2⟩ := p.since_write hp ht (J.word o.key) o.val o.gone o.pastP
                    obtain ⟨w3, w4⟩ := p.write_same (J.word o.key) o.val o.gone o.pastP
                    have w5 := hp.write (J.word o.key) o.val o.gone o.pastP
                    refine Aw_region ?_
                    refine Al_p Pu_mvl ?_
                    refine Al_p (Pu_cmp rfl rfl rfl rfl) ?_
                    refine Al_nil ?_
                    refine Aw_cond rfl (fun h76 => ?_) (fun h76 => ?_)
                    · (try simp only [decide_eq_true_eq, decide_eq_false_iff_not, Bool.and_eq_true, Bool.or_eq_true, Bool.and_eq_false_iff, Bool.or_eq_false_iff, Bool.not_eq_true', Bool.not_eq_false', beq_iff_eq, Bool.not_eq_eq_eq_not, Bool.not_true, Bool.not_false, List.length_map, Bool.and_true, Bool.and_false, Bool.false_and, Bool.true_and, Bool.or_false, Bool.false_or] at h76)
                      have he : p.writeE (J.word o.key) o.val o.gone o.pastP = 0 := by simpa using h76
                      have e1 : p.write (J.word o.key) o.val o.gone o.pastP = p.writeP (J.word o.key) o.val o.gone o.pastP := by unfold PS.write; rw [he, if_pos rfl]
                      have e3 : p.writeV (J.word o.key) o.val o.gone o.pastP = p.made (J.word o.key) o.val o.gone o.pastP := by unfold PS.writeV; rw [he, if_pos rfl]
                      obtain ⟨m1, m2⟩ := p.made_gt (J.word o.key) o.val o.gone o.pastP
                      rw [e3]
                      obtain ⟨q, hqe⟩ : ∃ q, q = p.write (J.word o.key) o.val o.gone o.pastP := ⟨_, rfl⟩
                      rw [← hqe] at w1 w2 w3 w4 w5 e1
                      rw [← hqe]
                      refine Aw_seq (Aw_seq ?_)
                      refine Aw_draw 19 (by kernel_rfl) (by kernel_rfl) ?_
                      refine Dr_p (Pu_loadbN (r := [_, _]) rfl Tryz.isAgg31 Tryz.sizeOf31 rfl rfl rfl rfl) ?_
                      refine Dr_p (Pu_fieldb 3 rfl Tryz.underlying34 rfl rfl Tryz.sizeOf31 rfl) ?_
                      refine Dr_p (Pu_loadbN (r := [_, _]) rfl Tryz.isAgg31 Tryz.sizeOf31 rfl rfl rfl rfl) ?_
                      refine Dr_p (Pu_call (rless_a _ _ _ _) rfl ⟨Sub.rfl, Sub.rfl, trivial⟩) ?_
                      refine Dr_p (Pu_not rfl rfl) ?_
                      refine Dr_p Pu_mvl ?_
                      refine Dr_st (St_gd [] rfl rfl rfl rfl trivial (fun hg83 => Pu_fieldb 3 rfl Tryz.underlying34 rfl rfl Tryz.sizeOf31 rfl)) rfl ?_
                      refine Dr_st (St_gd [83] rfl rfl rfl rfl ⟨⟨_, rfl⟩, trivial⟩ (fun hg84 => Pu_fieldb 1 rfl Tryz.underlying31 rfl rfl Tryz.sizeOf3 rfl)) rfl ?_
                      refine Dr_st (St_gd [84] rfl rfl rfl rfl ⟨⟨_, rfl⟩, trivial⟩ (fun hg85 => Pu_loadb rfl Tryz.isAgg3 rfl rfl rfl)) rfl ?_
                      refine Dr_st (St_gd [] rfl rfl rfl rfl trivial (fun hg86 => by exact Pu_move (.inl rfl) (by conv => lhs; whnf))) rfl ?_
                      refine Dr_st (St_gd [85, 86] rfl rfl rfl rfl ⟨⟨_, rfl⟩, ⟨_, rfl⟩, trivial⟩ (fun hg87 => Pu_cmp rfl rfl rfl rfl)) rfl ?_
                      refine Dr_p (Pu_or rfl rfl rfl rfl) ?_
                      refine Dr_p Pu_mvl ?_
                      refine Dr_st (St_gd [] rfl rfl rfl rfl trivial (fun hg90 => by exact Pu_move (.inl rfl) (by conv => lhs; whnf))) rfl ?_
                      refine Dr_st (St_gd [90] rfl rfl rfl rfl ⟨⟨_, rfl⟩, trivial⟩ (fun hg91 => Pu_gcall [(1001, 31, g31), (1002, 310, g31), (1003, 311, g31)] (stClock_g q b) (ST_in ..) rfl ⟨rfl, rfl, rfl, trivial⟩ rfl ⟨Sub.rfl, trivial⟩)) rfl ?_
                      refine Dr_st (St_gd [] rfl rfl rfl rfl trivial (fun hg92 => Pu_fieldb 3 rfl Tryz.underlying34 rfl rfl Tryz.sizeOf31 rfl)) rfl ?_
                      refine Dr_st (St_gd [92] rfl rfl rfl rfl ⟨⟨_, rfl⟩, trivial⟩ (fun hg93 => Pu_loadbN (r := [_, _]) rfl Tryz.isAgg31 Tryz.sizeOf31 rfl rfl rfl rfl)) rfl ?_
                      refine Dr_st (St_gd [91, 93] rfl rfl rfl rfl ⟨⟨_, rfl⟩, ⟨_, rfl⟩, trivial⟩ (fun hg94 => Pu_eqrow [.int .i64 _, .int .i64 _] [.int .i64 _, .int .i64 _] (fun w => nev31 _ _ _ _ _ _ w) rfl rfl rfl)) rfl ?_
                      refine Dr_p (Pu_or rfl rfl rfl rfl) ?_
                      refine Dr_nil (Al_nil ?_)
                      refine Aw_cond rfl (fun h95 => ?_) (fun h95 => ?_)
                      · skip
                        exfalso
                        rw [m1, e1] at h95
                        simp [PS.writeP, PS.made, hpid] at h95
                      · skip
                        refine Aw_skip (Aw_seq (Aw_region ?_))
                        refine Al_p (Pu_loadbN (r := [_, _, _, _, _, _, _]) rfl Tryz.isAgg36 Tryz.sizeOf36 rfl rfl rfl rfl) ?_
                        refine Al_p (Pu_call (tpast_a o) rfl ⟨Sub.rfl, trivial⟩) ?_
                        refine Al_p Pu_mvr ?_
                        refine Al_nil (Aw_seq (Aw_region ?_))
                        refine Al_p Pu_mvr ?_
                        refine Al_nil (Aw_block ?_)
                        refine Aw_loopk (ι := Nat) [1, 5, 6, 7, 8, 10, 11, 12, 15, 17] [11, 12, 15, 31, 310, 311] (fun j => [(18, .d (iv j))]) (fun j => []) (fun j => j ≤ o.pastP.length) (fun j => o.pastP.length - j) (0) (Nat.zero_le _) ⟨Sub.rfl, trivial⟩ trivial ?_
                        rintro j hk1
                        refine Aw_seq (Aw_seq (Aw_region ?_))
                        refine Al_p Pu_mvl ?_
                        refine Al_p Pu_mvl ?_
                        refine Al_p (Pu_len rfl Tryz.underlying32 rfl (by first | exact List.length_map .. | exact rfl)) ?_
                        refine Al_p (Pu_cmp rfl rfl rfl rfl) ?_
                        refine Al_nil ?_
                        refine Aw_cond rfl (fun h101 => ?_) (fun h101 => ?_)
                        · (try simp only [decide_eq_true_eq, decide_eq_false_iff_not, Bool.and_eq_true, Bool.or_eq_true, Bool.and_eq_false_iff, Bool.or_eq_false_iff, Bool.not_eq_true', Bool.not_eq_false', beq_iff_eq, Bool.not_eq_eq_eq_not, Bool.not_true, Bool.not_false, List.length_map, Bool.and_true, Bool.and_false, Bool.false_and, Bool.true_and, Bool.or_false, Bool.false_or] at h101)
                          have hj : j < o.pastP.length := by omega
                          have hm2 := m2 _ (List.getElem_mem hj)
                          refine Aw_skip (Aw_seq (Aw_block (Aw_seq ?_)))
                          refine Aw_draw 9 (by kernel_rfl) (by kernel_rfl) ?_
                          refine Dr_p Pu_mvl ?_
                          refine Dr_p Pu_mvl ?_
                          refine Dr_p (Pu_index rfl Tryz.underlying32 Tryz.sizeOf59 rfl rfl (rfl) (mapget hj)) ?_
                          refine Dr_p (Pu_field 1 rfl Tryz.underlying59 rfl rfl Tryz.sizeOf31 rfl) ?_
                          refine Dr_p (Pu_loadN rfl Tryz.isAgg31 Tryz.sizeOf31 rfl (Nat.le_of_ble_eq_true rfl)) ?_
                          refine Dr_p (Pu_fieldb 3 rfl Tryz.underlying34 rfl rfl Tryz.sizeOf31 rfl) ?_
                          refine Dr_p (Pu_loadbN (r := [_, _]) rfl Tryz.isAgg31 Tryz.sizeOf31 rfl rfl rfl rfl) ?_
                          refine Dr_p (Pu_call (rless_a _ _ _ _) rfl ⟨Sub.rfl, Sub.rfl, trivial⟩) ?_
                          refine Dr_p (Pu_not rfl rfl) ?_
                          refine Dr_nil (Al_nil ?_)
                          refine Aw_cond rfl (fun h112 => ?_) (fun h112 => ?_)
                          · skip
                            exfalso
                            rw [hm2] at h112; simp at h112
                          · skip
                            refine Aw_skip (Aw_region ?_)
                            refine Al_p Pu_mvl ?_
                            refine Al_p (Pu_add rfl rfl rfl (fun h1 h2 => by simp only [A.inI, A.maxI] at *; omega)) ?_
                            refine Al_p Pu_mvr ?_
                            refine Al_nil ?_
                            exact ⟨j + 1, by omega, by omega, Le.ov ⟨Sub.num (by omega), trivial⟩ ⟨Sub.rfl, Sub.rfl, Sub.rfl, Sub.rfl, Sub.rfl, Sub.rfl, Sub.rfl, Sub.rfl, Sub.rfl, Sub.rfl, trivial⟩ trivial ⟨rfl, rfl, rfl, rfl, rfl, rfl, trivial⟩⟩ -- loop 1 next.0
                        · (try simp only [decide_eq_true_eq, decide_eq_false_iff_not, Bool.and_eq_true, Bool.or_eq_true, Bool.and_eq_false_iff, Bool.or_eq_false_iff, Bool.not_eq_true', Bool.not_eq_false', beq_iff_eq, Bool.not_eq_eq_eq_not, Bool.not_true, Bool.not_false, List.length_map, Bool.and_true, Bool.and_false, Bool.false_and, Bool.true_and, Bool.or_false, Bool.false_or] at h101)
                          refine Aw_exit ?_
                          exact ⟨_, ⟨w5, w1, w3.trans hrs, w4.trans hpid, w2⟩, Le.ov trivial ⟨Sub.rfl, Sub.rfl, Sub.rfl, Sub.rfl, Sub.rfl, Sub.rfl, Sub.rfl, Sub.rfl, trivial⟩ ⟨rfl, rfl, rfl, trivial⟩ ⟨rfl, rfl, trivial⟩⟩ -- join 1 next.3
                    · (try simp only [decide_eq_true_eq, decide_eq_false_iff_not, Bool.and_eq_true, Bool.or_eq_true, Bool.and_eq_false_iff, Bool.or_eq_false_iff, Bool.not_eq_true', Bool.not_eq_false', beq_iff_eq, Bool.not_eq_eq_eq_not, Bool.not_true, Bool.not_false, List.length_map, Bool.and_true, Bool.and_false, Bool.false_and, Bool.true_and, Bool.or_false, Bool.false_or] at h76)
                      refine Aw_skip ?_
                      exact ⟨_, ⟨w5, w1, w3.trans hrs, w4.trans hpid, w2⟩, Le.ov trivial ⟨Sub.rfl, Sub.rfl, Sub.rfl, Sub.rfl, Sub.rfl, Sub.rfl, Sub.rfl, Sub.rfl, trivial⟩ ⟨rfl, rfl, rfl, trivial⟩ ⟨rfl, rfl, trivial⟩⟩ -- join 1 next.4
                  · refine Al_alloc rfl rfl rfl (by decide) Tryz.zeroValue34 rfl (by kernel_rfl) (fun g15 => ?_)
                    refine Al_nil ?_
                    refine Ad_one 8 rfl (by kernel_rfl) ?_
                    refine Al_gcall [(1001, 31, g31), (1002, 310, g31), (1003, 311, g31)] [] (stWrite_g p b (J.word o.key) o.val o.gone o.pastP (by have := o.past_len; omega) hp.ok (by omega)) rfl rfl rfl (by decide) (by kernel_rfl) ⟨rfl, rfl, rfl, trivial⟩ rfl ⟨Sub.rfl, Sub.rfl, Sub.rfl, Sub.rfl, Sub.rfl, trivial⟩ (fun g72 => ?_)
                    refine Al_nil ?_
                    refine Ad_take 9 rfl (PuI_move (.inl rfl) (by conv => lhs; whnf)) rfl rfl (by decide) (by kernel_rfl) (by kernel_rfl) (by kernel_rfl) (by kernel_rfl) (fun _ _ h => h) ?_
                    refine Ad_take 10 rfl (PuI_extract rfl rfl rfl) rfl rfl (by decide) (by kernel_rfl) (by kernel_rfl) (by kernel_rfl) (by kernel_rfl) (fun _ _ h => h) ?_
                    refine Ad_take 11 rfl (PuI_extract rfl rfl rfl) rfl rfl (by decide) (by kernel_rfl) (by kernel_rfl) (by kernel_rfl) (by kernel_rfl) (fun _ _ h => h) ?_
                    refine Ad_one 13 rfl (by kernel_rfl) ?_
                    refine Al_storeN rfl rfl rfl (by kernel_rfl) Tryz.isAgg34 Tryz.sizeOf34 rfl rfl rfl rfl (Nat.le_of_ble_eq_true rfl) ?_
                    refine Al_nil ?_
                    refine Ad_take 14 rfl (PuI_move (.inr rfl) (by conv => lhs; whnf)) rfl rfl (by decide) (by kernel_rfl) (by kernel_rfl) (by kernel_rfl) (by kernel_rfl) (fun _ _ h => h) ?_
                    refine Ad_done (by kernel_rfl) ?_
                    refine Aw_seq ?_
                    obtain ⟨w1, w2⟩ := p.since_write hp ht (J.word o.key) o.val o.gone o.pastP
                    obtain ⟨w3, w4⟩ := p.write_same (J.word o.key) o.val o.gone o.pastP
                    have w5 := hp.write (J.word o.key) o.val o.gone o.pastP
                    refine Aw_region ?_
                    refine Al_p Pu_mvl ?_
                    refine Al_p (Pu_cmp rfl rfl rfl rfl) ?_
                    refine Al_nil ?_
                    refine Aw_cond rfl (fun h76 => ?_) (fun h76 => ?_)
                    · (try simp only [decide_eq_true_eq, decide_eq_false_iff_not, Bool.and_eq_true, Bool.or_eq_true, Bool.and_eq_false_iff, Bool.or_eq_false_iff, Bool.not_eq_true', Bool.not_eq_false', beq_iff_eq, Bool.not_eq_eq_eq_not, Bool.not_true, Bool.not_false, List.length_map, Bool.and_true, Bool.and_false, Bool.false_and, Bool.true_and, Bool.or_false, Bool.false_or] at h76)
                      have he : p.writeE (J.word o.key) o.val o.gone o.pastP = 0 := by simpa using h76
                      have e1 : p.write (J.word o.key) o.val o.gone o.pastP = p.writeP (J.word o.key) o.val o.gone o.pastP := by unfold PS.write; rw [he, if_pos rfl]
                      have e3 : p.writeV (J.word o.key) o.val o.gone o.pastP = p.made (J.word o.key) o.val o.gone o.pastP := by unfold PS.writeV; rw [he, if_pos rfl]
                      obtain ⟨m1, m2⟩ := p.made_gt (J.word o.key) o.val o.gone o.pastP
                      rw [e3]
                      obtain ⟨q, hqe⟩ : ∃ q, q = p.write (J.word o.key) o.val o.gone o.pastP := ⟨_, rfl⟩
                      rw [← hqe] at w1 w2 w3 w4 w5 e1
                      rw [← hqe]
                      refine Aw_seq (Aw_seq ?_)
                      refine Aw_draw 19 (by kernel_rfl) (by kernel_rfl) ?_
                      refine Dr_p (Pu_loadbN (r := [_, _]) rfl Tryz.isAgg31 Tryz.sizeOf31 rfl rfl rfl rfl) ?_
                      refine Dr_p (Pu_fieldb 3 rfl Tryz.underlying34 rfl rfl Tryz.sizeOf31 rfl) ?_
                      refine Dr_p (Pu_loadbN (r := [_, _]) rfl Tryz.isAgg31 Tryz.sizeOf31 rfl rfl rfl rfl) ?_
                      refine Dr_p (Pu_call (rless_a _ _ _ _) rfl ⟨Sub.rfl, Sub.rfl, trivial⟩) ?_
                      refine Dr_p (Pu_not rfl rfl) ?_
                      refine Dr_p Pu_mvl ?_
                      refine Dr_st (St_gd [] rfl rfl rfl rfl trivial (fun hg83 => Pu_fieldb 3 rfl Tryz.underlying34 rfl rfl Tryz.sizeOf31 rfl)) rfl ?_
                      refine Dr_st (St_gd [83] rfl rfl rfl rfl ⟨⟨_, rfl⟩, trivial⟩ (fun hg84 => Pu_fieldb 1 rfl Tryz.underlying31 rfl rfl Tryz.sizeOf3 rfl)) rfl ?_
                      refine Dr_st (St_gd [84] rfl rfl rfl rfl ⟨⟨_, rfl⟩, trivial⟩ (fun hg85 => Pu_loadb rfl Tryz.isAgg3 rfl rfl rfl)) rfl ?_
                      refine Dr_st (St_gd [] rfl rfl rfl rfl trivial (fun hg86 => by exact Pu_move (.inl rfl) (by conv => lhs; whnf))) rfl ?_
                      refine Dr_st (St_gd [85, 86] rfl rfl rfl rfl ⟨⟨_, rfl⟩, ⟨_, rfl⟩, trivial⟩ (fun hg87 => Pu_cmp rfl rfl rfl rfl)) rfl ?_
                      refine Dr_p (Pu_or rfl rfl rfl rfl) ?_
                      refine Dr_p Pu_mvl ?_
                      refine Dr_st (St_gd [] rfl rfl rfl rfl trivial (fun hg90 => by exact Pu_move (.inl rfl) (by conv => lhs; whnf))) rfl ?_
                      refine Dr_st (St_gd [90] rfl rfl rfl rfl ⟨⟨_, rfl⟩, trivial⟩ (fun hg91 => Pu_gcall [(1001, 31, g31), (1002, 310, g31), (1003, 311, g31)] (stClock_g q b) (ST_in ..) rfl ⟨rfl, rfl, rfl, trivial⟩ rfl ⟨Sub.rfl, trivial⟩)) rfl ?_
                      refine Dr_st (St_gd [] rfl rfl rfl rfl trivial (fun hg92 => Pu_fieldb 3 rfl Tryz.underlying34 rfl rfl Tryz.sizeOf31 rfl)) rfl ?_
                      refine Dr_st (St_gd [92] rfl rfl rfl rfl ⟨⟨_, rfl⟩, trivial⟩ (fun hg93 => Pu_loadbN (r := [_, _]) rfl Tryz.isAgg31 Tryz.sizeOf31 rfl rfl rfl rfl)) rfl ?_
                      refine Dr_st (St_gd [91, 93] rfl rfl rfl rfl ⟨⟨_, rfl⟩, ⟨_, rfl⟩, trivial⟩ (fun hg94 => Pu_eqrow [.int .i64 _, .int .i64 _] [.int .i64 _, .int .i64 _] (fun w => nev31 _ _ _ _ _ _ w) rfl rfl rfl)) rfl ?_
                      refine Dr_p (Pu_or rfl rfl rfl rfl) ?_
                      refine Dr_nil (Al_nil ?_)
                      refine Aw_cond rfl (fun h95 => ?_) (fun h95 => ?_)
                      · skip
                        exfalso
                        rw [m1, e1] at h95
                        simp [PS.writeP, PS.made, hpid] at h95
                      · skip
                        refine Aw_skip (Aw_seq (Aw_region ?_))
                        refine Al_p (Pu_loadbN (r := [_, _, _, _, _, _, _]) rfl Tryz.isAgg36 Tryz.sizeOf36 rfl rfl rfl rfl) ?_
                        refine Al_p (Pu_call (tpast_a o) rfl ⟨Sub.rfl, trivial⟩) ?_
                        refine Al_p Pu_mvr ?_
                        refine Al_nil (Aw_seq (Aw_region ?_))
                        refine Al_p Pu_mvr ?_
                        refine Al_nil (Aw_block ?_)
                        refine Aw_loopk (ι := Nat) [1, 5, 6, 7, 8, 10, 11, 12, 15, 17] [11, 12, 15, 31, 310, 311] (fun j => [(18, .d (iv j))]) (fun j => []) (fun j => j ≤ o.pastP.length) (fun j => o.pastP.length - j) (0) (Nat.zero_le _) ⟨Sub.rfl, trivial⟩ trivial ?_
                        rintro j hk1
                        refine Aw_seq (Aw_seq (Aw_region ?_))
                        refine Al_p Pu_mvl ?_
                        refine Al_p Pu_mvl ?_
                        refine Al_p (Pu_len rfl Tryz.underlying32 rfl (by first | exact List.length_map .. | exact rfl)) ?_
                        refine Al_p (Pu_cmp rfl rfl rfl rfl) ?_
                        refine Al_nil ?_
                        refine Aw_cond rfl (fun h101 => ?_) (fun h101 => ?_)
                        · (try simp only [decide_eq_true_eq, decide_eq_false_iff_not, Bool.and_eq_true, Bool.or_eq_true, Bool.and_eq_false_iff, Bool.or_eq_false_iff, Bool.not_eq_true', Bool.not_eq_false', beq_iff_eq, Bool.not_eq_eq_eq_not, Bool.not_true, Bool.not_false, List.length_map, Bool.and_true, Bool.and_false, Bool.false_and, Bool.true_and, Bool.or_false, Bool.false_or] at h101)
                          have hj : j < o.pastP.length := by omega
                          have hm2 := m2 _ (List.getElem_mem hj)
                          refine Aw_skip (Aw_seq (Aw_block (Aw_seq ?_)))
                          refine Aw_draw 9 (by kernel_rfl) (by kernel_rfl) ?_
                          refine Dr_p Pu_mvl ?_
                          refine Dr_p Pu_mvl ?_
                          refine Dr_p (Pu_index rfl Tryz.underlying32 Tryz.sizeOf59 rfl rfl (rfl) (mapget hj)) ?_
                          refine Dr_p (Pu_field 1 rfl Tryz.underlying59 rfl rfl Tryz.sizeOf31 rfl) ?_
                          refine Dr_p (Pu_loadN rfl Tryz.isAgg31 Tryz.sizeOf31 rfl (Nat.le_of_ble_eq_true rfl)) ?_
                          refine Dr_p (Pu_fieldb 3 rfl Tryz.underlying34 rfl rfl Tryz.sizeOf31 rfl) ?_
                          refine Dr_p (Pu_loadbN (r := [_, _]) rfl Tryz.isAgg31 Tryz.sizeOf31 rfl rfl rfl rfl) ?_
                          refine Dr_p (Pu_call (rless_a _ _ _ _) rfl ⟨Sub.rfl, Sub.rfl, trivial⟩) ?_
                          refine Dr_p (Pu_not rfl rfl) ?_
                          refine Dr_nil (Al_nil ?_)
                          refine Aw_cond rfl (fun h112 => ?_) (fun h112 => ?_)
                          · skip
                            exfalso
                            rw [hm2] at h112; simp at h112
                          · skip
                            refine Aw_skip (Aw_region ?_)
                            refine Al_p Pu_mvl ?_
                            refine Al_p (Pu_add rfl rfl rfl (fun h1 h2 => by simp only [A.inI, A.maxI] at *; omega)) ?_
                            refine Al_p Pu_mvr ?_
                            refine Al_nil ?_
                            exact ⟨j + 1, by omega, by omega, Le.ov ⟨Sub.num (by omega), trivial⟩ ⟨Sub.rfl, Sub.rfl, Sub.rfl, Sub.rfl, Sub.rfl, Sub.rfl, Sub.rfl, Sub.rfl, Sub.rfl, Sub.rfl, trivial⟩ trivial ⟨rfl, rfl, rfl, rfl, rfl, rfl, trivial⟩⟩ -- loop 1 next.0
                        · (try simp only [decide_eq_true_eq, decide_eq_false_iff_not, Bool.and_eq_true, Bool.or_eq_true, Bool.and_eq_false_iff, Bool.or_eq_false_iff, Bool.not_eq_true', Bool.not_eq_false', beq_iff_eq, Bool.not_eq_eq_eq_not, Bool.not_true, Bool.not_false, List.length_map, Bool.and_true, Bool.and_false, Bool.false_and, Bool.true_and, Bool.or_false, Bool.false_or] at h101)
                          refine Aw_exit ?_
                          exact ⟨_, ⟨w5, w1, w3.trans hrs, w4.trans hpid, w2⟩, Le.ov trivial ⟨Sub.rfl, Sub.rfl, Sub.rfl, Sub.rfl, Sub.rfl, Sub.rfl, Sub.rfl, Sub.rfl, trivial⟩ ⟨rfl, rfl, rfl, trivial⟩ ⟨rfl, rfl, trivial⟩⟩ -- join 1 next.5
                    · (try simp only [decide_eq_true_eq, decide_eq_false_iff_not, Bool.and_eq_true, Bool.or_eq_true, Bool.and_eq_false_iff, Bool.or_eq_false_iff, Bool.not_eq_true', Bool.not_eq_false', beq_iff_eq, Bool.not_eq_eq_eq_not, Bool.not_true, Bool.not_false, List.length_map, Bool.and_true, Bool.and_false, Bool.false_and, Bool.true_and, Bool.or_false, Bool.false_or] at h76)
                      refine Aw_skip ?_
                      exact ⟨_, ⟨w5, w1, w3.trans hrs, w4.trans hpid, w2⟩, Le.ov trivial ⟨Sub.rfl, Sub.rfl, Sub.rfl, Sub.rfl, Sub.rfl, Sub.rfl, Sub.rfl, Sub.rfl, trivial⟩ ⟨rfl, rfl, rfl, trivial⟩ ⟨rfl, rfl, trivial⟩⟩ -- join 1 next.6
                · refine Ad_one 8 rfl (by kernel_rfl) ?_
                  refine Al_gcall [(1001, 31, g31), (1002, 310, g31), (1003, 311, g31)] [] (stWrite_g p b (J.word o.key) o.val o.gone o.pastP (by have := o.past_len; omega) hp.ok (by omega)) rfl rfl rfl (by decide) (by kernel_rfl) ⟨rfl, rfl, rfl, trivial⟩ rfl ⟨Sub.rfl, Sub.rfl, Sub.rfl, Sub.rfl, Sub.rfl, trivial⟩ (fun g72 => ?_)
                  refine Al_nil ?_
                  refine Ad_take 9 rfl (PuI_move (.inl rfl) (by conv => lhs; whnf)) rfl rfl (by decide) (by kernel_rfl) (by kernel_rfl) (by kernel_rfl) (by kernel_rfl) (fun _ _ h => h) ?_
                  refine Ad_take 10 rfl (PuI_extract rfl rfl rfl) rfl rfl (by decide) (by kernel_rfl) (by kernel_rfl) (by kernel_rfl) (by kernel_rfl) (fun _ _ h => h) ?_
                  refine Ad_take 11 rfl (PuI_extract rfl rfl rfl) rfl rfl (by decide) (by kernel_rfl) (by kernel_rfl) (by kernel_rfl) (by kernel_rfl) (fun _ _ h => h) ?_
                  refine Ad_one 13 rfl (by kernel_rfl) ?_
                  refine Al_storeN rfl rfl rfl (by kernel_rfl) Tryz.isAgg34 Tryz.sizeOf34 rfl rfl rfl rfl (Nat.le_of_ble_eq_true rfl) ?_
                  refine Al_nil ?_
                  refine Ad_take 14 rfl (PuI_move (.inr rfl) (by conv => lhs; whnf)) rfl rfl (by decide) (by kernel_rfl) (by kernel_rfl) (by kernel_rfl) (by kernel_rfl) (fun _ _ h => h) ?_
                  refine Ad_done (by kernel_rfl) ?_
                  refine Aw_seq ?_
                  obtain ⟨w1, w2⟩ := p.since_write hp ht (J.word o.key) o.val o.gone o.pastP
                  obtain ⟨w3, w4⟩ := p.write_same (J.word o.key) o.val o.gone o.pastP
                  have w5 := hp.write (J.word o.key) o.val o.gone o.pastP
                  refine Aw_region ?_
                  refine Al_p Pu_mvl ?_
                  refine Al_p (Pu_cmp rfl rfl rfl rfl) ?_
                  refine Al_nil ?_
                  refine Aw_cond rfl (fun h76 => ?_) (fun h76 => ?_)
                  · (try simp only [decide_eq_true_eq, decide_eq_false_iff_not, Bool.and_eq_true, Bool.or_eq_true, Bool.and_eq_false_iff, Bool.or_eq_false_iff, Bool.not_eq_true', Bool.not_eq_false', beq_iff_eq, Bool.not_eq_eq_eq_not, Bool.not_true, Bool.not_false, List.length_map, Bool.and_true, Bool.and_false, Bool.false_and, Bool.true_and, Bool.or_false, Bool.false_or] at h76)
                    have he : p.writeE (J.word o.key) o.val o.gone o.pastP = 0 := by simpa using h76
                    have e1 : p.write (J.word o.key) o.val o.gone o.pastP = p.writeP (J.word o.key) o.val o.gone o.pastP := by unfold PS.write; rw [he, if_pos rfl]
                    have e3 : p.writeV (J.word o.key) o.val o.gone o.pastP = p.made (J.word o.key) o.val o.gone o.pastP := by unfold PS.writeV; rw [he, if_pos rfl]
                    obtain ⟨m1, m2⟩ := p.made_gt (J.word o.key) o.val o.gone o.pastP
                    rw [e3]
                    obtain ⟨q, hqe⟩ : ∃ q, q = p.write (J.word o.key) o.val o.gone o.pastP := ⟨_, rfl⟩
                    rw [← hqe] at w1 w2 w3 w4 w5 e1
                    rw [← hqe]
                    refine Aw_seq (Aw_seq ?_)
                    refine Aw_draw 19 (by kernel_rfl) (by kernel_rfl) ?_
                    refine Dr_p (Pu_loadbN (r := [_, _]) rfl Tryz.isAgg31 Tryz.sizeOf31 rfl rfl rfl rfl) ?_
                    refine Dr_p (Pu_fieldb 3 rfl Tryz.underlying34 rfl rfl Tryz.sizeOf31 rfl) ?_
                    refine Dr_p (Pu_loadbN (r := [_, _]) rfl Tryz.isAgg31 Tryz.sizeOf31 rfl rfl rfl rfl) ?_
                    refine Dr_p (Pu_call (rless_a _ _ _ _) rfl ⟨Sub.rfl, Sub.rfl, trivial⟩) ?_
                    refine Dr_p (Pu_not rfl rfl) ?_
                    refine Dr_p Pu_mvl ?_
                    refine Dr_st (St_gd [] rfl rfl rfl rfl trivial (fun hg83 => Pu_fieldb 3 rfl Tryz.underlying34 rfl rfl Tryz.sizeOf31 rfl)) rfl ?_
                    refine Dr_st (St_gd [83] rfl rfl rfl rfl ⟨⟨_, rfl⟩, trivial⟩ (fun hg84 => Pu_fieldb 1 rfl Tryz.underlying31 rfl rfl Tryz.sizeOf3 rfl)) rfl ?_
                    refine Dr_st (St_gd [84] rfl rfl rfl rfl ⟨⟨_, rfl⟩, trivial⟩ (fun hg85 => Pu_loadb rfl Tryz.isAgg3 rfl rfl rfl)) rfl ?_
                    refine Dr_st (St_gd [] rfl rfl rfl rfl trivial (fun hg86 => by exact Pu_move (.inl rfl) (by conv => lhs; whnf))) rfl ?_
                    refine Dr_st (St_gd [85, 86] rfl rfl rfl rfl ⟨⟨_, rfl⟩, ⟨_, rfl⟩, trivial⟩ (fun hg87 => Pu_cmp rfl rfl rfl rfl)) rfl ?_
                    refine Dr_p (Pu_or rfl rfl rfl rfl) ?_
                    refine Dr_p Pu_mvl ?_
                    refine Dr_st (St_gd [] rfl rfl rfl rfl trivial (fun hg90 => by exact Pu_move (.inl rfl) (by conv => lhs; whnf))) rfl ?_
                    refine Dr_st (St_gd [90] rfl rfl rfl rfl ⟨⟨_, rfl⟩, trivial⟩ (fun hg91 => Pu_gcall [(1001, 31, g31), (1002, 310, g31), (1003, 311, g31)] (stClock_g q b) (ST_in ..) rfl ⟨rfl, rfl, rfl, trivial⟩ rfl ⟨Sub.rfl, trivial⟩)) rfl ?_
                    refine Dr_st (St_gd [] rfl rfl rfl rfl trivial (fun hg92 => Pu_fieldb 3 rfl Tryz.underlying34 rfl rfl Tryz.sizeOf31 rfl)) rfl ?_
                    refine Dr_st (St_gd [92] rfl rfl rfl rfl ⟨⟨_, rfl⟩, trivial⟩ (fun hg93 => Pu_loadbN (r := [_, _]) rfl Tryz.isAgg31 Tryz.sizeOf31 rfl rfl rfl rfl)) rfl ?_
                    refine Dr_st (St_gd [91, 93] rfl rfl rfl rfl ⟨⟨_, rfl⟩, ⟨_, rfl⟩, trivial⟩ (fun hg94 => Pu_eqrow [.int .i64 _, .int .i64 _] [.int .i64 _, .int .i64 _] (fun w => nev31 _ _ _ _ _ _ w) rfl rfl rfl)) rfl ?_
                    refine Dr_p (Pu_or rfl rfl rfl rfl) ?_
                    refine Dr_nil (Al_nil ?_)
                    refine Aw_cond rfl (fun h95 => ?_) (fun h95 => ?_)
                    · skip
                      exfalso
                      rw [m1, e1] at h95
                      simp [PS.writeP, PS.made, hpid] at h95
                    · skip
                      refine Aw_skip (Aw_seq (Aw_region ?_))
                      refine Al_p (Pu_loadbN (r := [_, _, _, _, _, _, _]) rfl Tryz.isAgg36 Tryz.sizeOf36 rfl rfl rfl rfl) ?_
                      refine Al_p (Pu_call (tpast_a o) rfl ⟨Sub.rfl, trivial⟩) ?_
                      refine Al_p Pu_mvr ?_
                      refine Al_nil (Aw_seq (Aw_region ?_))
                      refine Al_p Pu_mvr ?_
                      refine Al_nil (Aw_block ?_)
                      refine Aw_loopk (ι := Nat) [1, 5, 6, 7, 8, 10, 11, 12, 15, 17] [11, 12, 15, 31, 310, 311] (fun j => [(18, .d (iv j))]) (fun j => []) (fun j => j ≤ o.pastP.length) (fun j => o.pastP.length - j) (0) (Nat.zero_le _) ⟨Sub.rfl, trivial⟩ trivial ?_
                      rintro j hk1
                      refine Aw_seq (Aw_seq (Aw_region ?_))
                      refine Al_p Pu_mvl ?_
                      refine Al_p Pu_mvl ?_
                      refine Al_p (Pu_len rfl Tryz.underlying32 rfl (by first | exact List.length_map .. | exact rfl)) ?_
                      refine Al_p (Pu_cmp rfl rfl rfl rfl) ?_
                      refine Al_nil ?_
                      refine Aw_cond rfl (fun h101 => ?_) (fun h101 => ?_)
                      · (try simp only [decide_eq_true_eq, decide_eq_false_iff_not, Bool.and_eq_true, Bool.or_eq_true, Bool.and_eq_false_iff, Bool.or_eq_false_iff, Bool.not_eq_true', Bool.not_eq_false', beq_iff_eq, Bool.not_eq_eq_eq_not, Bool.not_true, Bool.not_false, List.length_map, Bool.and_true, Bool.and_false, Bool.false_and, Bool.true_and, Bool.or_false, Bool.false_or] at h101)
                        have hj : j < o.pastP.length := by omega
                        have hm2 := m2 _ (List.getElem_mem hj)
                        refine Aw_skip (Aw_seq (Aw_block (Aw_seq ?_)))
                        refine Aw_draw 9 (by kernel_rfl) (by kernel_rfl) ?_
                        refine Dr_p Pu_mvl ?_
                        refine Dr_p Pu_mvl ?_
                        refine Dr_p (Pu_index rfl Tryz.underlying32 Tryz.sizeOf59 rfl rfl (rfl) (mapget hj)) ?_
                        refine Dr_p (Pu_field 1 rfl Tryz.underlying59 rfl rfl Tryz.sizeOf31 rfl) ?_
                        refine Dr_p (Pu_loadN rfl Tryz.isAgg31 Tryz.sizeOf31 rfl (Nat.le_of_ble_eq_true rfl)) ?_
                        refine Dr_p (Pu_fieldb 3 rfl Tryz.underlying34 rfl rfl Tryz.sizeOf31 rfl) ?_
                        refine Dr_p (Pu_loadbN (r := [_, _]) rfl Tryz.isAgg31 Tryz.sizeOf31 rfl rfl rfl rfl) ?_
                        refine Dr_p (Pu_call (rless_a _ _ _ _) rfl ⟨Sub.rfl, Sub.rfl, trivial⟩) ?_
                        refine Dr_p (Pu_not rfl rfl) ?_
                        refine Dr_nil (Al_nil ?_)
                        refine Aw_cond rfl (fun h112 => ?_) (fun h112 => ?_)
                        · skip
                          exfalso
                          rw [hm2] at h112; simp at h112
                        · skip
                          refine Aw_skip (Aw_region ?_)
                          refine Al_p Pu_mvl ?_
                          refine Al_p (Pu_add rfl rfl rfl (fun h1 h2 => by simp only [A.inI, A.maxI] at *; omega)) ?_
                          refine Al_p Pu_mvr ?_
                          refine Al_nil ?_
                          exact ⟨j + 1, by omega, by omega, Le.ov ⟨Sub.num (by omega), trivial⟩ ⟨Sub.rfl, Sub.rfl, Sub.rfl, Sub.rfl, Sub.rfl, Sub.rfl, Sub.rfl, Sub.rfl, Sub.rfl, Sub.rfl, trivial⟩ trivial ⟨rfl, rfl, rfl, rfl, rfl, rfl, trivial⟩⟩ -- loop 1 next.0
                      · (try simp only [decide_eq_true_eq, decide_eq_false_iff_not, Bool.and_eq_true, Bool.or_eq_true, Bool.and_eq_false_iff, Bool.or_eq_false_iff, Bool.not_eq_true', Bool.not_eq_false', beq_iff_eq, Bool.not_eq_eq_eq_not, Bool.not_true, Bool.not_false, List.length_map, Bool.and_true, Bool.and_false, Bool.false_and, Bool.true_and, Bool.or_false, Bool.false_or] at h101)
                        refine Aw_exit ?_
                        exact ⟨_, ⟨w5, w1, w3.trans hrs, w4.trans hpid, w2⟩, Le.ov trivial ⟨Sub.rfl, Sub.rfl, Sub.rfl, Sub.rfl, Sub.rfl, Sub.rfl, Sub.rfl, Sub.rfl, trivial⟩ ⟨rfl, rfl, rfl, trivial⟩ ⟨rfl, rfl, trivial⟩⟩ -- join 1 next.7
                  · (try simp only [decide_eq_true_eq, decide_eq_false_iff_not, Bool.and_eq_true, Bool.or_eq_true, Bool.and_eq_false_iff, Bool.or_eq_false_iff, Bool.not_eq_true', Bool.not_eq_false', beq_iff_eq, Bool.not_eq_eq_eq_not, Bool.not_true, Bool.not_false, List.length_map, Bool.and_true, Bool.and_false, Bool.false_and, Bool.true_and, Bool.or_false, Bool.false_or] at h76)
                    refine Aw_skip ?_
                    exact ⟨_, ⟨w5, w1, w3.trans hrs, w4.trans hpid, w2⟩, Le.ov trivial ⟨Sub.rfl, Sub.rfl, Sub.rfl, Sub.rfl, Sub.rfl, Sub.rfl, Sub.rfl, Sub.rfl, trivial⟩ ⟨rfl, rfl, rfl, trivial⟩ ⟨rfl, rfl, trivial⟩⟩ -- join 1 next.8
    · rintro q ⟨hq, hqt, hqrs, hqid, hsin⟩
      obtain ⟨hqv1, hqv2⟩ := hrv q hqrs
      have hhl := hq.ok.hl (by omega)
      refine Aw_seq (Aw_region ?_)
      refine Al_p Pu_mvl ?_
      refine Al_p Pu_mvl ?_
      refine Al_p (Pu_gcall [(1001, 31, g31), (1002, 310, g31), (1003, 311, g31)] (stRead_g q b (J.word o.key) hq.ok (by omega)) (ST_in ..) rfl ⟨rfl, rfl, rfl, trivial⟩ rfl ⟨Sub.rfl, Sub.rfl, trivial⟩) ?_
      refine Al_p Pu_mvl ?_
      refine Al_p (Pu_extract rfl rfl rfl) ?_
      refine Al_p (Pu_extract rfl rfl rfl) ?_
      refine Al_p (Pu_extract rfl rfl rfl) ?_
      refine Al_alloc rfl rfl rfl (by decide) Tryz.zeroValue34 rfl (by kernel_rfl) (fun g19 => ?_)
      refine Al_storeN rfl rfl rfl (by kernel_rfl) Tryz.isAgg34 Tryz.sizeOf34 rfl rfl rfl rfl (Nat.le_of_ble_eq_true rfl) ?_
      refine Al_p Pu_mvr ?_
      refine Al_p Pu_mvr ?_
      refine Al_nil (Aw_seq (Aw_seq ?_))
      rw [hqv1, hqv2]
      refine Aw_draw 15 (by kernel_rfl) (by kernel_rfl) ?_
      refine Dr_p Pu_mvl ?_
      refine Dr_p (Pu_cmp rfl rfl rfl rfl) ?_
      refine Dr_p Pu_mvl ?_
      refine Dr_st (St_gd [] rfl rfl rfl rfl trivial (fun hg144 => by exact Pu_move (.inl rfl) (by conv => lhs; whnf))) rfl ?_
      refine Dr_st (St_gd [144] rfl rfl rfl rfl ⟨⟨_, rfl⟩, trivial⟩ (fun hg145 => Pu_gcall [(1001, 31, g31), (1002, 310, g31), (1003, 311, g31)] (stClock_g q b) (ST_in ..) rfl ⟨rfl, rfl, rfl, trivial⟩ rfl ⟨Sub.rfl, trivial⟩)) rfl ?_
      refine Dr_st (St_gd [] rfl rfl rfl rfl trivial (fun hg146 => Pu_loadbN (r := [_, _]) rfl Tryz.isAgg31 Tryz.sizeOf31 rfl rfl rfl rfl)) rfl ?_
      refine Dr_st (St_gd [145, 146] rfl rfl rfl rfl ⟨⟨_, rfl⟩, ⟨_, rfl⟩, trivial⟩ (fun hg147 => Pu_call (rless_a _ _ _ _) rfl ⟨Sub.rfl, Sub.rfl, trivial⟩)) rfl ?_
      refine Dr_p (Pu_or rfl rfl rfl rfl) ?_
      refine Dr_p Pu_mvl ?_
      refine Dr_st (St_gd [] rfl rfl rfl rfl trivial (fun hg150 => Pu_fieldb 3 rfl Tryz.underlying34 rfl rfl Tryz.sizeOf31 rfl)) rfl ?_
      refine Dr_st (St_gd [150] rfl rfl rfl rfl ⟨⟨_, rfl⟩, trivial⟩ (fun hg151 => Pu_loadbN (r := [_, _]) rfl Tryz.isAgg31 Tryz.sizeOf31 rfl rfl rfl rfl)) rfl ?_
      refine Dr_st (St_gd [] rfl rfl rfl rfl trivial (fun hg152 => Pu_fieldb 3 rfl Tryz.underlying34 rfl rfl Tryz.sizeOf31 rfl)) rfl ?_
      refine Dr_st (St_gd [152] rfl rfl rfl rfl ⟨⟨_, rfl⟩, trivial⟩ (fun hg153 => Pu_loadbN (r := [_, _]) rfl Tryz.isAgg31 Tryz.sizeOf31 rfl rfl rfl rfl)) rfl ?_
      refine Dr_st (St_gd [151, 153] rfl rfl rfl rfl ⟨⟨_, rfl⟩, ⟨_, rfl⟩, trivial⟩ (fun hg154 => Pu_call (rless_a _ _ _ _) rfl ⟨Sub.rfl, Sub.rfl, trivial⟩)) rfl ?_
      refine Dr_p (Pu_or rfl rfl rfl rfl) ?_
      refine Dr_nil (Al_nil ?_)
      refine Aw_cond rfl (fun h155 => ?_) (fun h155 => ?_)
      · skip
        exfalso
        have hh : D.lessB ((J.shead q.cs (J.word o.key)).getD default).n ((J.shead q.cs (J.word o.key)).getD default).s ((J.shead p.cs (J.word o.key)).getD default).n ((J.shead p.cs (J.word o.key)).getD default).s = false := hsin.head (J.word o.key)
        try rw [hrv1] at h155
        rw [hsin.clock, hh] at h155
        simp at h155
      · skip
        refine Aw_skip (Aw_seq (Aw_region ?_))
        refine Al_p Pu_mvl ?_
        refine Al_p (Pu_gcall [(1001, 31, g31), (1002, 310, g31), (1003, 311, g31)] (stHave_g q b hq.ok (by omega)) (ST_in ..) rfl ⟨rfl, rfl, rfl, trivial⟩ rfl ⟨Sub.rfl, trivial⟩) ?_
        refine Al_p Pu_mvr ?_
        refine Al_nil (Aw_seq (Aw_region ?_))
        refine Al_p Pu_mvr ?_
        refine Al_nil (Aw_block ?_)
        refine Aw_loopk (ι := Nat) [1, 5, 6, 7, 8, 22] [31, 310, 311] (fun j => [(23, .d (iv j))]) (fun j => []) (fun j => j ≤ (J.have' q.cs).length) (fun j => (J.have' q.cs).length - j) (0) (Nat.zero_le _) ⟨Sub.rfl, trivial⟩ trivial ?_
        rintro j hk2
        refine Aw_seq (Aw_seq (Aw_region ?_))
        refine Al_p Pu_mvl ?_
        refine Al_p Pu_mvl ?_
        refine Al_p (Pu_len rfl Tryz.underlying32 rfl (by first | exact List.length_map .. | exact rfl)) ?_
        refine Al_p (Pu_cmp rfl rfl rfl rfl) ?_
        refine Al_nil ?_
        refine Aw_cond rfl (fun h161 => ?_) (fun h161 => ?_)
        · (try simp only [decide_eq_true_eq, decide_eq_false_iff_not, Bool.and_eq_true, Bool.or_eq_true, Bool.and_eq_false_iff, Bool.or_eq_false_iff, Bool.not_eq_true', Bool.not_eq_false', beq_iff_eq, Bool.not_eq_eq_eq_not, Bool.not_true, Bool.not_false, List.length_map, Bool.and_true, Bool.and_false, Bool.false_and, Bool.true_and, Bool.or_false, Bool.false_or] at h161)
          have hj : j < (J.have' q.cs).length := by omega
          have hle := PS.have_le hq hqt hj
          refine Aw_skip (Aw_seq (Aw_block (Aw_seq ?_)))
          refine Aw_draw 8 (by kernel_rfl) (by kernel_rfl) ?_
          refine Dr_p Pu_mvl ?_
          refine Dr_p (Pu_gcall [(1001, 31, g31), (1002, 310, g31), (1003, 311, g31)] (stClock_g q b) (ST_in ..) rfl ⟨rfl, rfl, rfl, trivial⟩ rfl ⟨Sub.rfl, trivial⟩) ?_
          refine Dr_p Pu_mvl ?_
          refine Dr_p Pu_mvl ?_
          refine Dr_p (Pu_index rfl Tryz.underlying32 Tryz.sizeOf59 rfl rfl (rfl) (mapgetD (d := default) hj)) ?_
          refine Dr_p (Pu_field 1 rfl Tryz.underlying59 rfl rfl Tryz.sizeOf31 rfl) ?_
          refine Dr_p (Pu_loadN rfl Tryz.isAgg31 Tryz.sizeOf31 rfl (Nat.le_of_ble_eq_true rfl)) ?_
          refine Dr_p (Pu_call (rless_a _ _ _ _) rfl ⟨Sub.rfl, Sub.rfl, trivial⟩) ?_
          refine Dr_nil (Al_nil ?_)
          refine Aw_cond rfl (fun h171 => ?_) (fun h171 => ?_)
          · skip
            exfalso
            rw [hle] at h171; simp at h171
          · skip
            refine Aw_skip (Aw_region ?_)
            refine Al_p Pu_mvl ?_
            refine Al_p (Pu_add rfl rfl rfl (fun h1 h2 => by simp only [A.inI, A.maxI] at *; omega)) ?_
            refine Al_p Pu_mvr ?_
            refine Al_nil ?_
            exact ⟨j + 1, by omega, by omega, Le.ov ⟨Sub.num (by omega), trivial⟩ ⟨Sub.rfl, Sub.rfl, Sub.rfl, Sub.rfl, Sub.rfl, Sub.rfl, trivial⟩ trivial ⟨rfl, rfl, rfl, trivial⟩⟩ -- loop 2 next.0
        · (try simp only [decide_eq_true_eq, decide_eq_false_iff_not, Bool.and_eq_true, Bool.or_eq_true, Bool.and_eq_false_iff, Bool.or_eq_false_iff, Bool.not_eq_true', Bool.not_eq_false', beq_iff_eq, Bool.not_eq_eq_eq_not, Bool.not_true, Bool.not_false, List.length_map, Bool.and_true, Bool.and_false, Bool.false_and, Bool.true_and, Bool.or_false, Bool.false_or] at h161)
          refine Aw_exit (Aw_region ?_)
          refine Al_p Pu_mvl ?_
          refine Al_p (Pu_add rfl rfl rfl (fun h1 h2 => by simp only [A.inI, A.maxI] at *; omega)) ?_
          refine Al_p Pu_mvr ?_
          refine Al_nil ?_
          exact ⟨(k + 1, q), ⟨by omega, by omega, hq, hqt, hqrs, hqid⟩, by simp only []; omega, Le.ov ⟨Sub.num (by omega), trivial⟩ ⟨Sub.rfl, Sub.rfl, Sub.rfl, Sub.rfl, trivial⟩ ⟨rfl, rfl, rfl, trivial⟩ trivial⟩ -- loop 0 next.0
  · (try simp only [decide_eq_true_eq, decide_eq_false_iff_not, Bool.and_eq_true, Bool.or_eq_true, Bool.and_eq_false_iff, Bool.or_eq_false_iff, Bool.not_eq_true', Bool.not_eq_false', beq_iff_eq, Bool.not_eq_eq_eq_not, Bool.not_true, Bool.not_false, List.length_map, Bool.and_true, Bool.and_false, Bool.false_and, Bool.true_and, Bool.or_false, Bool.false_or] at h41)
    refine Aw_exit (Aw_seq (Aw_region ?_))
    refine Al_p Pu_mvl ?_
    refine Al_p Pu_mvr ?_
    refine Al_nil ?_
    refine Aw_ret ?_
    exact Sub.rfl -- ret 0
end Go.Proofs.YtmbaeloiepjakaaGreat
end

section
namespace Go.Proofs.YtmbaeloiepjakaaGreat
open Go.ChangeShapes Go.WideShapes Go.ChangeAt Go.RowKit A
open Go.ChangeMaps (open_string shut_string)
theorem siteClock_law.own : ownKnob Tryz.prog.godebug = none := by kernel_rfl
theorem siteClock_law.laidOut : laidOutB Tryz.prog = true := by kernel_rfl
set_option maxRecDepth 100000 in
theorem siteClock_law.lifted (os : Os) (started : os.Started) (H : Type) (enc : TypeId × Value → H) :
    ReturnsInHanded {} Tryz.checked os 7 .any (Rows.siteClockSpec.pre6 enc Tryz.prog Tryz.f7 Rows.siteClockRow.domain false) (Rows.siteClockSpec.post enc Tryz.prog Tryz.f7 false true false false) := by
  refine returnsInHanded_of_change (C := Tryz.checked) siteClock_law.own started (by kernel_rfl) Tryz.func7
    (ChangeSpec.witness6 (enc := enc) (C := Tryz.checked) false ⟨#[], #[.int .i64 0, .slice none 0 0], []⟩ 8 (by kernel_rfl) (by kernel_rfl) (by kernel_rfl) (by kernel_rfl)) ?_
  intro W base args ds gs before hval0 hW hcnd _
  have hval : ∀ (j : Nat) t v, Tryz.f7.params[j]? = some t → args[j]? = some v → Value.okWide Tryz.prog W .any base t v := hval0
  have hW' := hW
  obtain ⟨p, q, hA0, hV, rfl, hfz, hnd⟩ := hW
  have hA : DataW.TrodAll enc Tryz.prog W 0 (fun _ => true) true Tryz.f7.params.toList args.toList ds p := hA0
  rw [Tryz.params7] at hA hval
  obtain ⟨v0, vs0, d0, ds0, p0, q0, hargs, rfl, rfl, h0, r0⟩ := trodAll_cons hA
  obtain ⟨v1, vs1, d1, ds1, p1, q1, rfl, rfl, rfl, h1, r1⟩ := trodAll_cons r0
  obtain ⟨rfl, rfl, rfl⟩ := trodAll_nil r1
  obtain rfl : args = #[v0, v1] := by cases args; simp_all
  obtain ⟨rfl, rfl⟩ := trodVars_none hV
  have k0 := h0
  have lt0 : ∀ x ∈ p0, x.block < W.heap.size := by obtain ⟨m, hm⟩ := k0; exact DataW.trod_lt m _ _ _ hm
  have ok0 := hval 0 3 v0 rfl rfl
  have k1 := h1
  have lt1 : ∀ x ∈ p1, x.block < W.heap.size := by obtain ⟨m, hm⟩ := k1; exact DataW.trod_lt m _ _ _ hm
  have ok1 := hval 1 22 v1 rfl rfl
  clear hA0 hval0
  obtain ⟨z, hz⟩ := A.open_i64 Tryz.underlying3 ok0 h0
  obtain ⟨l, hl⟩ := open_tops ok1 h1 
  refine (A.law (siteclock_law z l) (A.allcons hz (A.allcons hl A.allnil))).mono fun e W' ⟨he, bel⟩ => ?_
  subst he
  exact ⟨_, rfl, _, _, _, [], _, [], hW', trodAll_mk1 (shut_bool Tryz.underlying4 _), (trodAll_cons_mk (Below.trod siteClock_law.laidOut (by kernel_rfl) (of_decide_eq_true (by kernel_rfl)) k0 bel lt0) (trodAll_cons_mk (Below.trod siteClock_law.laidOut (by kernel_rfl) (of_decide_eq_true (by kernel_rfl)) k1 bel lt1) trodAll_mk0)), rfl, bel.frame _, fun h => by cases h⟩
theorem siteClock_holds : Rows.SiteClockSaid :=
  OpenClaim.holds_of_wide 7 Tryz.f7 rfl rfl rfl rfl rfl rfl rfl ⟨rfl, rfl, rfl, rfl, rfl⟩ rfl rfl rfl rfl rfl (by kernel_rfl) Tryz.func7 (by kernel_rfl)
    (of_decide_eq_true (by kernel_rfl)) (by unfold Func.isWrapper; first | (rw [if_pos (by decide +kernel)]; kernel_rfl) | (rw [if_neg (by decide +kernel)]; exact ⟨rfl, rfl⟩))
    (fun os started H enc _ => siteClock_law.lifted os started H enc)
end Go.Proofs.YtmbaeloiepjakaaGreat
end

namespace Go.Proofs.YtmbaeloiepjakaaGreat
#print axioms siteClock_holds
end Go.Proofs.YtmbaeloiepjakaaGreat
