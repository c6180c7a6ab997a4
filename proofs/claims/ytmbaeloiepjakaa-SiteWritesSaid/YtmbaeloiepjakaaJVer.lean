
/- Versions as data: which may be, which are the same. -/
import Derived.Test.YtmbaeloiepjakaaGPast
import Derived.Test.YtmbaeloiepjakaaSSame
import Derived.Test.YtmbaeloiepjakaaAR
set_option linter.unusedSimpArgs false
set_option linter.unusedVariables false
set_option maxRecDepth 100000
namespace Go.Proofs.Ytmbaeloiepjakaa
open Go.RowKit A R
open A.RowT
structure Ver where
  key : ByteArray
  value : ByteArray
  gone : Bool
  n : Int
  s : Int
  past : List Dep
def Ver.row (v : Ver) : List AV := [tv v.key, tv v.value, bv v.gone, iv v.n, iv v.s, .sl 3 (v.past.map Dep.row)]
instance : Inhabited Ver := ⟨⟨⟨#[]⟩, ⟨#[]⟩, false, 0, 0, []⟩⟩
instance : DecidableEq Ver := fun a b => decidable_of_iff (a.key = b.key ∧ a.value = b.value ∧ a.gone = b.gone ∧ a.n = b.n ∧ a.s = b.s ∧ a.past = b.past) (by cases a; cases b; simp)
abbrev versA (l : List Ver) : AV := .sl 6 (l.map Ver.row)
namespace J
/-- A past that may be. -/
def okAt (p : List Dep) (i : Nat) : Bool := D.okB (p.getD i default) && (decide (i = 0) || Op.bytesLess (p.getD (i - 1) default).key.toList (p.getD i default).key.toList)
def pastB (p : List Dep) : Bool := (List.range p.length).all (okAt p) && decide ((p.length : Int) ≤ 24)
theorem past_no {p : List Dep} {i : Nat} (hi : i < p.length) (h : okAt p i = false) : pastB p = false := by
  unfold pastB
  rw [Bool.and_eq_false_iff]
  refine .inl ?_
  rw [List.all_eq_false]
  exact ⟨i, List.mem_range.2 hi, by rw [h]; decide⟩
theorem past_all {p : List Dep} (h : ∀ i, i < p.length → okAt p i = true) : pastB p = decide ((p.length : Int) ≤ 24) := by
  unfold pastB
  rw [show (List.range p.length).all (okAt p) = true from List.all_eq_true.2 fun i hi => h i (List.mem_range.1 hi), Bool.true_and]
theorem adj_srt : ∀ (p : List Dep), (∀ i, i + 1 < p.length → Op.bytesLess (p.getD i default).key.toList (p.getD (i + 1) default).key.toList = true) → D.Srt p
  | [], _ => .nil
  | [x], _ => List.pairwise_singleton ..
  | x :: y :: r, h => by
    have ih := adj_srt (y :: r) fun i hi => h (i + 1) (by simpa using hi)
    have h0 : Op.bytesLess x.key.toList y.key.toList = true := h 0 (by simp)
    refine List.pairwise_cons.2 ⟨fun z hz => ?_, ih⟩
    rcases List.mem_cons.1 hz with rfl | hz
    · exact h0
    · exact K.bl_trans _ _ _ h0 ((List.pairwise_cons.1 ih).1 z hz)
theorem past_good {p : List Dep} (h : pastB p = true) : D.Good p ∧ p.length ≤ 24 := by
  unfold pastB at h
  simp only [Bool.and_eq_true, List.all_eq_true, List.mem_range, decide_eq_true_eq] at h
  obtain ⟨h1, h2⟩ := h
  refine ⟨⟨adj_srt p fun i hi => ?_, fun x hx => ?_⟩, by omega⟩
  · have := h1 (i + 1) hi
    unfold okAt at this
    simp only [Bool.and_eq_true, Bool.or_eq_true, decide_eq_true_eq] at this
    rcases this.2 with h | h
    · omega
    · exact h
  · obtain ⟨i, hi, rfl⟩ := List.getElem_of_mem hx
    have := h1 i hi
    unfold okAt at this
    simp only [Bool.and_eq_true] at this
    have hg : p.getD i default = p[i] := by simp [hi]
    rw [hg] at this
    exact this.1
theorem good_past {p : List Dep} (h : D.Good p) (hl : p.length ≤ 24) : pastB p = true := by
  rw [past_all fun i hi => ?_]
  · simp; omega
  · have hg : p.getD i default = p[i] := by simp [hi]
    unfold okAt
    rw [hg, h.ok _ (List.getElem_mem hi), Bool.true_and, Bool.or_eq_true, decide_eq_true_eq]
    rcases Nat.eq_zero_or_pos i with h0 | h0
    · exact .inl h0
    · refine .inr ?_
      have hg2 : p.getD (i - 1) default = p[i - 1]'(by omega) := by simp [show i - 1 < p.length by omega]
      rw [hg2]
      exact List.pairwise_iff_getElem.1 h.srt (i - 1) i (by omega) hi (by omega)
theorem size_runes (s : ByteArray) : ∀ (k i f n : Nat), s.size - i ≤ k → s.size ≤ i + f → K.runesF s f i = some n → s.size ≤ i + 4 * n := by
  intro k
  induction k with
  | zero => intro i f n h _ _; omega
  | succ k ih =>
    intro i f n h hf hr
    by_cases hi : i < s.size
    · cases ho : K.okAt s i with
      | false => rw [K.runesF_bad s f i hi hf ho] at hr; cases hr
      | true =>
        obtain ⟨g, hg, e⟩ := K.runesF_ok s f i hi hf ho
        rw [e] at hr
        obtain ⟨m, hm, rfl⟩ := Option.map_eq_some_iff.1 hr
        have hw := K.wd_pos s i hi
        have hw4 : K.wd s i ≤ 4 := by rw [← (K.ref_ok s i hi).2 ho]; exact K.longN_le _
        have := ih (i + K.wd s i) g m (by omega) hg hm
        omega
    · omega
theorem check_size {s : ByteArray} (h : K.checkB s = true) : s.size ≤ 32 := by
  unfold K.checkB K.lim at h
  simp only [Bool.and_eq_true, decide_eq_true_eq] at h
  obtain ⟨⟨h1, h2⟩, _⟩ := h
  unfold K.runes at h1 h2
  split at h1
  · rename_i n hn
    have := size_runes s s.size 0 s.size n (by omega) (by omega) hn
    rw [hn] at h2
    simp only at h2
    omega
  · omega
def checkB (v : Ver) : Bool := K.checkB v.key && (V.stampB v.n v.s && (pastB v.past && (decide ((v.value.size : Int) ≤ 32) && (!v.gone || (v.value.toList == (⟨#[]⟩ : ByteArray).toList)))))
theorem ver_key {v : Ver} (h : checkB v = true) : v.key.size ≤ 32 := by
  unfold checkB at h
  simp only [Bool.and_eq_true] at h
  exact check_size h.1
theorem ver_eq (v w : Ver) : ((v.key.toList == w.key.toList) && ((v.value.toList == w.value.toList) && ((v.gone == w.gone) && (((v.n == w.n) && (v.s == w.s)) && decide (v.past = w.past))))) = decide (v = w) := by
  rw [str_eqB, str_eqB]
  cases v; cases w
  rw [Bool.eq_iff_iff]
  simp only [Bool.and_eq_true, beq_iff_eq, decide_eq_true_eq, Ver.mk.injEq, and_assoc]
end J
set_option maxRecDepth 100000 in
theorem pcheck_a (p : List Dep) : ACall Try.prog 35 [.sl 3 (p.map Dep.row)] (bv (J.pastB p)) := by
  refine ACall_enter (fun _ _ => by kernel_rfl) Try.func35 rfl Try.ntmps35 Try.results35 (Nat.le_of_ble_eq_true rfl) (fun hok M0 w0 hnl => ?_)
  have hlen := (hok _ (List.mem_cons_self ..)).len
  rw [List.length_map] at hlen
  refine Aw_seq (Aw_region ?_)
  refine Al_p Pu_mvr ?_
  refine Al_nil (Aw_seq (Aw_seq (Aw_region ?_)))
  refine Al_p Pu_mvl ?_
  refine Al_p (Pu_len rfl Try.underlying30 rfl (by first | exact List.length_map .. | exact rfl)) ?_
  refine Al_p Pu_mvl ?_
  refine Al_nil (Aw_block ?_)
  refine Aw_loopk (ι := Nat) [0, 5, 6] [] (fun k => [(7, .d (iv k))]) (fun k => []) (fun k => k ≤ p.length ∧ ∀ i, i < k → J.okAt p i = true) (fun k => p.length - k) (0) (⟨Nat.zero_le _, by intros; omega⟩) ⟨Sub.rfl, trivial⟩ trivial ?_
  rintro k ⟨hk0, hno⟩
  refine Aw_seq (Aw_region ?_)
  refine Al_p (Pu_cmp rfl rfl rfl rfl) ?_
  refine Al_nil (Aw_seq ?_)
  refine Aw_cond rfl (fun h8 => ?_) (fun h8 => ?_)
  · (try simp only [decide_eq_true_eq, decide_eq_false_iff_not, Bool.and_eq_true, Bool.or_eq_true, Bool.and_eq_false_iff, Bool.or_eq_false_iff, Bool.not_eq_true', Bool.not_eq_false', beq_iff_eq, Bool.not_eq_eq_eq_not, Bool.not_true, Bool.not_false, List.length_map, Bool.and_true, Bool.and_false, Bool.false_and, Bool.true_and, Bool.or_false, Bool.false_or] at h8)
    have hk : k < p.length := by omega
    refine Aw_skip (Aw_seq (Aw_block (Aw_seq (Aw_region ?_))))
    refine Al_p Pu_mvl ?_
    refine Al_p (Pu_index rfl Try.underlying30 Try.sizeOf49 rfl rfl (rfl) (mapgetD (d := default) hk)) ?_
    refine Al_p (Pu_loadN rfl Try.isAgg49 Try.sizeOf49 rfl (Nat.le_of_ble_eq_true rfl)) ?_
    refine Al_alloc rfl rfl rfl (by decide) Try.zeroValue49 rfl (by kernel_rfl) (fun g4 => ?_)
    refine Al_p Pu_mvr ?_
    refine Al_storeN rfl rfl rfl (by kernel_rfl) Try.isAgg49 Try.sizeOf49 rfl rfl rfl rfl (Nat.le_of_ble_eq_true rfl) ?_
    refine Al_nil (Aw_seq ?_)
    refine Aw_draw 18 (by kernel_rfl) (by kernel_rfl) ?_
    refine Dr_p (Pu_loadbN (r := [_, _, _]) rfl Try.isAgg49 Try.sizeOf49 rfl rfl rfl rfl) ?_
    refine Dr_p (Pu_call (pmay_a _) rfl ⟨Sub.rfl, trivial⟩) ?_
    refine Dr_p (Pu_not rfl rfl) ?_
    refine Dr_p Pu_mvl ?_
    refine Dr_st (St_gd [] rfl rfl rfl rfl trivial (fun hg16 => by exact Pu_move (.inl rfl) (by conv => lhs; whnf))) rfl ?_
    refine Dr_st (St_gd [16] rfl rfl rfl rfl ⟨⟨_, rfl⟩, trivial⟩ (fun hg17 => Pu_cmp rfl rfl rfl rfl)) rfl ?_
    refine Dr_st (St_gd [17] rfl rfl rfl rfl ⟨⟨_, rfl⟩, trivial⟩ (fun hg18 => by exact Pu_move (.inl rfl) (by conv => lhs; whnf))) rfl ?_
    refine Dr_st (St_gd2 [] rfl rfl rfl rfl trivial (fun hp19 hg19 => by exact Pu_move (.inl rfl) (by conv => lhs; whnf))) rfl ?_
    refine Dr_st (St_gd2 [] rfl rfl rfl rfl trivial (fun hp20 hg20 => by exact Pu_move (.inl rfl) (by conv => lhs; whnf))) rfl ?_
    refine Dr_st (St_gd2 [20] rfl rfl rfl rfl ⟨⟨_, rfl⟩, trivial⟩ (fun hp21 hg21 => by exact Pu_sub rfl rfl rfl (fun h1 h2 => by simp only [A.inI, A.maxI] at *; omega))) rfl ?_
    refine Dr_st (St_gd2 [19, 21] rfl rfl rfl rfl ⟨⟨_, rfl⟩, ⟨_, rfl⟩, trivial⟩ (fun hp22 hg22 => by exact Pu_index rfl Try.underlying30 Try.sizeOf49 rfl rfl ((show ((k : Int) - 1) = ((k - 1 : Nat) : Int) from by have := of_decide_eq_true hg22; omega)) (mapgetD (d := default) (show k - 1 < p.length by omega)))) rfl ?_
    refine Dr_st (St_gd2 [22] rfl rfl rfl rfl ⟨⟨_, rfl⟩, trivial⟩ (fun hp23 hg23 => Pu_field 0 rfl Try.underlying49 rfl rfl Try.sizeOf9 rfl)) rfl ?_
    refine Dr_st (St_gd2 [23] rfl rfl rfl rfl ⟨⟨_, rfl⟩, trivial⟩ (fun hp24 hg24 => Pu_load1 rfl Try.isAgg9 rfl rfl)) rfl ?_
    refine Dr_st (St_gd2 [] rfl rfl rfl rfl trivial (fun hp25 hg25 => Pu_fieldb 0 rfl Try.underlying49 rfl rfl Try.sizeOf9 rfl)) rfl ?_
    refine Dr_st (St_gd2 [25] rfl rfl rfl rfl ⟨⟨_, rfl⟩, trivial⟩ (fun hp26 hg26 => Pu_loadb rfl Try.isAgg9 rfl rfl rfl)) rfl ?_
    refine Dr_st (St_gd2 [24, 26] rfl rfl rfl rfl ⟨⟨_, rfl⟩, ⟨_, rfl⟩, trivial⟩ (fun hp27 hg27 => Pu_str rfl rfl rfl rfl)) rfl ?_
    refine Dr_st (St_gd [18] rfl rfl rfl rfl ⟨⟨_, rfl⟩, trivial⟩ (fun hg28 => Pu_andG rfl rfl (fun h => ⟨hg28, h⟩) rfl rfl)) rfl ?_
    refine Dr_p (Pu_or rfl rfl rfl rfl) ?_
    refine Dr_nil (Al_nil ?_)
    refine Aw_cond rfl (fun h29 => ?_) (fun h29 => ?_)
    · skip
      have hf : J.okAt p k = false := by
        unfold J.okAt
        rcases Nat.eq_zero_or_pos k with h0 | h0
        · subst h0
          simpa using h29
        · rw [show decide (k = 0) = false from by simp; omega, Bool.false_or]
          simp only [Bool.or_eq_true, Bool.not_eq_true', Bool.and_eq_true, decide_eq_true_eq] at h29
          rcases h29 with h | h
          · rw [h]; rfl
          · rw [h.2, Bool.and_false]
      refine Aw_seq (Aw_region ?_)
      refine Al_p Pu_mvr ?_
      refine Al_nil ?_
      refine Aw_ret ?_
      exact Sub.bool (J.past_no hk hf).symm -- ret 0
    · skip
      have hf : J.okAt p k = true := by
        unfold J.okAt
        rcases Nat.eq_zero_or_pos k with h0 | h0
        · subst h0
          simpa using h29
        · rw [show decide (k = 0) = false from by simp; omega, Bool.false_or]
          simp only [Bool.or_eq_false_iff, Bool.not_eq_false', Bool.and_eq_false_iff, decide_eq_false_iff_not] at h29
          obtain ⟨h1, h2⟩ := h29
          rw [h1, Bool.true_and]
          rcases h2 with h | h
          · omega
          · exact h
      refine Aw_skip (Aw_region ?_)
      refine Al_p (Pu_add rfl rfl rfl (fun h1 h2 => by simp only [A.inI, A.maxI] at *; omega)) ?_
      refine Al_p Pu_mvl ?_
      refine Al_nil ?_
      exact ⟨k + 1, ⟨by omega, fun i hi => by
        rcases Nat.lt_succ_iff_lt_or_eq.1 hi with h | rfl
        · exact hno i h
        · exact hf⟩, by omega, Le.ov ⟨Sub.num (by omega), trivial⟩ ⟨Sub.rfl, Sub.rfl, Sub.rfl, trivial⟩ trivial trivial⟩ -- loop 0 next.0
  · (try simp only [decide_eq_true_eq, decide_eq_false_iff_not, Bool.and_eq_true, Bool.or_eq_true, Bool.and_eq_false_iff, Bool.or_eq_false_iff, Bool.not_eq_true', Bool.not_eq_false', beq_iff_eq, Bool.not_eq_eq_eq_not, Bool.not_true, Bool.not_false, List.length_map, Bool.and_true, Bool.and_false, Bool.false_and, Bool.true_and, Bool.or_false, Bool.false_or] at h8)
    have hk : k = p.length := by omega
    refine Aw_exit (Aw_seq (Aw_region ?_))
    refine Al_p Pu_mvl ?_
    refine Al_p (Pu_len rfl Try.underlying30 rfl (by first | exact List.length_map .. | exact rfl)) ?_
    refine Al_p (Pu_cmp rfl rfl rfl rfl) ?_
    refine Al_p Pu_mvr ?_
    refine Al_nil ?_
    refine Aw_ret ?_
    exact Sub.bool (J.past_all (by subst hk; exact hno)).symm -- ret 1
set_option maxRecDepth 100000 in
theorem wcheck_a (v : Ver) : ACall Try.prog 21 [.row v.row] (bv (J.checkB v)) := by
  refine ACall_enter (fun _ _ => by kernel_rfl) Try.func21 rfl Try.ntmps21 Try.results21 (Nat.le_of_ble_eq_true rfl) (fun hok M0 w0 hnl => ?_)
  refine Aw_seq (Aw_region ?_)
  refine Al_p (Pu_boxN rfl rfl) ?_
  refine Al_p Pu_mvr ?_
  refine Al_nil (Aw_seq (Aw_region ?_))
  refine Al_p (Pu_field 0 rfl Try.underlying34 rfl rfl Try.sizeOf9 rfl) ?_
  refine Al_p (Pu_load1 rfl Try.isAgg9 rfl rfl) ?_
  refine Al_p (Pu_call (check_a _) rfl ⟨Sub.rfl, trivial⟩) ?_
  refine Al_p Pu_mvl ?_
  refine Al_st (St_gd [] rfl rfl rfl rfl trivial (fun hg7 => Pu_field 3 rfl Try.underlying34 rfl rfl Try.sizeOf29 rfl)) rfl (by decide) (by kernel_rfl) (by intro j b oj dj h1 h2 h3; cases h1; cases h2; cases h3; decide) ?_
  refine Al_st (St_gd [7] rfl rfl rfl rfl ⟨⟨_, rfl⟩, trivial⟩ (fun hg8 => Pu_loadN rfl Try.isAgg29 Try.sizeOf29 rfl (Nat.le_of_ble_eq_true rfl))) rfl (by decide) (by kernel_rfl) (by intro j b oj dj h1 h2 h3; cases h1; cases h2; cases h3; decide) ?_
  refine Al_st (St_gd [8] rfl rfl rfl rfl ⟨⟨_, rfl⟩, trivial⟩ (fun hg9 => Pu_call (stcheck_a _ _) rfl ⟨Sub.rfl, trivial⟩)) rfl (by decide) (by kernel_rfl) (by intro j b oj dj h1 h2 h3; cases h1; cases h2; cases h3; decide) ?_
  refine Al_p (Pu_and rfl rfl rfl rfl) ?_
  refine Al_p Pu_mvl ?_
  refine Al_st (St_gd [] rfl rfl rfl rfl trivial (fun hg12 => Pu_field 5 rfl Try.underlying34 rfl rfl Try.sizeOf30 rfl)) rfl (by decide) (by kernel_rfl) (by intro j b oj dj h1 h2 h3; cases h1; cases h2; cases h3; decide) ?_
  refine Al_st (St_gd [12] rfl rfl rfl rfl ⟨⟨_, rfl⟩, trivial⟩ (fun hg13 => Pu_load1 rfl Try.isAgg30 rfl rfl)) rfl (by decide) (by kernel_rfl) (by intro j b oj dj h1 h2 h3; cases h1; cases h2; cases h3; decide) ?_
  refine Al_st (St_gd [13] rfl rfl rfl rfl ⟨⟨_, rfl⟩, trivial⟩ (fun hg14 => Pu_call (pcheck_a v.past) rfl ⟨Sub.rfl, trivial⟩)) rfl (by decide) (by kernel_rfl) (by intro j b oj dj h1 h2 h3; cases h1; cases h2; cases h3; decide) ?_
  refine Al_p (Pu_and rfl rfl rfl rfl) ?_
  refine Al_p Pu_mvl ?_
  refine Al_st (St_gd [] rfl rfl rfl rfl trivial (fun hg17 => Pu_field 1 rfl Try.underlying34 rfl rfl Try.sizeOf9 rfl)) rfl (by decide) (by kernel_rfl) (by intro j b oj dj h1 h2 h3; cases h1; cases h2; cases h3; decide) ?_
  refine Al_st (St_gd [17] rfl rfl rfl rfl ⟨⟨_, rfl⟩, trivial⟩ (fun hg18 => Pu_load1 rfl Try.isAgg9 rfl rfl)) rfl (by decide) (by kernel_rfl) (by intro j b oj dj h1 h2 h3; cases h1; cases h2; cases h3; decide) ?_
  refine Al_st (St_gd [18] rfl rfl rfl rfl ⟨⟨_, rfl⟩, trivial⟩ (fun hg19 => Pu_lenS rfl Try.underlying9 rfl)) rfl (by decide) (by kernel_rfl) (by intro j b oj dj h1 h2 h3; cases h1; cases h2; cases h3; decide) ?_
  refine Al_st (St_gd [19] rfl rfl rfl rfl ⟨⟨_, rfl⟩, trivial⟩ (fun hg20 => Pu_cmp rfl rfl rfl rfl)) rfl (by decide) (by kernel_rfl) (by intro j b oj dj h1 h2 h3; cases h1; cases h2; cases h3; decide) ?_
  refine Al_p (Pu_and rfl rfl rfl rfl) ?_
  refine Al_p Pu_mvl ?_
  refine Al_st (St_gd [] rfl rfl rfl rfl trivial (fun hg23 => Pu_field 2 rfl Try.underlying34 rfl rfl Try.sizeOf4 rfl)) rfl (by decide) (by kernel_rfl) (by intro j b oj dj h1 h2 h3; cases h1; cases h2; cases h3; decide) ?_
  refine Al_st (St_gd [23] rfl rfl rfl rfl ⟨⟨_, rfl⟩, trivial⟩ (fun hg24 => Pu_load1 rfl Try.isAgg4 rfl rfl)) rfl (by decide) (by kernel_rfl) (by intro j b oj dj h1 h2 h3; cases h1; cases h2; cases h3; decide) ?_
  refine Al_st (St_gd [24] rfl rfl rfl rfl ⟨⟨_, rfl⟩, trivial⟩ (fun hg25 => Pu_not rfl rfl)) rfl (by decide) (by kernel_rfl) (by intro j b oj dj h1 h2 h3; cases h1; cases h2; cases h3; decide) ?_
  refine Al_st (St_gd [25] rfl rfl rfl rfl ⟨⟨_, rfl⟩, trivial⟩ (fun hg26 => by exact Pu_move (.inl rfl) (by conv => lhs; whnf))) rfl (by decide) (by kernel_rfl) (by intro j b oj dj h1 h2 h3; cases h1; cases h2; cases h3; decide) ?_
  refine Al_st (St_gd2 [] rfl rfl rfl rfl trivial (fun hp27 hg27 => Pu_field 1 rfl Try.underlying34 rfl rfl Try.sizeOf9 rfl)) rfl (by decide) (by kernel_rfl) (by intro j b oj dj h1 h2 h3; cases h1; cases h2; cases h3; decide) ?_
  refine Al_st (St_gd2 [27] rfl rfl rfl rfl ⟨⟨_, rfl⟩, trivial⟩ (fun hp28 hg28 => Pu_load1 rfl Try.isAgg9 rfl rfl)) rfl (by decide) (by kernel_rfl) (by intro j b oj dj h1 h2 h3; cases h1; cases h2; cases h3; decide) ?_
  refine Al_st (St_gd2 [28] rfl rfl rfl rfl ⟨⟨_, rfl⟩, trivial⟩ (fun hp29 hg29 => Pu_str rfl rfl rfl rfl)) rfl (by decide) (by kernel_rfl) (by intro j b oj dj h1 h2 h3; cases h1; cases h2; cases h3; decide) ?_
  refine Al_st (St_gd [26] rfl rfl rfl rfl ⟨⟨_, rfl⟩, trivial⟩ (fun hg30 => Pu_orG rfl rfl rfl (fun h => ⟨hg30, h⟩) rfl)) rfl (by decide) (by kernel_rfl) (by intro j b oj dj h1 h2 h3; cases h1; cases h2; cases h3; decide) ?_
  refine Al_p (Pu_and rfl rfl rfl rfl) ?_
  refine Al_p Pu_mvr ?_
  refine Al_nil ?_
  refine Aw_ret ?_
  exact Sub.bool (by unfold J.checkB; simp only [Bool.and_assoc]) -- ret 0
set_option maxRecDepth 100000 in
theorem rvsame_a (v w : Ver) : ACall Try.prog 11 [.row v.row, .row w.row] (bv (decide (v = w))) := by
  refine ACall_enter (fun _ _ => by kernel_rfl) Try.func11 rfl Try.ntmps11 Try.results11 (Nat.le_of_ble_eq_true rfl) (fun hok M0 w0 hnl => ?_)
  refine Aw_seq (Aw_region ?_)
  refine Al_p (Pu_boxN rfl rfl) ?_
  refine Al_p (Pu_boxN rfl rfl) ?_
  refine Al_p Pu_mvr ?_
  refine Al_nil (Aw_seq (Aw_region ?_))
  refine Al_p (Pu_field 5 rfl Try.underlying34 rfl rfl Try.sizeOf30 rfl) ?_
  refine Al_p (Pu_load1 rfl Try.isAgg30 rfl rfl) ?_
  refine Al_p (Pu_field 5 rfl Try.underlying34 rfl rfl Try.sizeOf30 rfl) ?_
  refine Al_p (Pu_load1 rfl Try.isAgg30 rfl rfl) ?_
  refine Al_p (Pu_call (dsame_a v.past w.past) rfl ⟨Sub.rfl, Sub.rfl, trivial⟩) ?_
  refine Al_p Pu_mvr ?_
  refine Al_nil (Aw_seq (Aw_region ?_))
  refine Al_p Pu_mvl ?_
  refine Al_p Pu_mvl ?_
  refine Al_st (St_gd [] rfl rfl rfl rfl trivial (fun hg13 => Pu_field 0 rfl Try.underlying34 rfl rfl Try.sizeOf9 rfl)) rfl (by decide) (by kernel_rfl) (by intro j b oj dj h1 h2 h3; cases h1; cases h2; cases h3; decide) ?_
  refine Al_st (St_gd [13] rfl rfl rfl rfl ⟨⟨_, rfl⟩, trivial⟩ (fun hg14 => Pu_load1 rfl Try.isAgg9 rfl rfl)) rfl (by decide) (by kernel_rfl) (by intro j b oj dj h1 h2 h3; cases h1; cases h2; cases h3; decide) ?_
  refine Al_st (St_gd [] rfl rfl rfl rfl trivial (fun hg15 => Pu_field 0 rfl Try.underlying34 rfl rfl Try.sizeOf9 rfl)) rfl (by decide) (by kernel_rfl) (by intro j b oj dj h1 h2 h3; cases h1; cases h2; cases h3; decide) ?_
  refine Al_st (St_gd [15] rfl rfl rfl rfl ⟨⟨_, rfl⟩, trivial⟩ (fun hg16 => Pu_load1 rfl Try.isAgg9 rfl rfl)) rfl (by decide) (by kernel_rfl) (by intro j b oj dj h1 h2 h3; cases h1; cases h2; cases h3; decide) ?_
  refine Al_st (St_gd [14, 16] rfl rfl rfl rfl ⟨⟨_, rfl⟩, ⟨_, rfl⟩, trivial⟩ (fun hg17 => Pu_str rfl rfl rfl rfl)) rfl (by decide) (by kernel_rfl) (by intro j b oj dj h1 h2 h3; cases h1; cases h2; cases h3; decide) ?_
  refine Al_p (Pu_and rfl rfl rfl rfl) ?_
  refine Al_p Pu_mvl ?_
  refine Al_st (St_gd [] rfl rfl rfl rfl trivial (fun hg20 => Pu_field 1 rfl Try.underlying34 rfl rfl Try.sizeOf9 rfl)) rfl (by decide) (by kernel_rfl) (by intro j b oj dj h1 h2 h3; cases h1; cases h2; cases h3; decide) ?_
  refine Al_st (St_gd [20] rfl rfl rfl rfl ⟨⟨_, rfl⟩, trivial⟩ (fun hg21 => Pu_load1 rfl Try.isAgg9 rfl rfl)) rfl (by decide) (by kernel_rfl) (by intro j b oj dj h1 h2 h3; cases h1; cases h2; cases h3; decide) ?_
  refine Al_st (St_gd [] rfl rfl rfl rfl trivial (fun hg22 => Pu_field 1 rfl Try.underlying34 rfl rfl Try.sizeOf9 rfl)) rfl (by decide) (by kernel_rfl) (by intro j b oj dj h1 h2 h3; cases h1; cases h2; cases h3; decide) ?_
  refine Al_st (St_gd [22] rfl rfl rfl rfl ⟨⟨_, rfl⟩, trivial⟩ (fun hg23 => Pu_load1 rfl Try.isAgg9 rfl rfl)) rfl (by decide) (by kernel_rfl) (by intro j b oj dj h1 h2 h3; cases h1; cases h2; cases h3; decide) ?_
  refine Al_st (St_gd [21, 23] rfl rfl rfl rfl ⟨⟨_, rfl⟩, ⟨_, rfl⟩, trivial⟩ (fun hg24 => Pu_str rfl rfl rfl rfl)) rfl (by decide) (by kernel_rfl) (by intro j b oj dj h1 h2 h3; cases h1; cases h2; cases h3; decide) ?_
  refine Al_p (Pu_and rfl rfl rfl rfl) ?_
  refine Al_p Pu_mvl ?_
  refine Al_st (St_gd [] rfl rfl rfl rfl trivial (fun hg27 => Pu_field 2 rfl Try.underlying34 rfl rfl Try.sizeOf4 rfl)) rfl (by decide) (by kernel_rfl) (by intro j b oj dj h1 h2 h3; cases h1; cases h2; cases h3; decide) ?_
  refine Al_st (St_gd [27] rfl rfl rfl rfl ⟨⟨_, rfl⟩, trivial⟩ (fun hg28 => Pu_load1 rfl Try.isAgg4 rfl rfl)) rfl (by decide) (by kernel_rfl) (by intro j b oj dj h1 h2 h3; cases h1; cases h2; cases h3; decide) ?_
  refine Al_st (St_gd [] rfl rfl rfl rfl trivial (fun hg29 => Pu_field 2 rfl Try.underlying34 rfl rfl Try.sizeOf4 rfl)) rfl (by decide) (by kernel_rfl) (by intro j b oj dj h1 h2 h3; cases h1; cases h2; cases h3; decide) ?_
  refine Al_st (St_gd [29] rfl rfl rfl rfl ⟨⟨_, rfl⟩, trivial⟩ (fun hg30 => Pu_load1 rfl Try.isAgg4 rfl rfl)) rfl (by decide) (by kernel_rfl) (by intro j b oj dj h1 h2 h3; cases h1; cases h2; cases h3; decide) ?_
  refine Al_st (St_gd [28, 30] rfl rfl rfl rfl ⟨⟨_, rfl⟩, ⟨_, rfl⟩, trivial⟩ (fun hg31 => Pu_bool rfl Try.underlying4 rfl rfl rfl)) rfl (by decide) (by kernel_rfl) (by intro j b oj dj h1 h2 h3; cases h1; cases h2; cases h3; decide) ?_
  refine Al_p (Pu_and rfl rfl rfl rfl) ?_
  refine Al_p Pu_mvl ?_
  refine Al_st (St_gd [] rfl rfl rfl rfl trivial (fun hg34 => Pu_field 3 rfl Try.underlying34 rfl rfl Try.sizeOf29 rfl)) rfl (by decide) (by kernel_rfl) (by intro j b oj dj h1 h2 h3; cases h1; cases h2; cases h3; decide) ?_
  refine Al_st (St_gd [34] rfl rfl rfl rfl ⟨⟨_, rfl⟩, trivial⟩ (fun hg35 => Pu_loadN rfl Try.isAgg29 Try.sizeOf29 rfl (Nat.le_of_ble_eq_true rfl))) rfl (by decide) (by kernel_rfl) (by intro j b oj dj h1 h2 h3; cases h1; cases h2; cases h3; decide) ?_
  refine Al_st (St_gd [] rfl rfl rfl rfl trivial (fun hg36 => Pu_field 3 rfl Try.underlying34 rfl rfl Try.sizeOf29 rfl)) rfl (by decide) (by kernel_rfl) (by intro j b oj dj h1 h2 h3; cases h1; cases h2; cases h3; decide) ?_
  refine Al_st (St_gd [36] rfl rfl rfl rfl ⟨⟨_, rfl⟩, trivial⟩ (fun hg37 => Pu_loadN rfl Try.isAgg29 Try.sizeOf29 rfl (Nat.le_of_ble_eq_true rfl))) rfl (by decide) (by kernel_rfl) (by intro j b oj dj h1 h2 h3; cases h1; cases h2; cases h3; decide) ?_
  refine Al_st (St_gd [35, 37] rfl rfl rfl rfl ⟨⟨_, rfl⟩, ⟨_, rfl⟩, trivial⟩ (fun hg38 => Pu_eqrow [.int .i64 _, .int .i64 _] [.int .i64 _, .int .i64 _] (fun w => eqv29 _ _ _ _ _ _ w) rfl rfl rfl)) rfl (by decide) (by kernel_rfl) (by intro j b oj dj h1 h2 h3; cases h1; cases h2; cases h3; decide) ?_
  refine Al_p (Pu_and rfl rfl rfl rfl) ?_
  refine Al_p Pu_mvr ?_
  refine Al_nil ?_
  refine Aw_ret ?_
  exact Sub.bool (by rw [← J.ver_eq, Bool.eq_iff_iff]; simp only [Bool.and_eq_true]; constructor <;> (rintro h; simp_all)) -- ret 0
end Go.Proofs.Ytmbaeloiepjakaa
