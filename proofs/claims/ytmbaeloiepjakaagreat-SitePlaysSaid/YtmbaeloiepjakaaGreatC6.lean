/- What the proofs need in common, laid together (6 of 6): no condition. -/
import Derived.Test.YtmbaeloiepjakaaGreatC5
set_option linter.unusedSimpArgs false
set_option linter.unusedVariables false
set_option linter.constructorNameAsVariable false

section
set_option maxRecDepth 100000
namespace Go.Proofs.YtmbaeloiepjakaaGreat
open Go.RowKit A R
open A.RowT
namespace J
theorem put_memT {l m : List Ver} {v w : Ver} (h : put l v = some m) (hw : w ∈ m) : w = v ∨ w ∈ l := by
  unfold put at h
  split at h
  · cases h
    rcases List.mem_append.1 hw with hw | hw
    · exact .inr (List.mem_of_mem_take hw)
    · rcases List.mem_cons.1 hw with rfl | hw
      · exact .inl rfl
      · exact .inr (List.mem_of_mem_drop hw)
  · cases h
/-- All that is kept may be. -/
def Chk (cs : SC) : Prop := ∀ q ∈ cs, ∀ v ∈ q.2, checkB v = true
theorem chk_put {rs : List Rng} {cs : SC} (h : Chk cs) (v : Ver) : Chk (sput rs cs v).1 := fun q hq w hw => by
  cases hb : (sput rs cs v).2 with
  | false => rw [sput_no hb] at hq; exact h q hq w hw
  | true =>
    obtain ⟨l, _, hl, he⟩ := sput_some hb
    rw [he] at hq
    rcases mem_setC _ _ _ _ hq with rfl | hq
    · rcases put_memT hl hw with rfl | h2
      · exact put_ok hl
      · unfold getC at h2
        cases hlk : look cs v.key with
        | none => rw [hlk] at h2; cases h2
        | some l0 => rw [hlk] at h2; exact h _ (mem_look hlk) w h2
    · exact h q hq w hw
theorem head_chk {cs : SC} (h : Chk cs) (k : ByteArray) : (shead cs k).isSome = decide (0 < ((shead cs k).getD default).n) := by
  cases hs : shead cs k with
  | none => rfl
  | some v =>
    have hm : v ∈ getC cs k := by
      unfold shead head told at hs
      split at hs
      · exact List.mem_of_getElem? hs
      · cases hs
    have hc : checkB v = true := by
      unfold getC at hm
      cases hlk : look cs k with
      | none => rw [hlk] at hm; cases hm
      | some l0 => rw [hlk] at hm; exact h _ (mem_look hlk) v hm
    unfold checkB V.stampB at hc
    simp only [Bool.and_eq_true, decide_eq_true_eq] at hc
    simp; omega
end J
namespace PS
/-- What holds at each step. -/
structure Go (p : PS) (m : Nat) : Prop where
  rk : p.Rk m
  chk : J.Chk p.cs
theorem Go.mono {p : PS} {m m' : Nat} (h : p.Go m) (hm : m ≤ m') : p.Go m' := ⟨⟨h.rk.ok.mono hm, h.rk.ch⟩, h.chk⟩
theorem Go.zero {k : Int} (hk : 0 ≤ k ∧ k < 6) {rs : List Rng} (hrl : rs.length ≤ 1000000) : (PS.zero k rs).Go 0 := ⟨⟨Ok.zero hk hrl, fun _ h => (nomatch h)⟩, fun _ h => nomatch h⟩
theorem Go.write {p : PS} {m : Nat} (h : p.Go m) (key value : ByteArray) (gone : Bool) (past : List Dep) : (p.write key value gone past).Go (m + 1) := by
  refine ⟨⟨h.rk.ok.write _ _ _ _, ?_⟩, ?_⟩
  · unfold PS.write
    split
    · exact J.chns_put h.rk.ch _
    · exact h.rk.ch
  · unfold PS.write
    split
    · exact J.chk_put h.chk _
    · exact h.chk
theorem arrive_cs (p : PS) (v : Ver) : (p.arrive v).cs = p.cs := by
  unfold PS.arrive
  split
  · split <;> rfl
  · rfl
theorem Go.arrive {p : PS} {m : Nat} (h : p.Go m) (v : Ver) : (p.arrive v).Go m := ⟨⟨h.rk.ok.arrive v, by rw [arrive_cs]; exact h.rk.ch⟩, by rw [arrive_cs]; exact h.chk⟩
theorem Go.step {p : PS} {m : Nat} (h : p.Go m) : p.step.Go (m + 1) := by
  refine ⟨⟨h.rk.ok.step, ?_⟩, ?_⟩
  · unfold PS.step
    split
    · exact J.chns_put h.rk.ch _
    · exact h.rk.ch
  · unfold PS.step
    split
    · exact J.chk_put h.chk _
    · exact h.chk
theorem Go.clean {p : PS} {m : Nat} (h : p.Go m) (n s : Int) (pins : List Dep) : (p.clean n s pins).Go m := by
  refine ⟨⟨h.rk.ok.clean n s pins, fun q hq => ?_⟩, fun q hq w hw => ?_⟩
  · obtain ⟨q', h1, rfl⟩ := List.mem_map.1 hq
    exact List.Pairwise.sublist List.filter_sublist (h.rk.ch q' h1)
  · obtain ⟨q', h1, rfl⟩ := List.mem_map.1 hq
    exact h.chk q' h1 w (List.mem_filter.1 hw).1
theorem Go.mvK {p : PS} {m : Nat} (h : p.Go m) (rs : List Rng) (l : List Ver) : ∀ k, J.Chns (p.mvK rs l k).cs ∧ J.Chk (p.mvK rs l k).cs
  | 0 => ⟨fun q hq => h.rk.ch q ((J.smove_sub _ _).subset hq), fun q hq => h.chk q ((J.smove_sub _ _).subset hq)⟩
  | k + 1 => by
    have ih := h.mvK rs l k
    by_cases hk : k < l.length
    · rw [p.mvK_succ rs l hk]
      exact ⟨J.chns_put ih.1 _, J.chk_put ih.2 _⟩
    · have e : p.mvK rs l (k + 1) = p.mvK rs l k := by
        unfold PS.mvK
        rw [List.take_of_length_le (by omega), List.take_of_length_le (by omega)]
      rw [e]; exact ih
theorem Go.move {p : PS} {m : Nat} (h : p.Go m) (rs : List Rng) (hrl : rs.length ≤ 1000000) (l : List Ver) : (p.move rs l).Go (m + l.length) := by
  have h1 := h.mvK rs l l.length
  rw [p.mvK_all] at h1
  exact ⟨⟨h.rk.ok.move rs hrl l, h1.1⟩, h1.2⟩
theorem read_chk {p : PS} (h : J.Chk p.cs) (key : ByteArray) : (p.readV key).isSome = decide (0 < ((p.readV key).getD default).n) := by
  unfold PS.readV
  split
  · rfl
  · exact J.head_chk h key
end PS
set_option maxHeartbeats 4000000 in
theorem siteplays_law (z f : Int) (l : List TOp) : ACall Tryz.prog 8 [iv z, iv f, .sl 7 (l.map TOp.row)] (bv true) := by
  refine ACall_enter (fun _ _ => by kernel_rfl) Tryz.func8 rfl Tryz.ntmps8 Tryz.results8 (Nat.le_of_ble_eq_true rfl) (fun hok M0 w0 hnl => ?_)
  have hlen := (hok (.sl 7 (l.map TOp.row)) (by simp)).len
  rw [List.length_map] at hlen
  have hrz : ∀ z, (J.ranges z).length ≤ 1000000 := fun z => Nat.le_trans (J.ranges_len z) (by decide)
  obtain ⟨hid, hw0, hw1⟩ := TOp.id6_le z
  have hw2 : Int.tmod (Int.tmod z 6 + 6) 6 = TOp.id6 z := rfl
  refine Aw_seq (Aw_region ?_)
  refine Al_p Pu_mvr ?_
  refine Al_nil (Aw_seq (Aw_region ?_))
  refine Al_p (Pu_call (tawake_a) rfl trivial) ?_
  refine Al_p Pu_mvr ?_
  refine Al_nil (Aw_seq (Aw_region ?_))
  refine Al_p Pu_mvl ?_
  refine Al_p (Pu_rem rfl rfl rfl (by omega) rfl) ?_
  refine Al_p (Pu_add rfl rfl rfl (fun h1 h2 => by simp only [A.inI, A.maxI] at *; omega)) ?_
  refine Al_p (Pu_rem rfl rfl rfl (by omega) rfl) ?_
  refine Al_p Pu_mvr ?_
  refine Al_nil (Aw_seq ?_)
  rw [hw2]
  refine Aw_region ?_
  refine Al_p Pu_mvl ?_
  refine Al_p Pu_mvl ?_
  refine Al_p (Pu_call (tranges_a f) rfl ⟨Sub.rfl, trivial⟩) ?_
  refine Al_gcallE [] [(1001, 42), (1002, 420), (1003, 421)] (stNew_g (TOp.id6 z) hid (J.ranges f) (hrz f)) rfl rfl rfl (by decide) (by kernel_rfl) trivial (fun _ => rfl) rfl rfl ⟨Sub.rfl, Sub.rfl, trivial⟩ ?_
  rintro b g42
  refine Al_p Pu_mvr ?_
  refine Al_nil (Aw_seq (Aw_seq (Aw_region ?_)))
  refine Al_p Pu_mvl ?_
  refine Al_p (Pu_eqnilb Tryz.underlying24 rfl rfl) ?_
  refine Al_nil ?_
  refine Aw_condF rfl (rfl) ?_
  refine Aw_skip (Aw_seq (Aw_region ?_))
  refine Al_p Pu_mvl ?_
  refine Al_p Pu_mvl ?_
  refine Al_p (Pu_call (tranges_a f) rfl ⟨Sub.rfl, trivial⟩) ?_
  refine Al_gcall [] [(1001, 48), (1002, 480), (1003, 481)] (rtNew_g (TOp.id6 z) (J.ranges f)) rfl rfl rfl (by decide) (by kernel_rfl) trivial rfl ⟨Sub.rfl, Sub.rfl, trivial⟩ (fun g48 => ?_)
  refine Al_p Pu_mvr ?_
  refine Al_nil (Aw_seq (Aw_seq (Aw_region ?_)))
  refine Al_p Pu_mvr ?_
  refine Al_nil (Aw_block ?_)
  refine Aw_loopk (ι := Nat × PS × Nat) [2, 7, 9, 10] [] (fun (k, p, g) => [(11, .d (iv k))]) (fun (k, p, g) => [(42, g42, .box 84 [.bx 420 g42 0, .d (iv p.id), .d (versA p.wait), .d (iv p.n), .d (iv p.s)]), (420, g42, .box 115 [.d (rngA p.rs), .ow 421 g42]), (421, g42, mapV b p.cs), (48, g48, .box 68 [.d (iv p.id), .bx 480 g48 0, .d (versA p.wait), .d (iv p.n), .d (iv p.s)]), (480, g48, .box 76 [.d (rngA p.rs), .ow 481 g]), (481, g, .arr 108 2 (p.cs.map chR))]) (fun (k, p, g) => k ≤ l.length ∧ k ≤ 40 ∧ p.Go k) (fun (k, p, g) => 40 - k) (0, PS.zero (TOp.id6 z) (J.ranges f), g48) (⟨Nat.zero_le _, Nat.zero_le _, PS.Go.zero hid (hrz f)⟩) ⟨Sub.rfl, trivial⟩ ⟨rfl, rfl, rfl, rfl, rfl, rfl, trivial⟩ ?_
  rintro ⟨k, p, g⟩ ⟨hk1, hk2, hp⟩
  refine Aw_seq (Aw_seq (Aw_region ?_))
  refine Al_p Pu_mvl ?_
  refine Al_p Pu_mvl ?_
  refine Al_p (Pu_len rfl Tryz.underlying22 rfl (by first | exact List.length_map .. | exact rfl)) ?_
  refine Al_p (Pu_cmp rfl rfl rfl rfl) ?_
  refine Al_p Pu_mvl ?_
  refine Al_st (St_gd [] rfl rfl rfl rfl trivial (fun hg54 => by exact Pu_move (.inl rfl) (by conv => lhs; whnf))) rfl (by decide) (by kernel_rfl) (by intro j b oj dj h1 h2 h3; cases h1; cases h2; cases h3; decide) ?_
  refine Al_st (St_gd [54] rfl rfl rfl rfl ⟨⟨_, rfl⟩, trivial⟩ (fun hg55 => Pu_cmp rfl rfl rfl rfl)) rfl (by decide) (by kernel_rfl) (by intro j b oj dj h1 h2 h3; cases h1; cases h2; cases h3; decide) ?_
  refine Al_p (Pu_and rfl rfl rfl rfl) ?_
  refine Al_nil ?_
  refine Aw_cond rfl (fun h56 => ?_) (fun h56 => ?_)
  · (try simp only [decide_eq_true_eq, Bool.and_eq_true] at h56)
    obtain ⟨ha, hb⟩ : k < l.length ∧ k < 40 := by omega
    obtain ⟨o, ho⟩ : ∃ o, o = l.getD k default := ⟨_, rfl⟩
    have hpl5 := o.past_len
    refine Aw_skip ?_
    -- join 0: live [2, 7, 9, 10, 11], turned []
    refine Aw_seq (Aw_block (Aw_seq (Aw_region ?_)))
    refine Al_p Pu_mvl ?_
    refine Al_p Pu_mvl ?_
    refine Al_p (Pu_index rfl Tryz.underlying22 Tryz.sizeOf36 rfl rfl (rfl) (mapgetD (d := default) ha)) ?_
    refine Al_p (Pu_loadN rfl Tryz.isAgg36 Tryz.sizeOf36 rfl (Nat.le_of_ble_eq_true rfl)) ?_
    refine Al_alloc rfl rfl rfl (by decide) Tryz.zeroValue36 rfl (by kernel_rfl) (fun g12 => ?_)
    refine Al_storeN rfl rfl rfl (by kernel_rfl) Tryz.isAgg36 Tryz.sizeOf36 rfl rfl rfl rfl (Nat.le_of_ble_eq_true rfl) ?_
    refine Al_nil (Aw_seq ?_)
    rw [← ho]
    refine Aw_region ?_
    refine Al_p (Pu_fieldb 1 rfl Tryz.underlying36 rfl rfl Tryz.sizeOf3 rfl) ?_
    refine Al_p (Pu_loadb rfl Tryz.isAgg3 rfl rfl rfl) ?_
    refine Al_p (Pu_call (tword_a o.key) rfl ⟨Sub.rfl, trivial⟩) ?_
    refine Al_p Pu_mvr ?_
    refine Al_nil (Aw_seq (Aw_region ?_))
    refine Al_p Pu_mvr ?_
    refine Al_nil ?_
    refine Aw_join (ι := PS × Nat) [2, 7, 9, 10, 11, 13] [] (fun (q, g') => [(14, .d (bv true))]) (fun (q, g') => [(42, g42, .box 84 [.bx 420 g42 0, .d (iv q.id), .d (versA q.wait), .d (iv q.n), .d (iv q.s)]), (420, g42, .box 115 [.d (rngA q.rs), .ow 421 g42]), (421, g42, mapV b q.cs), (48, g48, .box 68 [.d (iv q.id), .bx 480 g48 0, .d (versA q.wait), .d (iv q.n), .d (iv q.s)]), (480, g48, .box 76 [.d (rngA q.rs), .ow 481 g']), (481, g', .arr 108 2 (q.cs.map chR))]) (fun (q, g') => q.Go (k + 1)) ?_ ?_ -- join 1
    · refine Aw_seq (Aw_region ?_)
      refine Al_p (Pu_fieldb 0 rfl Tryz.underlying36 rfl rfl Tryz.sizeOf3 rfl) ?_
      refine Al_p (Pu_loadb rfl Tryz.isAgg3 rfl rfl rfl) ?_
      refine Al_p (Pu_int_and (r := J.andI o.kind 7) rfl rfl rfl rfl (fun _ => V.i64_ok _)) ?_
      refine Al_nil (Aw_block ?_)
      refine Aw_join (ι := Bool) [2, 7, 9, 10, 11, 12, 13, 14, 68] [42, 420, 421, 48, 480, 481, 12] (fun x => [(102, .d (bv x))]) (fun x => []) (fun x => True) ?_ ?_ -- join 2
      · refine Aw_seq (Aw_region ?_)
        refine Al_p (Pu_cmp rfl rfl rfl rfl) ?_
        refine Al_p Pu_mvr ?_
        refine Al_nil ?_
        refine Aw_cond rfl (fun h102 => ?_) (fun h102 => ?_)
        · (try simp only [decide_eq_true_eq, decide_eq_false_iff_not, List.length_map] at h102)
          refine Aw_skip ?_
          exact ⟨_, trivial, Le.ov ⟨Sub.rfl, trivial⟩ ⟨Sub.rfl, Sub.rfl, Sub.rfl, Sub.rfl, Sub.rfl, Sub.rfl, Sub.rfl, Sub.rfl, Sub.rfl, trivial⟩ trivial ⟨rfl, rfl, rfl, rfl, rfl, rfl, rfl, trivial⟩⟩ -- join 2 next.0
        · (try simp only [decide_eq_true_eq, decide_eq_false_iff_not, List.length_map] at h102)
          refine Aw_region ?_
          refine Al_p (Pu_cmp rfl rfl rfl rfl) ?_
          refine Al_p Pu_mvr ?_
          refine Al_nil ?_
          exact ⟨_, trivial, Le.ov ⟨Sub.rfl, trivial⟩ ⟨Sub.rfl, Sub.rfl, Sub.rfl, Sub.rfl, Sub.rfl, Sub.rfl, Sub.rfl, Sub.rfl, Sub.rfl, trivial⟩ trivial ⟨rfl, rfl, rfl, rfl, rfl, rfl, rfl, trivial⟩⟩ -- join 2 next.1
      · rintro x hj2
        refine Aw_cond rfl (fun h102 => ?_) (fun h102 => ?_)
        · (try simp only [decide_eq_true_eq, decide_eq_false_iff_not, List.length_map] at h102)
          refine Aw_drawn (by kernel_rfl) ?_
          refine Ad_take 0 rfl (PuI_move (.inl rfl) (by conv => lhs; whnf)) rfl rfl (by decide) (by kernel_rfl) (by kernel_rfl) (by kernel_rfl) (by kernel_rfl) (fun _ _ h => h) ?_
          refine Ad_take 4 rfl (PuI_move (.inl rfl) (by conv => lhs; whnf)) rfl rfl (by decide) (by kernel_rfl) (by kernel_rfl) (by kernel_rfl) (by kernel_rfl) (fun _ _ h => h) ?_
          refine Ad_two 1 5 rfl rfl (by kernel_rfl) ?_ ?_
          · refine Al_p (Pu_loadbN (r := [_, _, _, _, _, _, _]) rfl Tryz.isAgg36 Tryz.sizeOf36 rfl rfl rfl rfl) ?_
            refine Al_nil ?_
            refine Ad_two 2 5 rfl rfl (by kernel_rfl) ?_ ?_
            · refine Al_p (Pu_call (tversion_a o) rfl ⟨Sub.rfl, trivial⟩) ?_
              refine Al_nil ?_
              refine Ad_two 3 5 rfl rfl (by kernel_rfl) ?_ ?_
              · refine Al_gcall [(1001, 42, g42), (1002, 420, g42), (1003, 421, g42)] [] (stArrive_g p b o.ver hp.rk.ok (by omega)) rfl rfl rfl (by decide) (by kernel_rfl) ⟨rfl, rfl, rfl, trivial⟩ rfl ⟨Sub.rfl, Sub.rfl, trivial⟩ (fun g108 => ?_)
                refine Al_nil ?_
                refine Ad_one 5 rfl (by kernel_rfl) ?_
                refine Al_p (Pu_loadbN (r := [_, _, _, _, _, _, _]) rfl Tryz.isAgg36 Tryz.sizeOf36 rfl rfl rfl rfl) ?_
                refine Al_nil ?_
                refine Ad_one 6 rfl (by kernel_rfl) ?_
                refine Al_p (Pu_call (tversion_a o) rfl ⟨Sub.rfl, trivial⟩) ?_
                refine Al_nil ?_
                refine Ad_one 7 rfl (by kernel_rfl) ?_
                refine Al_gcall [(1001, 48, g48), (1002, 480, g48), (1003, 481, g)] [] (rtArrive_g p o.ver hp.rk (by omega)) rfl rfl rfl (by decide) (by kernel_rfl) ⟨rfl, rfl, rfl, trivial⟩ rfl ⟨Sub.rfl, Sub.rfl, trivial⟩ (fun g112 => ?_)
                refine Al_nil ?_
                refine Ad_one 8 rfl (by kernel_rfl) ?_
                refine Al_p (Pu_cmp rfl rfl rfl rfl) ?_
                refine Al_nil ?_
                refine Ad_take 9 rfl (PuI_move (.inr rfl) (by conv => lhs; whnf)) rfl rfl (by decide) (by kernel_rfl) (by kernel_rfl) (by kernel_rfl) (by kernel_rfl) (fun _ _ h => h) ?_
                refine Ad_done (by kernel_rfl) ?_
                first
                  | exact ⟨(p.write (J.word o.key) o.val o.gone o.pastP, g90), hp.write _ _ _ _, Le.ov ⟨Sub.bool (by simp), trivial⟩ ⟨Sub.rfl, Sub.rfl, Sub.rfl, Sub.rfl, Sub.rfl, Sub.rfl, trivial⟩ ⟨rfl, rfl, rfl, rfl, rfl, rfl, trivial⟩ trivial⟩
                  | exact ⟨(p.arrive o.ver, g), (hp.arrive _).mono (by omega), Le.ov ⟨Sub.bool (by simp), trivial⟩ ⟨Sub.rfl, Sub.rfl, Sub.rfl, Sub.rfl, Sub.rfl, Sub.rfl, trivial⟩ ⟨rfl, rfl, rfl, rfl, rfl, rfl, trivial⟩ trivial⟩
                  | exact ⟨(p.step, g124), hp.step, Le.ov ⟨Sub.bool (by simp), trivial⟩ ⟨Sub.rfl, Sub.rfl, Sub.rfl, Sub.rfl, Sub.rfl, Sub.rfl, trivial⟩ ⟨rfl, rfl, rfl, rfl, rfl, rfl, trivial⟩ trivial⟩
                  | exact ⟨(p.move (J.ranges o.n) [o.ver], g155), hp.move _ (hrz _) _, Le.ov ⟨Sub.rfl, trivial⟩ ⟨Sub.rfl, Sub.rfl, Sub.rfl, Sub.rfl, Sub.rfl, Sub.rfl, trivial⟩ ⟨rfl, rfl, rfl, rfl, rfl, rfl, trivial⟩ trivial⟩
                  | exact ⟨(p.clean o.n 0 o.pastP, g), (hp.clean _ _ _).mono (by omega), Le.ov ⟨Sub.rfl, trivial⟩ ⟨Sub.rfl, Sub.rfl, Sub.rfl, Sub.rfl, Sub.rfl, Sub.rfl, trivial⟩ ⟨rfl, rfl, rfl, rfl, rfl, rfl, trivial⟩ trivial⟩ -- join 1 next.0
              · refine Al_p (Pu_loadbN (r := [_, _, _, _, _, _, _]) rfl Tryz.isAgg36 Tryz.sizeOf36 rfl rfl rfl rfl) ?_
                refine Al_nil ?_
                refine Ad_one 3 rfl (by kernel_rfl) ?_
                refine Al_gcall [(1001, 42, g42), (1002, 420, g42), (1003, 421, g42)] [] (stArrive_g p b o.ver hp.rk.ok (by omega)) rfl rfl rfl (by decide) (by kernel_rfl) ⟨rfl, rfl, rfl, trivial⟩ rfl ⟨Sub.rfl, Sub.rfl, trivial⟩ (fun g108 => ?_)
                refine Al_nil ?_
                refine Ad_one 6 rfl (by kernel_rfl) ?_
                refine Al_p (Pu_call (tversion_a o) rfl ⟨Sub.rfl, trivial⟩) ?_
                refine Al_nil ?_
                refine Ad_one 7 rfl (by kernel_rfl) ?_
                refine Al_gcall [(1001, 48, g48), (1002, 480, g48), (1003, 481, g)] [] (rtArrive_g p o.ver hp.rk (by omega)) rfl rfl rfl (by decide) (by kernel_rfl) ⟨rfl, rfl, rfl, trivial⟩ rfl ⟨Sub.rfl, Sub.rfl, trivial⟩ (fun g112 => ?_)
                refine Al_nil ?_
                refine Ad_one 8 rfl (by kernel_rfl) ?_
                refine Al_p (Pu_cmp rfl rfl rfl rfl) ?_
                refine Al_nil ?_
                refine Ad_take 9 rfl (PuI_move (.inr rfl) (by conv => lhs; whnf)) rfl rfl (by decide) (by kernel_rfl) (by kernel_rfl) (by kernel_rfl) (by kernel_rfl) (fun _ _ h => h) ?_
                refine Ad_done (by kernel_rfl) ?_
                first
                  | exact ⟨(p.write (J.word o.key) o.val o.gone o.pastP, g90), hp.write _ _ _ _, Le.ov ⟨Sub.bool (by simp), trivial⟩ ⟨Sub.rfl, Sub.rfl, Sub.rfl, Sub.rfl, Sub.rfl, Sub.rfl, trivial⟩ ⟨rfl, rfl, rfl, rfl, rfl, rfl, trivial⟩ trivial⟩
                  | exact ⟨(p.arrive o.ver, g), (hp.arrive _).mono (by omega), Le.ov ⟨Sub.bool (by simp), trivial⟩ ⟨Sub.rfl, Sub.rfl, Sub.rfl, Sub.rfl, Sub.rfl, Sub.rfl, trivial⟩ ⟨rfl, rfl, rfl, rfl, rfl, rfl, trivial⟩ trivial⟩
                  | exact ⟨(p.step, g124), hp.step, Le.ov ⟨Sub.bool (by simp), trivial⟩ ⟨Sub.rfl, Sub.rfl, Sub.rfl, Sub.rfl, Sub.rfl, Sub.rfl, trivial⟩ ⟨rfl, rfl, rfl, rfl, rfl, rfl, trivial⟩ trivial⟩
                  | exact ⟨(p.move (J.ranges o.n) [o.ver], g155), hp.move _ (hrz _) _, Le.ov ⟨Sub.rfl, trivial⟩ ⟨Sub.rfl, Sub.rfl, Sub.rfl, Sub.rfl, Sub.rfl, Sub.rfl, trivial⟩ ⟨rfl, rfl, rfl, rfl, rfl, rfl, trivial⟩ trivial⟩
                  | exact ⟨(p.clean o.n 0 o.pastP, g), (hp.clean _ _ _).mono (by omega), Le.ov ⟨Sub.rfl, trivial⟩ ⟨Sub.rfl, Sub.rfl, Sub.rfl, Sub.rfl, Sub.rfl, Sub.rfl, trivial⟩ ⟨rfl, rfl, rfl, rfl, rfl, rfl, trivial⟩ trivial⟩ -- join 1 next.1
            · refine Al_p (Pu_loadbN (r := [_, _, _, _, _, _, _]) rfl Tryz.isAgg36 Tryz.sizeOf36 rfl rfl rfl rfl) ?_
              refine Al_nil ?_
              refine Ad_one 2 rfl (by kernel_rfl) ?_
              refine Al_p (Pu_call (tversion_a o) rfl ⟨Sub.rfl, trivial⟩) ?_
              refine Al_nil ?_
              refine Ad_one 3 rfl (by kernel_rfl) ?_
              refine Al_gcall [(1001, 42, g42), (1002, 420, g42), (1003, 421, g42)] [] (stArrive_g p b o.ver hp.rk.ok (by omega)) rfl rfl rfl (by decide) (by kernel_rfl) ⟨rfl, rfl, rfl, trivial⟩ rfl ⟨Sub.rfl, Sub.rfl, trivial⟩ (fun g108 => ?_)
              refine Al_nil ?_
              refine Ad_one 6 rfl (by kernel_rfl) ?_
              refine Al_p (Pu_call (tversion_a o) rfl ⟨Sub.rfl, trivial⟩) ?_
              refine Al_nil ?_
              refine Ad_one 7 rfl (by kernel_rfl) ?_
              refine Al_gcall [(1001, 48, g48), (1002, 480, g48), (1003, 481, g)] [] (rtArrive_g p o.ver hp.rk (by omega)) rfl rfl rfl (by decide) (by kernel_rfl) ⟨rfl, rfl, rfl, trivial⟩ rfl ⟨Sub.rfl, Sub.rfl, trivial⟩ (fun g112 => ?_)
              refine Al_nil ?_
              refine Ad_one 8 rfl (by kernel_rfl) ?_
              refine Al_p (Pu_cmp rfl rfl rfl rfl) ?_
              refine Al_nil ?_
              refine Ad_take 9 rfl (PuI_move (.inr rfl) (by conv => lhs; whnf)) rfl rfl (by decide) (by kernel_rfl) (by kernel_rfl) (by kernel_rfl) (by kernel_rfl) (fun _ _ h => h) ?_
              refine Ad_done (by kernel_rfl) ?_
              first
                | exact ⟨(p.write (J.word o.key) o.val o.gone o.pastP, g90), hp.write _ _ _ _, Le.ov ⟨Sub.bool (by simp), trivial⟩ ⟨Sub.rfl, Sub.rfl, Sub.rfl, Sub.rfl, Sub.rfl, Sub.rfl, trivial⟩ ⟨rfl, rfl, rfl, rfl, rfl, rfl, trivial⟩ trivial⟩
                | exact ⟨(p.arrive o.ver, g), (hp.arrive _).mono (by omega), Le.ov ⟨Sub.bool (by simp), trivial⟩ ⟨Sub.rfl, Sub.rfl, Sub.rfl, Sub.rfl, Sub.rfl, Sub.rfl, trivial⟩ ⟨rfl, rfl, rfl, rfl, rfl, rfl, trivial⟩ trivial⟩
                | exact ⟨(p.step, g124), hp.step, Le.ov ⟨Sub.bool (by simp), trivial⟩ ⟨Sub.rfl, Sub.rfl, Sub.rfl, Sub.rfl, Sub.rfl, Sub.rfl, trivial⟩ ⟨rfl, rfl, rfl, rfl, rfl, rfl, trivial⟩ trivial⟩
                | exact ⟨(p.move (J.ranges o.n) [o.ver], g155), hp.move _ (hrz _) _, Le.ov ⟨Sub.rfl, trivial⟩ ⟨Sub.rfl, Sub.rfl, Sub.rfl, Sub.rfl, Sub.rfl, Sub.rfl, trivial⟩ ⟨rfl, rfl, rfl, rfl, rfl, rfl, trivial⟩ trivial⟩
                | exact ⟨(p.clean o.n 0 o.pastP, g), (hp.clean _ _ _).mono (by omega), Le.ov ⟨Sub.rfl, trivial⟩ ⟨Sub.rfl, Sub.rfl, Sub.rfl, Sub.rfl, Sub.rfl, Sub.rfl, trivial⟩ ⟨rfl, rfl, rfl, rfl, rfl, rfl, trivial⟩ trivial⟩ -- join 1 next.2
          · refine Al_p (Pu_loadbN (r := [_, _, _, _, _, _, _]) rfl Tryz.isAgg36 Tryz.sizeOf36 rfl rfl rfl rfl) ?_
            refine Al_nil ?_
            refine Ad_one 1 rfl (by kernel_rfl) ?_
            refine Al_p (Pu_loadbN (r := [_, _, _, _, _, _, _]) rfl Tryz.isAgg36 Tryz.sizeOf36 rfl rfl rfl rfl) ?_
            refine Al_nil ?_
            refine Ad_one 2 rfl (by kernel_rfl) ?_
            refine Al_p (Pu_call (tversion_a o) rfl ⟨Sub.rfl, trivial⟩) ?_
            refine Al_nil ?_
            refine Ad_one 3 rfl (by kernel_rfl) ?_
            refine Al_gcall [(1001, 42, g42), (1002, 420, g42), (1003, 421, g42)] [] (stArrive_g p b o.ver hp.rk.ok (by omega)) rfl rfl rfl (by decide) (by kernel_rfl) ⟨rfl, rfl, rfl, trivial⟩ rfl ⟨Sub.rfl, Sub.rfl, trivial⟩ (fun g108 => ?_)
            refine Al_nil ?_
            refine Ad_one 6 rfl (by kernel_rfl) ?_
            refine Al_p (Pu_call (tversion_a o) rfl ⟨Sub.rfl, trivial⟩) ?_
            refine Al_nil ?_
            refine Ad_one 7 rfl (by kernel_rfl) ?_
            refine Al_gcall [(1001, 48, g48), (1002, 480, g48), (1003, 481, g)] [] (rtArrive_g p o.ver hp.rk (by omega)) rfl rfl rfl (by decide) (by kernel_rfl) ⟨rfl, rfl, rfl, trivial⟩ rfl ⟨Sub.rfl, Sub.rfl, trivial⟩ (fun g112 => ?_)
            refine Al_nil ?_
            refine Ad_one 8 rfl (by kernel_rfl) ?_
            refine Al_p (Pu_cmp rfl rfl rfl rfl) ?_
            refine Al_nil ?_
            refine Ad_take 9 rfl (PuI_move (.inr rfl) (by conv => lhs; whnf)) rfl rfl (by decide) (by kernel_rfl) (by kernel_rfl) (by kernel_rfl) (by kernel_rfl) (fun _ _ h => h) ?_
            refine Ad_done (by kernel_rfl) ?_
            first
              | exact ⟨(p.write (J.word o.key) o.val o.gone o.pastP, g90), hp.write _ _ _ _, Le.ov ⟨Sub.bool (by simp), trivial⟩ ⟨Sub.rfl, Sub.rfl, Sub.rfl, Sub.rfl, Sub.rfl, Sub.rfl, trivial⟩ ⟨rfl, rfl, rfl, rfl, rfl, rfl, trivial⟩ trivial⟩
              | exact ⟨(p.arrive o.ver, g), (hp.arrive _).mono (by omega), Le.ov ⟨Sub.bool (by simp), trivial⟩ ⟨Sub.rfl, Sub.rfl, Sub.rfl, Sub.rfl, Sub.rfl, Sub.rfl, trivial⟩ ⟨rfl, rfl, rfl, rfl, rfl, rfl, trivial⟩ trivial⟩
              | exact ⟨(p.step, g124), hp.step, Le.ov ⟨Sub.bool (by simp), trivial⟩ ⟨Sub.rfl, Sub.rfl, Sub.rfl, Sub.rfl, Sub.rfl, Sub.rfl, trivial⟩ ⟨rfl, rfl, rfl, rfl, rfl, rfl, trivial⟩ trivial⟩
              | exact ⟨(p.move (J.ranges o.n) [o.ver], g155), hp.move _ (hrz _) _, Le.ov ⟨Sub.rfl, trivial⟩ ⟨Sub.rfl, Sub.rfl, Sub.rfl, Sub.rfl, Sub.rfl, Sub.rfl, trivial⟩ ⟨rfl, rfl, rfl, rfl, rfl, rfl, trivial⟩ trivial⟩
              | exact ⟨(p.clean o.n 0 o.pastP, g), (hp.clean _ _ _).mono (by omega), Le.ov ⟨Sub.rfl, trivial⟩ ⟨Sub.rfl, Sub.rfl, Sub.rfl, Sub.rfl, Sub.rfl, Sub.rfl, trivial⟩ ⟨rfl, rfl, rfl, rfl, rfl, rfl, trivial⟩ trivial⟩ -- join 1 next.3
        · (try simp only [decide_eq_true_eq, decide_eq_false_iff_not, List.length_map] at h102)
          refine Aw_join (ι := Bool) [2, 7, 9, 10, 11, 12, 13, 14, 68] [42, 420, 421, 48, 480, 481, 12] (fun y => [(114, .d (bv y))]) (fun y => []) (fun y => True) ?_ ?_ -- join 3
          · refine Aw_seq (Aw_region ?_)
            refine Al_p (Pu_cmp rfl rfl rfl rfl) ?_
            refine Al_p Pu_mvr ?_
            refine Al_nil ?_
            refine Aw_cond rfl (fun h114 => ?_) (fun h114 => ?_)
            · (try simp only [decide_eq_true_eq, decide_eq_false_iff_not, List.length_map] at h114)
              refine Aw_skip ?_
              exact ⟨_, trivial, Le.ov ⟨Sub.rfl, trivial⟩ ⟨Sub.rfl, Sub.rfl, Sub.rfl, Sub.rfl, Sub.rfl, Sub.rfl, Sub.rfl, Sub.rfl, Sub.rfl, trivial⟩ trivial ⟨rfl, rfl, rfl, rfl, rfl, rfl, rfl, trivial⟩⟩ -- join 3 next.0
            · (try simp only [decide_eq_true_eq, decide_eq_false_iff_not, List.length_map] at h114)
              refine Aw_region ?_
              refine Al_p (Pu_cmp rfl rfl rfl rfl) ?_
              refine Al_p Pu_mvr ?_
              refine Al_nil ?_
              exact ⟨_, trivial, Le.ov ⟨Sub.rfl, trivial⟩ ⟨Sub.rfl, Sub.rfl, Sub.rfl, Sub.rfl, Sub.rfl, Sub.rfl, Sub.rfl, Sub.rfl, Sub.rfl, trivial⟩ trivial ⟨rfl, rfl, rfl, rfl, rfl, rfl, rfl, trivial⟩⟩ -- join 3 next.1
          · rintro y hj3
            refine Aw_cond rfl (fun h114 => ?_) (fun h114 => ?_)
            · (try simp only [decide_eq_true_eq, decide_eq_false_iff_not, List.length_map] at h114)
              refine Aw_seq (Aw_region ?_)
              refine Al_p Pu_mvl ?_
              refine Al_gcall [(1001, 42, g42), (1002, 420, g42), (1003, 421, g42)] [] (stStep_g p b hp.rk.ok (by omega)) rfl rfl rfl (by decide) (by kernel_rfl) ⟨rfl, rfl, rfl, trivial⟩ rfl ⟨Sub.rfl, trivial⟩ (fun g119 => ?_)
              refine Al_p Pu_mvl ?_
              refine Al_p (Pu_extract rfl rfl rfl) ?_
              refine Al_p (Pu_extract rfl rfl rfl) ?_
              refine Al_alloc rfl rfl rfl (by decide) Tryz.zeroValue34 rfl (by kernel_rfl) (fun g15 => ?_)
              refine Al_storeN rfl rfl rfl (by kernel_rfl) Tryz.isAgg34 Tryz.sizeOf34 rfl rfl rfl rfl (Nat.le_of_ble_eq_true rfl) ?_
              refine Al_p Pu_mvr ?_
              refine Al_nil (Aw_seq (Aw_region ?_))
              refine Al_p Pu_mvl ?_
              refine Al_gcall [(1001, 48, g48), (1002, 480, g48), (1003, 481, g)] [(1004, 481)] (rtStep_g p hp.rk (by omega)) rfl rfl rfl (by decide) (by kernel_rfl) ⟨rfl, rfl, rfl, trivial⟩ rfl ⟨Sub.rfl, trivial⟩ (fun g124 => ?_)
              refine Al_p Pu_mvl ?_
              refine Al_p (Pu_extract rfl rfl rfl) ?_
              refine Al_p (Pu_extract rfl rfl rfl) ?_
              refine Al_alloc rfl rfl rfl (by decide) Tryz.zeroValue34 rfl (by kernel_rfl) (fun g17 => ?_)
              refine Al_storeN rfl rfl rfl (by kernel_rfl) Tryz.isAgg34 Tryz.sizeOf34 rfl rfl rfl rfl (Nat.le_of_ble_eq_true rfl) ?_
              refine Al_p Pu_mvr ?_
              refine Al_nil (Aw_seq (Aw_region ?_))
              refine Al_p (Pu_loadbN (r := [_, _, _, _, _, _]) rfl Tryz.isAgg34 Tryz.sizeOf34 rfl rfl rfl rfl) ?_
              refine Al_p (Pu_loadbN (r := [_, _, _, _, _, _]) rfl Tryz.isAgg34 Tryz.sizeOf34 rfl rfl rfl rfl) ?_
              refine Al_p (Pu_call (rvsame_a (p.stepV.getD default) (p.stepV.getD default)) rfl ⟨Sub.rfl, Sub.rfl, trivial⟩) ?_
              refine Al_p Pu_mvr ?_
              refine Al_nil (Aw_region ?_)
              refine Al_p Pu_mvl ?_
              refine Al_p Pu_mvl ?_
              refine Al_st (St_gd [] rfl rfl rfl rfl trivial (fun hg132 => by exact Pu_move (.inl rfl) (by conv => lhs; whnf))) rfl (by decide) (by kernel_rfl) (by intro j b oj dj h1 h2 h3; cases h1; cases h2; cases h3; decide) ?_
              refine Al_st (St_gd [] rfl rfl rfl rfl trivial (fun hg133 => by exact Pu_move (.inl rfl) (by conv => lhs; whnf))) rfl (by decide) (by kernel_rfl) (by intro j b oj dj h1 h2 h3; cases h1; cases h2; cases h3; decide) ?_
              refine Al_st (St_gd [132, 133] rfl rfl rfl rfl ⟨⟨_, rfl⟩, ⟨_, rfl⟩, trivial⟩ (fun hg134 => Pu_bool rfl Tryz.underlying4 rfl rfl rfl)) rfl (by decide) (by kernel_rfl) (by intro j b oj dj h1 h2 h3; cases h1; cases h2; cases h3; decide) ?_
              refine Al_p (Pu_and rfl rfl rfl rfl) ?_
              refine Al_p Pu_mvr ?_
              refine Al_nil ?_
              first
                | exact ⟨(p.write (J.word o.key) o.val o.gone o.pastP, g90), hp.write _ _ _ _, Le.ov ⟨Sub.bool (by simp), trivial⟩ ⟨Sub.rfl, Sub.rfl, Sub.rfl, Sub.rfl, Sub.rfl, Sub.rfl, trivial⟩ ⟨rfl, rfl, rfl, rfl, rfl, rfl, trivial⟩ trivial⟩
                | exact ⟨(p.arrive o.ver, g), (hp.arrive _).mono (by omega), Le.ov ⟨Sub.bool (by simp), trivial⟩ ⟨Sub.rfl, Sub.rfl, Sub.rfl, Sub.rfl, Sub.rfl, Sub.rfl, trivial⟩ ⟨rfl, rfl, rfl, rfl, rfl, rfl, trivial⟩ trivial⟩
                | exact ⟨(p.step, g124), hp.step, Le.ov ⟨Sub.bool (by simp), trivial⟩ ⟨Sub.rfl, Sub.rfl, Sub.rfl, Sub.rfl, Sub.rfl, Sub.rfl, trivial⟩ ⟨rfl, rfl, rfl, rfl, rfl, rfl, trivial⟩ trivial⟩
                | exact ⟨(p.move (J.ranges o.n) [o.ver], g155), hp.move _ (hrz _) _, Le.ov ⟨Sub.rfl, trivial⟩ ⟨Sub.rfl, Sub.rfl, Sub.rfl, Sub.rfl, Sub.rfl, Sub.rfl, trivial⟩ ⟨rfl, rfl, rfl, rfl, rfl, rfl, trivial⟩ trivial⟩
                | exact ⟨(p.clean o.n 0 o.pastP, g), (hp.clean _ _ _).mono (by omega), Le.ov ⟨Sub.rfl, trivial⟩ ⟨Sub.rfl, Sub.rfl, Sub.rfl, Sub.rfl, Sub.rfl, Sub.rfl, trivial⟩ ⟨rfl, rfl, rfl, rfl, rfl, rfl, trivial⟩ trivial⟩ -- join 1 next.4
            · (try simp only [decide_eq_true_eq, decide_eq_false_iff_not, List.length_map] at h114)
              refine Aw_seq (Aw_region ?_)
              refine Al_p (Pu_cmp rfl rfl rfl rfl) ?_
              refine Al_p Pu_mvr ?_
              refine Al_nil ?_
              refine Aw_cond rfl (fun h136 => ?_) (fun h136 => ?_)
              · (try simp only [decide_eq_true_eq, decide_eq_false_iff_not, List.length_map] at h136)
                refine Aw_seq (Aw_region ?_)
                refine Al_p (Pu_fieldb 4 rfl Tryz.underlying36 rfl rfl Tryz.sizeOf4 rfl) ?_
                refine Al_p (Pu_loadb rfl Tryz.isAgg4 rfl rfl rfl) ?_
                refine Al_nil ?_
                refine Aw_cond rfl (fun h139 => ?_) (fun h139 => ?_)
                · (try simp only [decide_eq_true_eq, decide_eq_false_iff_not, List.length_map] at h139)
                  refine Aw_seq ?_
                  refine Aw_draw 7 (by kernel_rfl) (by kernel_rfl) ?_
                  refine Dr_p Pu_mvl ?_
                  refine Dr_p (Pu_fieldb 2 rfl Tryz.underlying36 rfl rfl Tryz.sizeOf3 rfl) ?_
                  refine Dr_p (Pu_loadb rfl Tryz.isAgg3 rfl rfl rfl) ?_
                  refine Dr_p (Pu_call (tranges_a o.n) rfl ⟨Sub.rfl, trivial⟩) ?_
                  refine Dr_p (Pu_loadbN (r := [_, _, _, _, _, _, _]) rfl Tryz.isAgg36 Tryz.sizeOf36 rfl rfl rfl rfl) ?_
                  refine Dr_p (Pu_call (tversion_a o) rfl ⟨Sub.rfl, trivial⟩) ?_
                  refine Dr_p (Pu_slice1 rfl Tryz.underlying65 Tryz.sizeOf34 Tryz.zeroValue34 rfl (by decide) (by decide) (by kernel_rfl) rfl rfl rfl) ?_
                  refine Dr_nil ?_
                  refine Al_gcall [(1001, 42, g42), (1002, 420, g42), (1003, 421, g42)] [] (stMove_g p b (J.ranges o.n) (hrz _) [o.ver] hp.rk.ok (by simp; omega)) rfl rfl rfl (by decide) (by kernel_rfl) ⟨rfl, rfl, rfl, trivial⟩ rfl ⟨Sub.rfl, Sub.rfl, Sub.rfl, trivial⟩ (fun g147 => ?_)
                  refine Al_nil ?_
                  refine Aw_draw 7 (by kernel_rfl) (by kernel_rfl) ?_
                  refine Dr_p Pu_mvl ?_
                  refine Dr_p (Pu_fieldb 2 rfl Tryz.underlying36 rfl rfl Tryz.sizeOf3 rfl) ?_
                  refine Dr_p (Pu_loadb rfl Tryz.isAgg3 rfl rfl rfl) ?_
                  refine Dr_p (Pu_call (tranges_a o.n) rfl ⟨Sub.rfl, trivial⟩) ?_
                  refine Dr_p (Pu_loadbN (r := [_, _, _, _, _, _, _]) rfl Tryz.isAgg36 Tryz.sizeOf36 rfl rfl rfl rfl) ?_
                  refine Dr_p (Pu_call (tversion_a o) rfl ⟨Sub.rfl, trivial⟩) ?_
                  refine Dr_p (Pu_slice1 rfl Tryz.underlying65 Tryz.sizeOf34 Tryz.zeroValue34 rfl (by decide) (by decide) (by kernel_rfl) rfl rfl rfl) ?_
                  refine Dr_nil ?_
                  refine Al_gcall [(1001, 48, g48), (1002, 480, g48), (1003, 481, g)] [(1004, 481)] (rtMove_g p (J.ranges o.n) (hrz _) [o.ver] hp.rk (by simp; omega) (fun k => (hp.mvK (J.ranges o.n) [o.ver] k).1)) rfl rfl rfl (by decide) (by kernel_rfl) ⟨rfl, rfl, rfl, trivial⟩ rfl ⟨Sub.rfl, Sub.rfl, Sub.rfl, trivial⟩ (fun g155 => ?_)
                  refine Al_nil ?_
                  first
                    | exact ⟨(p.write (J.word o.key) o.val o.gone o.pastP, g90), hp.write _ _ _ _, Le.ov ⟨Sub.bool (by simp), trivial⟩ ⟨Sub.rfl, Sub.rfl, Sub.rfl, Sub.rfl, Sub.rfl, Sub.rfl, trivial⟩ ⟨rfl, rfl, rfl, rfl, rfl, rfl, trivial⟩ trivial⟩
                    | exact ⟨(p.arrive o.ver, g), (hp.arrive _).mono (by omega), Le.ov ⟨Sub.bool (by simp), trivial⟩ ⟨Sub.rfl, Sub.rfl, Sub.rfl, Sub.rfl, Sub.rfl, Sub.rfl, trivial⟩ ⟨rfl, rfl, rfl, rfl, rfl, rfl, trivial⟩ trivial⟩
                    | exact ⟨(p.step, g124), hp.step, Le.ov ⟨Sub.bool (by simp), trivial⟩ ⟨Sub.rfl, Sub.rfl, Sub.rfl, Sub.rfl, Sub.rfl, Sub.rfl, trivial⟩ ⟨rfl, rfl, rfl, rfl, rfl, rfl, trivial⟩ trivial⟩
                    | exact ⟨(p.move (J.ranges o.n) [o.ver], g155), hp.move _ (hrz _) _, Le.ov ⟨Sub.rfl, trivial⟩ ⟨Sub.rfl, Sub.rfl, Sub.rfl, Sub.rfl, Sub.rfl, Sub.rfl, trivial⟩ ⟨rfl, rfl, rfl, rfl, rfl, rfl, trivial⟩ trivial⟩
                    | exact ⟨(p.clean o.n 0 o.pastP, g), (hp.clean _ _ _).mono (by omega), Le.ov ⟨Sub.rfl, trivial⟩ ⟨Sub.rfl, Sub.rfl, Sub.rfl, Sub.rfl, Sub.rfl, Sub.rfl, trivial⟩ ⟨rfl, rfl, rfl, rfl, rfl, rfl, trivial⟩ trivial⟩ -- join 1 next.5
                · (try simp only [decide_eq_true_eq, decide_eq_false_iff_not, List.length_map] at h139)
                  refine Aw_seq ?_
                  refine Aw_draw 6 (by kernel_rfl) (by kernel_rfl) ?_
                  refine Dr_p Pu_mvl ?_
                  refine Dr_p (Pu_fieldb 2 rfl Tryz.underlying36 rfl rfl Tryz.sizeOf3 rfl) ?_
                  refine Dr_p (Pu_loadb rfl Tryz.isAgg3 rfl rfl rfl) ?_
                  refine Dr_p (Pu_build (aa := [(0, _)]) rfl Tryz.underlying31 Tryz.zeroValue31 (places31 Tryz.underlying31) (by kernel_rfl) ⟨rfl, rfl, rfl, trivial⟩ rfl) ?_
                  refine Dr_p (Pu_loadbN (r := [_, _, _, _, _, _, _]) rfl Tryz.isAgg36 Tryz.sizeOf36 rfl rfl rfl rfl) ?_
                  refine Dr_p (Pu_call (tpast_a o) rfl ⟨Sub.rfl, trivial⟩) ?_
                  refine Dr_nil ?_
                  refine Al_gcall [(1001, 42, g42), (1002, 420, g42), (1003, 421, g42)] [] (stClean_g p b o.n 0 o.pastP (by omega) hp.rk.ok (by omega)) rfl rfl rfl (by decide) (by kernel_rfl) ⟨rfl, rfl, rfl, trivial⟩ rfl ⟨Sub.rfl, Sub.rfl, Sub.rfl, trivial⟩ (fun g162 => ?_)
                  refine Al_nil ?_
                  refine Aw_draw 9 (by kernel_rfl) (by kernel_rfl) ?_
                  refine Dr_p Pu_mvl ?_
                  refine Dr_p (Pu_nilb rfl rfl) ?_
                  refine Dr_p (Pu_fieldb 1 rfl Tryz.underlying68 rfl rfl Tryz.sizeOf66 rfl) ?_
                  refine Dr_p (Pu_loadb rfl Tryz.isAgg66 rfl rfl rfl) ?_
                  refine Dr_p (Pu_fieldb 2 rfl Tryz.underlying36 rfl rfl Tryz.sizeOf3 rfl) ?_
                  refine Dr_p (Pu_loadb rfl Tryz.isAgg3 rfl rfl rfl) ?_
                  refine Dr_p (Pu_build (aa := [(0, _)]) rfl Tryz.underlying31 Tryz.zeroValue31 (places31 Tryz.underlying31) (by kernel_rfl) ⟨rfl, rfl, rfl, trivial⟩ rfl) ?_
                  refine Dr_p (Pu_loadbN (r := [_, _, _, _, _, _, _]) rfl Tryz.isAgg36 Tryz.sizeOf36 rfl rfl rfl rfl) ?_
                  refine Dr_p (Pu_call (tpast_a o) rfl ⟨Sub.rfl, trivial⟩) ?_
                  refine Dr_nil ?_
                  refine Al_gcall [(1001, 480, g48), (1002, 481, g)] [] (rclean13_g p.rs p.cs o.n 0 o.pastP (by omega) (hp.rk.ok.sm.mono (by omega)) hp.rk.ch) rfl rfl rfl (by decide) (by kernel_rfl) ⟨rfl, rfl, trivial⟩ rfl ⟨Sub.rfl, Sub.rfl, Sub.rfl, trivial⟩ (fun g172 => ?_)
                  refine Al_nil ?_
                  first
                    | exact ⟨(p.write (J.word o.key) o.val o.gone o.pastP, g90), hp.write _ _ _ _, Le.ov ⟨Sub.bool (by simp), trivial⟩ ⟨Sub.rfl, Sub.rfl, Sub.rfl, Sub.rfl, Sub.rfl, Sub.rfl, trivial⟩ ⟨rfl, rfl, rfl, rfl, rfl, rfl, trivial⟩ trivial⟩
                    | exact ⟨(p.arrive o.ver, g), (hp.arrive _).mono (by omega), Le.ov ⟨Sub.bool (by simp), trivial⟩ ⟨Sub.rfl, Sub.rfl, Sub.rfl, Sub.rfl, Sub.rfl, Sub.rfl, trivial⟩ ⟨rfl, rfl, rfl, rfl, rfl, rfl, trivial⟩ trivial⟩
                    | exact ⟨(p.step, g124), hp.step, Le.ov ⟨Sub.bool (by simp), trivial⟩ ⟨Sub.rfl, Sub.rfl, Sub.rfl, Sub.rfl, Sub.rfl, Sub.rfl, trivial⟩ ⟨rfl, rfl, rfl, rfl, rfl, rfl, trivial⟩ trivial⟩
                    | exact ⟨(p.move (J.ranges o.n) [o.ver], g155), hp.move _ (hrz _) _, Le.ov ⟨Sub.rfl, trivial⟩ ⟨Sub.rfl, Sub.rfl, Sub.rfl, Sub.rfl, Sub.rfl, Sub.rfl, trivial⟩ ⟨rfl, rfl, rfl, rfl, rfl, rfl, trivial⟩ trivial⟩
                    | exact ⟨(p.clean o.n 0 o.pastP, g), (hp.clean _ _ _).mono (by omega), Le.ov ⟨Sub.rfl, trivial⟩ ⟨Sub.rfl, Sub.rfl, Sub.rfl, Sub.rfl, Sub.rfl, Sub.rfl, trivial⟩ ⟨rfl, rfl, rfl, rfl, rfl, rfl, trivial⟩ trivial⟩ -- join 1 next.6
              · (try simp only [decide_eq_true_eq, decide_eq_false_iff_not, List.length_map] at h136)
                -- join 4: live [2, 7, 9, 10, 11, 12, 13, 20, 21], turned [20, 21]
                refine Aw_seq ?_
                refine Aw_drawPA 8 12 6 (by kernel_rfl) (by kernel_rfl) rfl (by decide) rfl rfl rfl rfl (by decide) Tryz.zeroValue34 rfl (by kernel_rfl) rfl ?_
                refine Dr_p Pu_mvl ?_
                refine Dr_p Pu_mvl ?_
                refine Dr_p (Pu_loadbN (r := [_, _, _, _, _, _, _]) rfl Tryz.isAgg36 Tryz.sizeOf36 rfl rfl rfl rfl) ?_
                refine Dr_p (Pu_call (tvalue_a o) rfl ⟨Sub.rfl, trivial⟩) ?_
                refine Dr_p (Pu_fieldb 4 rfl Tryz.underlying36 rfl rfl Tryz.sizeOf4 rfl) ?_
                refine Dr_p (Pu_loadb rfl Tryz.isAgg4 rfl rfl rfl) ?_
                refine Dr_p (Pu_loadbN (r := [_, _, _, _, _, _, _]) rfl Tryz.isAgg36 Tryz.sizeOf36 rfl rfl rfl rfl) ?_
                refine Dr_p (Pu_call (tpast_a o) rfl ⟨Sub.rfl, trivial⟩) ?_
                refine Dr_nil ⟨?_, fun g20 => ?_⟩
                · refine Ad_two 8 12 rfl rfl (by kernel_rfl) ?_ ?_
                  · refine Al_gcall [(1001, 42, g42), (1002, 420, g42), (1003, 421, g42)] [] (stWrite_g p b (J.word o.key) o.val o.gone o.pastP (by omega) hp.rk.ok (by omega)) rfl rfl rfl (by decide) (by kernel_rfl) ⟨rfl, rfl, rfl, trivial⟩ rfl ⟨Sub.rfl, Sub.rfl, Sub.rfl, Sub.rfl, Sub.rfl, trivial⟩ (fun g78 => ?_)
                    refine Al_nil ?_
                    refine Ad_take 9 rfl (PuI_move (.inl rfl) (by conv => lhs; whnf)) rfl rfl (by decide) (by kernel_rfl) (by kernel_rfl) (by kernel_rfl) (by kernel_rfl) (fun _ _ h => h) ?_
                    refine Ad_take 10 rfl (PuI_extract rfl rfl rfl) rfl rfl (by decide) (by kernel_rfl) (by kernel_rfl) (by kernel_rfl) (by kernel_rfl) (fun _ _ h => h) ?_
                    refine Ad_take 11 rfl (PuI_extract rfl rfl rfl) rfl rfl (by decide) (by kernel_rfl) (by kernel_rfl) (by kernel_rfl) (by kernel_rfl) (fun _ _ h => h) ?_
                    refine Ad_one 12 rfl (by kernel_rfl) ?_
                    refine Al_alloc rfl rfl rfl (by decide) Tryz.zeroValue34 rfl (by kernel_rfl) (fun g20 => ?_)
                    refine Al_nil ?_
                    refine Ad_one 13 rfl (by kernel_rfl) ?_
                    refine Al_storeN rfl rfl rfl (by kernel_rfl) Tryz.isAgg34 Tryz.sizeOf34 rfl rfl rfl rfl (Nat.le_of_ble_eq_true rfl) ?_
                    refine Al_nil ?_
                    refine Ad_take 14 rfl (PuI_move (.inr rfl) (by conv => lhs; whnf)) rfl rfl (by decide) (by kernel_rfl) (by kernel_rfl) (by kernel_rfl) (by kernel_rfl) (fun _ _ h => h) ?_
                    refine Ad_done (by kernel_rfl) ?_
                    -- join 5: live [2, 7, 9, 10, 11, 13, 20, 21, 22, 23], turned [22, 23]
                    refine Aw_seq ?_
                    refine Aw_drawPA 8 12 6 (by kernel_rfl) (by kernel_rfl) rfl (by decide) rfl rfl rfl rfl (by decide) Tryz.zeroValue34 rfl (by kernel_rfl) rfl ?_
                    refine Dr_p Pu_mvl ?_
                    refine Dr_p Pu_mvl ?_
                    refine Dr_p (Pu_loadbN (r := [_, _, _, _, _, _, _]) rfl Tryz.isAgg36 Tryz.sizeOf36 rfl rfl rfl rfl) ?_
                    refine Dr_p (Pu_call (tvalue_a o) rfl ⟨Sub.rfl, trivial⟩) ?_
                    refine Dr_p (Pu_fieldb 4 rfl Tryz.underlying36 rfl rfl Tryz.sizeOf4 rfl) ?_
                    refine Dr_p (Pu_loadb rfl Tryz.isAgg4 rfl rfl rfl) ?_
                    refine Dr_p (Pu_loadbN (r := [_, _, _, _, _, _, _]) rfl Tryz.isAgg36 Tryz.sizeOf36 rfl rfl rfl rfl) ?_
                    refine Dr_p (Pu_call (tpast_a o) rfl ⟨Sub.rfl, trivial⟩) ?_
                    refine Dr_nil ⟨?_, fun g22 => ?_⟩
                    · refine Ad_two 8 12 rfl rfl (by kernel_rfl) ?_ ?_
                      · refine Al_gcall [(1001, 48, g48), (1002, 480, g48), (1003, 481, g)] [(1004, 481)] (rtWrite_g p (J.word o.key) o.val o.gone o.pastP hp.rk (by omega)) rfl rfl rfl (by decide) (by kernel_rfl) ⟨rfl, rfl, rfl, trivial⟩ rfl ⟨Sub.rfl, Sub.rfl, Sub.rfl, Sub.rfl, Sub.rfl, trivial⟩ (fun g90 => ?_)
                        refine Al_nil ?_
                        refine Ad_take 9 rfl (PuI_move (.inl rfl) (by conv => lhs; whnf)) rfl rfl (by decide) (by kernel_rfl) (by kernel_rfl) (by kernel_rfl) (by kernel_rfl) (fun _ _ h => h) ?_
                        refine Ad_take 10 rfl (PuI_extract rfl rfl rfl) rfl rfl (by decide) (by kernel_rfl) (by kernel_rfl) (by kernel_rfl) (by kernel_rfl) (fun _ _ h => h) ?_
                        refine Ad_take 11 rfl (PuI_extract rfl rfl rfl) rfl rfl (by decide) (by kernel_rfl) (by kernel_rfl) (by kernel_rfl) (by kernel_rfl) (fun _ _ h => h) ?_
                        refine Ad_one 12 rfl (by kernel_rfl) ?_
                        refine Al_alloc rfl rfl rfl (by decide) Tryz.zeroValue34 rfl (by kernel_rfl) (fun g22 => ?_)
                        refine Al_nil ?_
                        refine Ad_one 13 rfl (by kernel_rfl) ?_
                        refine Al_storeN rfl rfl rfl (by kernel_rfl) Tryz.isAgg34 Tryz.sizeOf34 rfl rfl rfl rfl (Nat.le_of_ble_eq_true rfl) ?_
                        refine Al_nil ?_
                        refine Ad_take 14 rfl (PuI_move (.inr rfl) (by conv => lhs; whnf)) rfl rfl (by decide) (by kernel_rfl) (by kernel_rfl) (by kernel_rfl) (by kernel_rfl) (fun _ _ h => h) ?_
                        refine Ad_done (by kernel_rfl) ?_
                        refine Aw_seq (Aw_region ?_)
                        refine Al_p (Pu_loadbN (r := [_, _, _, _, _, _]) rfl Tryz.isAgg34 Tryz.sizeOf34 rfl rfl rfl rfl) ?_
                        refine Al_p (Pu_loadbN (r := [_, _, _, _, _, _]) rfl Tryz.isAgg34 Tryz.sizeOf34 rfl rfl rfl rfl) ?_
                        refine Al_p (Pu_call (rvsame_a (p.writeV (J.word o.key) o.val o.gone o.pastP) (p.writeV (J.word o.key) o.val o.gone o.pastP)) rfl ⟨Sub.rfl, Sub.rfl, trivial⟩) ?_
                        refine Al_p Pu_mvr ?_
                        refine Al_nil (Aw_region ?_)
                        refine Al_p Pu_mvl ?_
                        refine Al_p Pu_mvl ?_
                        refine Al_st (St_gd [] rfl rfl rfl rfl trivial (fun hg98 => by exact Pu_move (.inl rfl) (by conv => lhs; whnf))) rfl (by decide) (by kernel_rfl) (by intro j b oj dj h1 h2 h3; cases h1; cases h2; cases h3; decide) ?_
                        refine Al_st (St_gd [] rfl rfl rfl rfl trivial (fun hg99 => by exact Pu_move (.inl rfl) (by conv => lhs; whnf))) rfl (by decide) (by kernel_rfl) (by intro j b oj dj h1 h2 h3; cases h1; cases h2; cases h3; decide) ?_
                        refine Al_st (St_gd [98, 99] rfl rfl rfl rfl ⟨⟨_, rfl⟩, ⟨_, rfl⟩, trivial⟩ (fun hg100 => Pu_cmp rfl rfl rfl rfl)) rfl (by decide) (by kernel_rfl) (by intro j b oj dj h1 h2 h3; cases h1; cases h2; cases h3; decide) ?_
                        refine Al_p (Pu_and rfl rfl rfl rfl) ?_
                        refine Al_p Pu_mvr ?_
                        refine Al_nil ?_
                        first
                          | exact ⟨(p.write (J.word o.key) o.val o.gone o.pastP, g90), hp.write _ _ _ _, Le.ov ⟨Sub.bool (by simp), trivial⟩ ⟨Sub.rfl, Sub.rfl, Sub.rfl, Sub.rfl, Sub.rfl, Sub.rfl, trivial⟩ ⟨rfl, rfl, rfl, rfl, rfl, rfl, trivial⟩ trivial⟩
                          | exact ⟨(p.arrive o.ver, g), (hp.arrive _).mono (by omega), Le.ov ⟨Sub.bool (by simp), trivial⟩ ⟨Sub.rfl, Sub.rfl, Sub.rfl, Sub.rfl, Sub.rfl, Sub.rfl, trivial⟩ ⟨rfl, rfl, rfl, rfl, rfl, rfl, trivial⟩ trivial⟩
                          | exact ⟨(p.step, g124), hp.step, Le.ov ⟨Sub.bool (by simp), trivial⟩ ⟨Sub.rfl, Sub.rfl, Sub.rfl, Sub.rfl, Sub.rfl, Sub.rfl, trivial⟩ ⟨rfl, rfl, rfl, rfl, rfl, rfl, trivial⟩ trivial⟩
                          | exact ⟨(p.move (J.ranges o.n) [o.ver], g155), hp.move _ (hrz _) _, Le.ov ⟨Sub.rfl, trivial⟩ ⟨Sub.rfl, Sub.rfl, Sub.rfl, Sub.rfl, Sub.rfl, Sub.rfl, trivial⟩ ⟨rfl, rfl, rfl, rfl, rfl, rfl, trivial⟩ trivial⟩
                          | exact ⟨(p.clean o.n 0 o.pastP, g), (hp.clean _ _ _).mono (by omega), Le.ov ⟨Sub.rfl, trivial⟩ ⟨Sub.rfl, Sub.rfl, Sub.rfl, Sub.rfl, Sub.rfl, Sub.rfl, trivial⟩ ⟨rfl, rfl, rfl, rfl, rfl, rfl, trivial⟩ trivial⟩ -- join 1 next.7
                      · refine Al_alloc rfl rfl rfl (by decide) Tryz.zeroValue34 rfl (by kernel_rfl) (fun g22 => ?_)
                        refine Al_nil ?_
                        refine Ad_one 8 rfl (by kernel_rfl) ?_
                        refine Al_gcall [(1001, 48, g48), (1002, 480, g48), (1003, 481, g)] [(1004, 481)] (rtWrite_g p (J.word o.key) o.val o.gone o.pastP hp.rk (by omega)) rfl rfl rfl (by decide) (by kernel_rfl) ⟨rfl, rfl, rfl, trivial⟩ rfl ⟨Sub.rfl, Sub.rfl, Sub.rfl, Sub.rfl, Sub.rfl, trivial⟩ (fun g90 => ?_)
                        refine Al_nil ?_
                        refine Ad_take 9 rfl (PuI_move (.inl rfl) (by conv => lhs; whnf)) rfl rfl (by decide) (by kernel_rfl) (by kernel_rfl) (by kernel_rfl) (by kernel_rfl) (fun _ _ h => h) ?_
                        refine Ad_take 10 rfl (PuI_extract rfl rfl rfl) rfl rfl (by decide) (by kernel_rfl) (by kernel_rfl) (by kernel_rfl) (by kernel_rfl) (fun _ _ h => h) ?_
                        refine Ad_take 11 rfl (PuI_extract rfl rfl rfl) rfl rfl (by decide) (by kernel_rfl) (by kernel_rfl) (by kernel_rfl) (by kernel_rfl) (fun _ _ h => h) ?_
                        refine Ad_one 13 rfl (by kernel_rfl) ?_
                        refine Al_storeN rfl rfl rfl (by kernel_rfl) Tryz.isAgg34 Tryz.sizeOf34 rfl rfl rfl rfl (Nat.le_of_ble_eq_true rfl) ?_
                        refine Al_nil ?_
                        refine Ad_take 14 rfl (PuI_move (.inr rfl) (by conv => lhs; whnf)) rfl rfl (by decide) (by kernel_rfl) (by kernel_rfl) (by kernel_rfl) (by kernel_rfl) (fun _ _ h => h) ?_
                        refine Ad_done (by kernel_rfl) ?_
                        refine Aw_seq (Aw_region ?_)
                        refine Al_p (Pu_loadbN (r := [_, _, _, _, _, _]) rfl Tryz.isAgg34 Tryz.sizeOf34 rfl rfl rfl rfl) ?_
                        refine Al_p (Pu_loadbN (r := [_, _, _, _, _, _]) rfl Tryz.isAgg34 Tryz.sizeOf34 rfl rfl rfl rfl) ?_
                        refine Al_p (Pu_call (rvsame_a (p.writeV (J.word o.key) o.val o.gone o.pastP) (p.writeV (J.word o.key) o.val o.gone o.pastP)) rfl ⟨Sub.rfl, Sub.rfl, trivial⟩) ?_
                        refine Al_p Pu_mvr ?_
                        refine Al_nil (Aw_region ?_)
                        refine Al_p Pu_mvl ?_
                        refine Al_p Pu_mvl ?_
                        refine Al_st (St_gd [] rfl rfl rfl rfl trivial (fun hg98 => by exact Pu_move (.inl rfl) (by conv => lhs; whnf))) rfl (by decide) (by kernel_rfl) (by intro j b oj dj h1 h2 h3; cases h1; cases h2; cases h3; decide) ?_
                        refine Al_st (St_gd [] rfl rfl rfl rfl trivial (fun hg99 => by exact Pu_move (.inl rfl) (by conv => lhs; whnf))) rfl (by decide) (by kernel_rfl) (by intro j b oj dj h1 h2 h3; cases h1; cases h2; cases h3; decide) ?_
                        refine Al_st (St_gd [98, 99] rfl rfl rfl rfl ⟨⟨_, rfl⟩, ⟨_, rfl⟩, trivial⟩ (fun hg100 => Pu_cmp rfl rfl rfl rfl)) rfl (by decide) (by kernel_rfl) (by intro j b oj dj h1 h2 h3; cases h1; cases h2; cases h3; decide) ?_
                        refine Al_p (Pu_and rfl rfl rfl rfl) ?_
                        refine Al_p Pu_mvr ?_
                        refine Al_nil ?_
                        first
                          | exact ⟨(p.write (J.word o.key) o.val o.gone o.pastP, g90), hp.write _ _ _ _, Le.ov ⟨Sub.bool (by simp), trivial⟩ ⟨Sub.rfl, Sub.rfl, Sub.rfl, Sub.rfl, Sub.rfl, Sub.rfl, trivial⟩ ⟨rfl, rfl, rfl, rfl, rfl, rfl, trivial⟩ trivial⟩
                          | exact ⟨(p.arrive o.ver, g), (hp.arrive _).mono (by omega), Le.ov ⟨Sub.bool (by simp), trivial⟩ ⟨Sub.rfl, Sub.rfl, Sub.rfl, Sub.rfl, Sub.rfl, Sub.rfl, trivial⟩ ⟨rfl, rfl, rfl, rfl, rfl, rfl, trivial⟩ trivial⟩
                          | exact ⟨(p.step, g124), hp.step, Le.ov ⟨Sub.bool (by simp), trivial⟩ ⟨Sub.rfl, Sub.rfl, Sub.rfl, Sub.rfl, Sub.rfl, Sub.rfl, trivial⟩ ⟨rfl, rfl, rfl, rfl, rfl, rfl, trivial⟩ trivial⟩
                          | exact ⟨(p.move (J.ranges o.n) [o.ver], g155), hp.move _ (hrz _) _, Le.ov ⟨Sub.rfl, trivial⟩ ⟨Sub.rfl, Sub.rfl, Sub.rfl, Sub.rfl, Sub.rfl, Sub.rfl, trivial⟩ ⟨rfl, rfl, rfl, rfl, rfl, rfl, trivial⟩ trivial⟩
                          | exact ⟨(p.clean o.n 0 o.pastP, g), (hp.clean _ _ _).mono (by omega), Le.ov ⟨Sub.rfl, trivial⟩ ⟨Sub.rfl, Sub.rfl, Sub.rfl, Sub.rfl, Sub.rfl, Sub.rfl, trivial⟩ ⟨rfl, rfl, rfl, rfl, rfl, rfl, trivial⟩ trivial⟩ -- join 1 next.8
                    · refine Ad_one 8 rfl (by kernel_rfl) ?_
                      refine Al_gcall [(1001, 48, g48), (1002, 480, g48), (1003, 481, g)] [(1004, 481)] (rtWrite_g p (J.word o.key) o.val o.gone o.pastP hp.rk (by omega)) rfl rfl rfl (by decide) (by kernel_rfl) ⟨rfl, rfl, rfl, trivial⟩ rfl ⟨Sub.rfl, Sub.rfl, Sub.rfl, Sub.rfl, Sub.rfl, trivial⟩ (fun g90 => ?_)
                      refine Al_nil ?_
                      refine Ad_take 9 rfl (PuI_move (.inl rfl) (by conv => lhs; whnf)) rfl rfl (by decide) (by kernel_rfl) (by kernel_rfl) (by kernel_rfl) (by kernel_rfl) (fun _ _ h => h) ?_
                      refine Ad_take 10 rfl (PuI_extract rfl rfl rfl) rfl rfl (by decide) (by kernel_rfl) (by kernel_rfl) (by kernel_rfl) (by kernel_rfl) (fun _ _ h => h) ?_
                      refine Ad_take 11 rfl (PuI_extract rfl rfl rfl) rfl rfl (by decide) (by kernel_rfl) (by kernel_rfl) (by kernel_rfl) (by kernel_rfl) (fun _ _ h => h) ?_
                      refine Ad_one 13 rfl (by kernel_rfl) ?_
                      refine Al_storeN rfl rfl rfl (by kernel_rfl) Tryz.isAgg34 Tryz.sizeOf34 rfl rfl rfl rfl (Nat.le_of_ble_eq_true rfl) ?_
                      refine Al_nil ?_
                      refine Ad_take 14 rfl (PuI_move (.inr rfl) (by conv => lhs; whnf)) rfl rfl (by decide) (by kernel_rfl) (by kernel_rfl) (by kernel_rfl) (by kernel_rfl) (fun _ _ h => h) ?_
                      refine Ad_done (by kernel_rfl) ?_
                      refine Aw_seq (Aw_region ?_)
                      refine Al_p (Pu_loadbN (r := [_, _, _, _, _, _]) rfl Tryz.isAgg34 Tryz.sizeOf34 rfl rfl rfl rfl) ?_
                      refine Al_p (Pu_loadbN (r := [_, _, _, _, _, _]) rfl Tryz.isAgg34 Tryz.sizeOf34 rfl rfl rfl rfl) ?_
                      refine Al_p (Pu_call (rvsame_a (p.writeV (J.word o.key) o.val o.gone o.pastP) (p.writeV (J.word o.key) o.val o.gone o.pastP)) rfl ⟨Sub.rfl, Sub.rfl, trivial⟩) ?_
                      refine Al_p Pu_mvr ?_
                      refine Al_nil (Aw_region ?_)
                      refine Al_p Pu_mvl ?_
                      refine Al_p Pu_mvl ?_
                      refine Al_st (St_gd [] rfl rfl rfl rfl trivial (fun hg98 => by exact Pu_move (.inl rfl) (by conv => lhs; whnf))) rfl (by decide) (by kernel_rfl) (by intro j b oj dj h1 h2 h3; cases h1; cases h2; cases h3; decide) ?_
                      refine Al_st (St_gd [] rfl rfl rfl rfl trivial (fun hg99 => by exact Pu_move (.inl rfl) (by conv => lhs; whnf))) rfl (by decide) (by kernel_rfl) (by intro j b oj dj h1 h2 h3; cases h1; cases h2; cases h3; decide) ?_
                      refine Al_st (St_gd [98, 99] rfl rfl rfl rfl ⟨⟨_, rfl⟩, ⟨_, rfl⟩, trivial⟩ (fun hg100 => Pu_cmp rfl rfl rfl rfl)) rfl (by decide) (by kernel_rfl) (by intro j b oj dj h1 h2 h3; cases h1; cases h2; cases h3; decide) ?_
                      refine Al_p (Pu_and rfl rfl rfl rfl) ?_
                      refine Al_p Pu_mvr ?_
                      refine Al_nil ?_
                      first
                        | exact ⟨(p.write (J.word o.key) o.val o.gone o.pastP, g90), hp.write _ _ _ _, Le.ov ⟨Sub.bool (by simp), trivial⟩ ⟨Sub.rfl, Sub.rfl, Sub.rfl, Sub.rfl, Sub.rfl, Sub.rfl, trivial⟩ ⟨rfl, rfl, rfl, rfl, rfl, rfl, trivial⟩ trivial⟩
                        | exact ⟨(p.arrive o.ver, g), (hp.arrive _).mono (by omega), Le.ov ⟨Sub.bool (by simp), trivial⟩ ⟨Sub.rfl, Sub.rfl, Sub.rfl, Sub.rfl, Sub.rfl, Sub.rfl, trivial⟩ ⟨rfl, rfl, rfl, rfl, rfl, rfl, trivial⟩ trivial⟩
                        | exact ⟨(p.step, g124), hp.step, Le.ov ⟨Sub.bool (by simp), trivial⟩ ⟨Sub.rfl, Sub.rfl, Sub.rfl, Sub.rfl, Sub.rfl, Sub.rfl, trivial⟩ ⟨rfl, rfl, rfl, rfl, rfl, rfl, trivial⟩ trivial⟩
                        | exact ⟨(p.move (J.ranges o.n) [o.ver], g155), hp.move _ (hrz _) _, Le.ov ⟨Sub.rfl, trivial⟩ ⟨Sub.rfl, Sub.rfl, Sub.rfl, Sub.rfl, Sub.rfl, Sub.rfl, trivial⟩ ⟨rfl, rfl, rfl, rfl, rfl, rfl, trivial⟩ trivial⟩
                        | exact ⟨(p.clean o.n 0 o.pastP, g), (hp.clean _ _ _).mono (by omega), Le.ov ⟨Sub.rfl, trivial⟩ ⟨Sub.rfl, Sub.rfl, Sub.rfl, Sub.rfl, Sub.rfl, Sub.rfl, trivial⟩ ⟨rfl, rfl, rfl, rfl, rfl, rfl, trivial⟩ trivial⟩ -- join 1 next.9
                  · refine Al_alloc rfl rfl rfl (by decide) Tryz.zeroValue34 rfl (by kernel_rfl) (fun g20 => ?_)
                    refine Al_nil ?_
                    refine Ad_one 8 rfl (by kernel_rfl) ?_
                    refine Al_gcall [(1001, 42, g42), (1002, 420, g42), (1003, 421, g42)] [] (stWrite_g p b (J.word o.key) o.val o.gone o.pastP (by omega) hp.rk.ok (by omega)) rfl rfl rfl (by decide) (by kernel_rfl) ⟨rfl, rfl, rfl, trivial⟩ rfl ⟨Sub.rfl, Sub.rfl, Sub.rfl, Sub.rfl, Sub.rfl, trivial⟩ (fun g78 => ?_)
                    refine Al_nil ?_
                    refine Ad_take 9 rfl (PuI_move (.inl rfl) (by conv => lhs; whnf)) rfl rfl (by decide) (by kernel_rfl) (by kernel_rfl) (by kernel_rfl) (by kernel_rfl) (fun _ _ h => h) ?_
                    refine Ad_take 10 rfl (PuI_extract rfl rfl rfl) rfl rfl (by decide) (by kernel_rfl) (by kernel_rfl) (by kernel_rfl) (by kernel_rfl) (fun _ _ h => h) ?_
                    refine Ad_take 11 rfl (PuI_extract rfl rfl rfl) rfl rfl (by decide) (by kernel_rfl) (by kernel_rfl) (by kernel_rfl) (by kernel_rfl) (fun _ _ h => h) ?_
                    refine Ad_one 13 rfl (by kernel_rfl) ?_
                    refine Al_storeN rfl rfl rfl (by kernel_rfl) Tryz.isAgg34 Tryz.sizeOf34 rfl rfl rfl rfl (Nat.le_of_ble_eq_true rfl) ?_
                    refine Al_nil ?_
                    refine Ad_take 14 rfl (PuI_move (.inr rfl) (by conv => lhs; whnf)) rfl rfl (by decide) (by kernel_rfl) (by kernel_rfl) (by kernel_rfl) (by kernel_rfl) (fun _ _ h => h) ?_
                    refine Ad_done (by kernel_rfl) ?_
                    -- join 5: live [2, 7, 9, 10, 11, 13, 20, 21, 22, 23], turned [22, 23]
                    refine Aw_seq ?_
                    refine Aw_drawPA 8 12 6 (by kernel_rfl) (by kernel_rfl) rfl (by decide) rfl rfl rfl rfl (by decide) Tryz.zeroValue34 rfl (by kernel_rfl) rfl ?_
                    refine Dr_p Pu_mvl ?_
                    refine Dr_p Pu_mvl ?_
                    refine Dr_p (Pu_loadbN (r := [_, _, _, _, _, _, _]) rfl Tryz.isAgg36 Tryz.sizeOf36 rfl rfl rfl rfl) ?_
                    refine Dr_p (Pu_call (tvalue_a o) rfl ⟨Sub.rfl, trivial⟩) ?_
                    refine Dr_p (Pu_fieldb 4 rfl Tryz.underlying36 rfl rfl Tryz.sizeOf4 rfl) ?_
                    refine Dr_p (Pu_loadb rfl Tryz.isAgg4 rfl rfl rfl) ?_
                    refine Dr_p (Pu_loadbN (r := [_, _, _, _, _, _, _]) rfl Tryz.isAgg36 Tryz.sizeOf36 rfl rfl rfl rfl) ?_
                    refine Dr_p (Pu_call (tpast_a o) rfl ⟨Sub.rfl, trivial⟩) ?_
                    refine Dr_nil ⟨?_, fun g22 => ?_⟩
                    · refine Ad_two 8 12 rfl rfl (by kernel_rfl) ?_ ?_
                      · refine Al_gcall [(1001, 48, g48), (1002, 480, g48), (1003, 481, g)] [(1004, 481)] (rtWrite_g p (J.word o.key) o.val o.gone o.pastP hp.rk (by omega)) rfl rfl rfl (by decide) (by kernel_rfl) ⟨rfl, rfl, rfl, trivial⟩ rfl ⟨Sub.rfl, Sub.rfl, Sub.rfl, Sub.rfl, Sub.rfl, trivial⟩ (fun g90 => ?_)
                        refine Al_nil ?_
                        refine Ad_take 9 rfl (PuI_move (.inl rfl) (by conv => lhs; whnf)) rfl rfl (by decide) (by kernel_rfl) (by kernel_rfl) (by kernel_rfl) (by kernel_rfl) (fun _ _ h => h) ?_
                        refine Ad_take 10 rfl (PuI_extract rfl rfl rfl) rfl rfl (by decide) (by kernel_rfl) (by kernel_rfl) (by kernel_rfl) (by kernel_rfl) (fun _ _ h => h) ?_
                        refine Ad_take 11 rfl (PuI_extract rfl rfl rfl) rfl rfl (by decide) (by kernel_rfl) (by kernel_rfl) (by kernel_rfl) (by kernel_rfl) (fun _ _ h => h) ?_
                        refine Ad_one 12 rfl (by kernel_rfl) ?_
                        refine Al_alloc rfl rfl rfl (by decide) Tryz.zeroValue34 rfl (by kernel_rfl) (fun g22 => ?_)
                        refine Al_nil ?_
                        refine Ad_one 13 rfl (by kernel_rfl) ?_
                        refine Al_storeN rfl rfl rfl (by kernel_rfl) Tryz.isAgg34 Tryz.sizeOf34 rfl rfl rfl rfl (Nat.le_of_ble_eq_true rfl) ?_
                        refine Al_nil ?_
                        refine Ad_take 14 rfl (PuI_move (.inr rfl) (by conv => lhs; whnf)) rfl rfl (by decide) (by kernel_rfl) (by kernel_rfl) (by kernel_rfl) (by kernel_rfl) (fun _ _ h => h) ?_
                        refine Ad_done (by kernel_rfl) ?_
                        refine Aw_seq (Aw_region ?_)
                        refine Al_p (Pu_loadbN (r := [_, _, _, _, _, _]) rfl Tryz.isAgg34 Tryz.sizeOf34 rfl rfl rfl rfl) ?_
                        refine Al_p (Pu_loadbN (r := [_, _, _, _, _, _]) rfl Tryz.isAgg34 Tryz.sizeOf34 rfl rfl rfl rfl) ?_
                        refine Al_p (Pu_call (rvsame_a (p.writeV (J.word o.key) o.val o.gone o.pastP) (p.writeV (J.word o.key) o.val o.gone o.pastP)) rfl ⟨Sub.rfl, Sub.rfl, trivial⟩) ?_
                        refine Al_p Pu_mvr ?_
                        refine Al_nil (Aw_region ?_)
                        refine Al_p Pu_mvl ?_
                        refine Al_p Pu_mvl ?_
                        refine Al_st (St_gd [] rfl rfl rfl rfl trivial (fun hg98 => by exact Pu_move (.inl rfl) (by conv => lhs; whnf))) rfl (by decide) (by kernel_rfl) (by intro j b oj dj h1 h2 h3; cases h1; cases h2; cases h3; decide) ?_
                        refine Al_st (St_gd [] rfl rfl rfl rfl trivial (fun hg99 => by exact Pu_move (.inl rfl) (by conv => lhs; whnf))) rfl (by decide) (by kernel_rfl) (by intro j b oj dj h1 h2 h3; cases h1; cases h2; cases h3; decide) ?_
                        refine Al_st (St_gd [98, 99] rfl rfl rfl rfl ⟨⟨_, rfl⟩, ⟨_, rfl⟩, trivial⟩ (fun hg100 => Pu_cmp rfl rfl rfl rfl)) rfl (by decide) (by kernel_rfl) (by intro j b oj dj h1 h2 h3; cases h1; cases h2; cases h3; decide) ?_
                        refine Al_p (Pu_and rfl rfl rfl rfl) ?_
                        refine Al_p Pu_mvr ?_
                        refine Al_nil ?_
                        first
                          | exact ⟨(p.write (J.word o.key) o.val o.gone o.pastP, g90), hp.write _ _ _ _, Le.ov ⟨Sub.bool (by simp), trivial⟩ ⟨Sub.rfl, Sub.rfl, Sub.rfl, Sub.rfl, Sub.rfl, Sub.rfl, trivial⟩ ⟨rfl, rfl, rfl, rfl, rfl, rfl, trivial⟩ trivial⟩
                          | exact ⟨(p.arrive o.ver, g), (hp.arrive _).mono (by omega), Le.ov ⟨Sub.bool (by simp), trivial⟩ ⟨Sub.rfl, Sub.rfl, Sub.rfl, Sub.rfl, Sub.rfl, Sub.rfl, trivial⟩ ⟨rfl, rfl, rfl, rfl, rfl, rfl, trivial⟩ trivial⟩
                          | exact ⟨(p.step, g124), hp.step, Le.ov ⟨Sub.bool (by simp), trivial⟩ ⟨Sub.rfl, Sub.rfl, Sub.rfl, Sub.rfl, Sub.rfl, Sub.rfl, trivial⟩ ⟨rfl, rfl, rfl, rfl, rfl, rfl, trivial⟩ trivial⟩
                          | exact ⟨(p.move (J.ranges o.n) [o.ver], g155), hp.move _ (hrz _) _, Le.ov ⟨Sub.rfl, trivial⟩ ⟨Sub.rfl, Sub.rfl, Sub.rfl, Sub.rfl, Sub.rfl, Sub.rfl, trivial⟩ ⟨rfl, rfl, rfl, rfl, rfl, rfl, trivial⟩ trivial⟩
                          | exact ⟨(p.clean o.n 0 o.pastP, g), (hp.clean _ _ _).mono (by omega), Le.ov ⟨Sub.rfl, trivial⟩ ⟨Sub.rfl, Sub.rfl, Sub.rfl, Sub.rfl, Sub.rfl, Sub.rfl, trivial⟩ ⟨rfl, rfl, rfl, rfl, rfl, rfl, trivial⟩ trivial⟩ -- join 1 next.10
                      · refine Al_alloc rfl rfl rfl (by decide) Tryz.zeroValue34 rfl (by kernel_rfl) (fun g22 => ?_)
                        refine Al_nil ?_
                        refine Ad_one 8 rfl (by kernel_rfl) ?_
                        refine Al_gcall [(1001, 48, g48), (1002, 480, g48), (1003, 481, g)] [(1004, 481)] (rtWrite_g p (J.word o.key) o.val o.gone o.pastP hp.rk (by omega)) rfl rfl rfl (by decide) (by kernel_rfl) ⟨rfl, rfl, rfl, trivial⟩ rfl ⟨Sub.rfl, Sub.rfl, Sub.rfl, Sub.rfl, Sub.rfl, trivial⟩ (fun g90 => ?_)
                        refine Al_nil ?_
                        refine Ad_take 9 rfl (PuI_move (.inl rfl) (by conv => lhs; whnf)) rfl rfl (by decide) (by kernel_rfl) (by kernel_rfl) (by kernel_rfl) (by kernel_rfl) (fun _ _ h => h) ?_
                        refine Ad_take 10 rfl (PuI_extract rfl rfl rfl) rfl rfl (by decide) (by kernel_rfl) (by kernel_rfl) (by kernel_rfl) (by kernel_rfl) (fun _ _ h => h) ?_
                        refine Ad_take 11 rfl (PuI_extract rfl rfl rfl) rfl rfl (by decide) (by kernel_rfl) (by kernel_rfl) (by kernel_rfl) (by kernel_rfl) (fun _ _ h => h) ?_
                        refine Ad_one 13 rfl (by kernel_rfl) ?_
                        refine Al_storeN rfl rfl rfl (by kernel_rfl) Tryz.isAgg34 Tryz.sizeOf34 rfl rfl rfl rfl (Nat.le_of_ble_eq_true rfl) ?_
                        refine Al_nil ?_
                        refine Ad_take 14 rfl (PuI_move (.inr rfl) (by conv => lhs; whnf)) rfl rfl (by decide) (by kernel_rfl) (by kernel_rfl) (by kernel_rfl) (by kernel_rfl) (fun _ _ h => h) ?_
                        refine Ad_done (by kernel_rfl) ?_
                        refine Aw_seq (Aw_region ?_)
                        refine Al_p (Pu_loadbN (r := [_, _, _, _, _, _]) rfl Tryz.isAgg34 Tryz.sizeOf34 rfl rfl rfl rfl) ?_
                        refine Al_p (Pu_loadbN (r := [_, _, _, _, _, _]) rfl Tryz.isAgg34 Tryz.sizeOf34 rfl rfl rfl rfl) ?_
                        refine Al_p (Pu_call (rvsame_a (p.writeV (J.word o.key) o.val o.gone o.pastP) (p.writeV (J.word o.key) o.val o.gone o.pastP)) rfl ⟨Sub.rfl, Sub.rfl, trivial⟩) ?_
                        refine Al_p Pu_mvr ?_
                        refine Al_nil (Aw_region ?_)
                        refine Al_p Pu_mvl ?_
                        refine Al_p Pu_mvl ?_
                        refine Al_st (St_gd [] rfl rfl rfl rfl trivial (fun hg98 => by exact Pu_move (.inl rfl) (by conv => lhs; whnf))) rfl (by decide) (by kernel_rfl) (by intro j b oj dj h1 h2 h3; cases h1; cases h2; cases h3; decide) ?_
                        refine Al_st (St_gd [] rfl rfl rfl rfl trivial (fun hg99 => by exact Pu_move (.inl rfl) (by conv => lhs; whnf))) rfl (by decide) (by kernel_rfl) (by intro j b oj dj h1 h2 h3; cases h1; cases h2; cases h3; decide) ?_
                        refine Al_st (St_gd [98, 99] rfl rfl rfl rfl ⟨⟨_, rfl⟩, ⟨_, rfl⟩, trivial⟩ (fun hg100 => Pu_cmp rfl rfl rfl rfl)) rfl (by decide) (by kernel_rfl) (by intro j b oj dj h1 h2 h3; cases h1; cases h2; cases h3; decide) ?_
                        refine Al_p (Pu_and rfl rfl rfl rfl) ?_
                        refine Al_p Pu_mvr ?_
                        refine Al_nil ?_
                        first
                          | exact ⟨(p.write (J.word o.key) o.val o.gone o.pastP, g90), hp.write _ _ _ _, Le.ov ⟨Sub.bool (by simp), trivial⟩ ⟨Sub.rfl, Sub.rfl, Sub.rfl, Sub.rfl, Sub.rfl, Sub.rfl, trivial⟩ ⟨rfl, rfl, rfl, rfl, rfl, rfl, trivial⟩ trivial⟩
                          | exact ⟨(p.arrive o.ver, g), (hp.arrive _).mono (by omega), Le.ov ⟨Sub.bool (by simp), trivial⟩ ⟨Sub.rfl, Sub.rfl, Sub.rfl, Sub.rfl, Sub.rfl, Sub.rfl, trivial⟩ ⟨rfl, rfl, rfl, rfl, rfl, rfl, trivial⟩ trivial⟩
                          | exact ⟨(p.step, g124), hp.step, Le.ov ⟨Sub.bool (by simp), trivial⟩ ⟨Sub.rfl, Sub.rfl, Sub.rfl, Sub.rfl, Sub.rfl, Sub.rfl, trivial⟩ ⟨rfl, rfl, rfl, rfl, rfl, rfl, trivial⟩ trivial⟩
                          | exact ⟨(p.move (J.ranges o.n) [o.ver], g155), hp.move _ (hrz _) _, Le.ov ⟨Sub.rfl, trivial⟩ ⟨Sub.rfl, Sub.rfl, Sub.rfl, Sub.rfl, Sub.rfl, Sub.rfl, trivial⟩ ⟨rfl, rfl, rfl, rfl, rfl, rfl, trivial⟩ trivial⟩
                          | exact ⟨(p.clean o.n 0 o.pastP, g), (hp.clean _ _ _).mono (by omega), Le.ov ⟨Sub.rfl, trivial⟩ ⟨Sub.rfl, Sub.rfl, Sub.rfl, Sub.rfl, Sub.rfl, Sub.rfl, trivial⟩ ⟨rfl, rfl, rfl, rfl, rfl, rfl, trivial⟩ trivial⟩ -- join 1 next.11
                    · refine Ad_one 8 rfl (by kernel_rfl) ?_
                      refine Al_gcall [(1001, 48, g48), (1002, 480, g48), (1003, 481, g)] [(1004, 481)] (rtWrite_g p (J.word o.key) o.val o.gone o.pastP hp.rk (by omega)) rfl rfl rfl (by decide) (by kernel_rfl) ⟨rfl, rfl, rfl, trivial⟩ rfl ⟨Sub.rfl, Sub.rfl, Sub.rfl, Sub.rfl, Sub.rfl, trivial⟩ (fun g90 => ?_)
                      refine Al_nil ?_
                      refine Ad_take 9 rfl (PuI_move (.inl rfl) (by conv => lhs; whnf)) rfl rfl (by decide) (by kernel_rfl) (by kernel_rfl) (by kernel_rfl) (by kernel_rfl) (fun _ _ h => h) ?_
                      refine Ad_take 10 rfl (PuI_extract rfl rfl rfl) rfl rfl (by decide) (by kernel_rfl) (by kernel_rfl) (by kernel_rfl) (by kernel_rfl) (fun _ _ h => h) ?_
                      refine Ad_take 11 rfl (PuI_extract rfl rfl rfl) rfl rfl (by decide) (by kernel_rfl) (by kernel_rfl) (by kernel_rfl) (by kernel_rfl) (fun _ _ h => h) ?_
                      refine Ad_one 13 rfl (by kernel_rfl) ?_
                      refine Al_storeN rfl rfl rfl (by kernel_rfl) Tryz.isAgg34 Tryz.sizeOf34 rfl rfl rfl rfl (Nat.le_of_ble_eq_true rfl) ?_
                      refine Al_nil ?_
                      refine Ad_take 14 rfl (PuI_move (.inr rfl) (by conv => lhs; whnf)) rfl rfl (by decide) (by kernel_rfl) (by kernel_rfl) (by kernel_rfl) (by kernel_rfl) (fun _ _ h => h) ?_
                      refine Ad_done (by kernel_rfl) ?_
                      refine Aw_seq (Aw_region ?_)
                      refine Al_p (Pu_loadbN (r := [_, _, _, _, _, _]) rfl Tryz.isAgg34 Tryz.sizeOf34 rfl rfl rfl rfl) ?_
                      refine Al_p (Pu_loadbN (r := [_, _, _, _, _, _]) rfl Tryz.isAgg34 Tryz.sizeOf34 rfl rfl rfl rfl) ?_
                      refine Al_p (Pu_call (rvsame_a (p.writeV (J.word o.key) o.val o.gone o.pastP) (p.writeV (J.word o.key) o.val o.gone o.pastP)) rfl ⟨Sub.rfl, Sub.rfl, trivial⟩) ?_
                      refine Al_p Pu_mvr ?_
                      refine Al_nil (Aw_region ?_)
                      refine Al_p Pu_mvl ?_
                      refine Al_p Pu_mvl ?_
                      refine Al_st (St_gd [] rfl rfl rfl rfl trivial (fun hg98 => by exact Pu_move (.inl rfl) (by conv => lhs; whnf))) rfl (by decide) (by kernel_rfl) (by intro j b oj dj h1 h2 h3; cases h1; cases h2; cases h3; decide) ?_
                      refine Al_st (St_gd [] rfl rfl rfl rfl trivial (fun hg99 => by exact Pu_move (.inl rfl) (by conv => lhs; whnf))) rfl (by decide) (by kernel_rfl) (by intro j b oj dj h1 h2 h3; cases h1; cases h2; cases h3; decide) ?_
                      refine Al_st (St_gd [98, 99] rfl rfl rfl rfl ⟨⟨_, rfl⟩, ⟨_, rfl⟩, trivial⟩ (fun hg100 => Pu_cmp rfl rfl rfl rfl)) rfl (by decide) (by kernel_rfl) (by intro j b oj dj h1 h2 h3; cases h1; cases h2; cases h3; decide) ?_
                      refine Al_p (Pu_and rfl rfl rfl rfl) ?_
                      refine Al_p Pu_mvr ?_
                      refine Al_nil ?_
                      first
                        | exact ⟨(p.write (J.word o.key) o.val o.gone o.pastP, g90), hp.write _ _ _ _, Le.ov ⟨Sub.bool (by simp), trivial⟩ ⟨Sub.rfl, Sub.rfl, Sub.rfl, Sub.rfl, Sub.rfl, Sub.rfl, trivial⟩ ⟨rfl, rfl, rfl, rfl, rfl, rfl, trivial⟩ trivial⟩
                        | exact ⟨(p.arrive o.ver, g), (hp.arrive _).mono (by omega), Le.ov ⟨Sub.bool (by simp), trivial⟩ ⟨Sub.rfl, Sub.rfl, Sub.rfl, Sub.rfl, Sub.rfl, Sub.rfl, trivial⟩ ⟨rfl, rfl, rfl, rfl, rfl, rfl, trivial⟩ trivial⟩
                        | exact ⟨(p.step, g124), hp.step, Le.ov ⟨Sub.bool (by simp), trivial⟩ ⟨Sub.rfl, Sub.rfl, Sub.rfl, Sub.rfl, Sub.rfl, Sub.rfl, trivial⟩ ⟨rfl, rfl, rfl, rfl, rfl, rfl, trivial⟩ trivial⟩
                        | exact ⟨(p.move (J.ranges o.n) [o.ver], g155), hp.move _ (hrz _) _, Le.ov ⟨Sub.rfl, trivial⟩ ⟨Sub.rfl, Sub.rfl, Sub.rfl, Sub.rfl, Sub.rfl, Sub.rfl, trivial⟩ ⟨rfl, rfl, rfl, rfl, rfl, rfl, trivial⟩ trivial⟩
                        | exact ⟨(p.clean o.n 0 o.pastP, g), (hp.clean _ _ _).mono (by omega), Le.ov ⟨Sub.rfl, trivial⟩ ⟨Sub.rfl, Sub.rfl, Sub.rfl, Sub.rfl, Sub.rfl, Sub.rfl, trivial⟩ ⟨rfl, rfl, rfl, rfl, rfl, rfl, trivial⟩ trivial⟩ -- join 1 next.12
                · refine Ad_one 8 rfl (by kernel_rfl) ?_
                  refine Al_gcall [(1001, 42, g42), (1002, 420, g42), (1003, 421, g42)] [] (stWrite_g p b (J.word o.key) o.val o.gone o.pastP (by omega) hp.rk.ok (by omega)) rfl rfl rfl (by decide) (by kernel_rfl) ⟨rfl, rfl, rfl, trivial⟩ rfl ⟨Sub.rfl, Sub.rfl, Sub.rfl, Sub.rfl, Sub.rfl, trivial⟩ (fun g78 => ?_)
                  refine Al_nil ?_
                  refine Ad_take 9 rfl (PuI_move (.inl rfl) (by conv => lhs; whnf)) rfl rfl (by decide) (by kernel_rfl) (by kernel_rfl) (by kernel_rfl) (by kernel_rfl) (fun _ _ h => h) ?_
                  refine Ad_take 10 rfl (PuI_extract rfl rfl rfl) rfl rfl (by decide) (by kernel_rfl) (by kernel_rfl) (by kernel_rfl) (by kernel_rfl) (fun _ _ h => h) ?_
                  refine Ad_take 11 rfl (PuI_extract rfl rfl rfl) rfl rfl (by decide) (by kernel_rfl) (by kernel_rfl) (by kernel_rfl) (by kernel_rfl) (fun _ _ h => h) ?_
                  refine Ad_one 13 rfl (by kernel_rfl) ?_
                  refine Al_storeN rfl rfl rfl (by kernel_rfl) Tryz.isAgg34 Tryz.sizeOf34 rfl rfl rfl rfl (Nat.le_of_ble_eq_true rfl) ?_
                  refine Al_nil ?_
                  refine Ad_take 14 rfl (PuI_move (.inr rfl) (by conv => lhs; whnf)) rfl rfl (by decide) (by kernel_rfl) (by kernel_rfl) (by kernel_rfl) (by kernel_rfl) (fun _ _ h => h) ?_
                  refine Ad_done (by kernel_rfl) ?_
                  -- join 5: live [2, 7, 9, 10, 11, 13, 20, 21, 22, 23], turned [22, 23]
                  refine Aw_seq ?_
                  refine Aw_drawPA 8 12 6 (by kernel_rfl) (by kernel_rfl) rfl (by decide) rfl rfl rfl rfl (by decide) Tryz.zeroValue34 rfl (by kernel_rfl) rfl ?_
                  refine Dr_p Pu_mvl ?_
                  refine Dr_p Pu_mvl ?_
                  refine Dr_p (Pu_loadbN (r := [_, _, _, _, _, _, _]) rfl Tryz.isAgg36 Tryz.sizeOf36 rfl rfl rfl rfl) ?_
                  refine Dr_p (Pu_call (tvalue_a o) rfl ⟨Sub.rfl, trivial⟩) ?_
                  refine Dr_p (Pu_fieldb 4 rfl Tryz.underlying36 rfl rfl Tryz.sizeOf4 rfl) ?_
                  refine Dr_p (Pu_loadb rfl Tryz.isAgg4 rfl rfl rfl) ?_
                  refine Dr_p (Pu_loadbN (r := [_, _, _, _, _, _, _]) rfl Tryz.isAgg36 Tryz.sizeOf36 rfl rfl rfl rfl) ?_
                  refine Dr_p (Pu_call (tpast_a o) rfl ⟨Sub.rfl, trivial⟩) ?_
                  refine Dr_nil ⟨?_, fun g22 => ?_⟩
                  · refine Ad_two 8 12 rfl rfl (by kernel_rfl) ?_ ?_
                    · refine Al_gcall [(1001, 48, g48), (1002, 480, g48), (1003, 481, g)] [(1004, 481)] (rtWrite_g p (J.word o.key) o.val o.gone o.pastP hp.rk (by omega)) rfl rfl rfl (by decide) (by kernel_rfl) ⟨rfl, rfl, rfl, trivial⟩ rfl ⟨Sub.rfl, Sub.rfl, Sub.rfl, Sub.rfl, Sub.rfl, trivial⟩ (fun g90 => ?_)
                      refine Al_nil ?_
                      refine Ad_take 9 rfl (PuI_move (.inl rfl) (by conv => lhs; whnf)) rfl rfl (by decide) (by kernel_rfl) (by kernel_rfl) (by kernel_rfl) (by kernel_rfl) (fun _ _ h => h) ?_
                      refine Ad_take 10 rfl (PuI_extract rfl rfl rfl) rfl rfl (by decide) (by kernel_rfl) (by kernel_rfl) (by kernel_rfl) (by kernel_rfl) (fun _ _ h => h) ?_
                      refine Ad_take 11 rfl (PuI_extract rfl rfl rfl) rfl rfl (by decide) (by kernel_rfl) (by kernel_rfl) (by kernel_rfl) (by kernel_rfl) (fun _ _ h => h) ?_
                      refine Ad_one 12 rfl (by kernel_rfl) ?_
                      refine Al_alloc rfl rfl rfl (by decide) Tryz.zeroValue34 rfl (by kernel_rfl) (fun g22 => ?_)
                      refine Al_nil ?_
                      refine Ad_one 13 rfl (by kernel_rfl) ?_
                      refine Al_storeN rfl rfl rfl (by kernel_rfl) Tryz.isAgg34 Tryz.sizeOf34 rfl rfl rfl rfl (Nat.le_of_ble_eq_true rfl) ?_
                      refine Al_nil ?_
                      refine Ad_take 14 rfl (PuI_move (.inr rfl) (by conv => lhs; whnf)) rfl rfl (by decide) (by kernel_rfl) (by kernel_rfl) (by kernel_rfl) (by kernel_rfl) (fun _ _ h => h) ?_
                      refine Ad_done (by kernel_rfl) ?_
                      refine Aw_seq (Aw_region ?_)
                      refine Al_p (Pu_loadbN (r := [_, _, _, _, _, _]) rfl Tryz.isAgg34 Tryz.sizeOf34 rfl rfl rfl rfl) ?_
                      refine Al_p (Pu_loadbN (r := [_, _, _, _, _, _]) rfl Tryz.isAgg34 Tryz.sizeOf34 rfl rfl rfl rfl) ?_
                      refine Al_p (Pu_call (rvsame_a (p.writeV (J.word o.key) o.val o.gone o.pastP) (p.writeV (J.word o.key) o.val o.gone o.pastP)) rfl ⟨Sub.rfl, Sub.rfl, trivial⟩) ?_
                      refine Al_p Pu_mvr ?_
                      refine Al_nil (Aw_region ?_)
                      refine Al_p Pu_mvl ?_
                      refine Al_p Pu_mvl ?_
                      refine Al_st (St_gd [] rfl rfl rfl rfl trivial (fun hg98 => by exact Pu_move (.inl rfl) (by conv => lhs; whnf))) rfl (by decide) (by kernel_rfl) (by intro j b oj dj h1 h2 h3; cases h1; cases h2; cases h3; decide) ?_
                      refine Al_st (St_gd [] rfl rfl rfl rfl trivial (fun hg99 => by exact Pu_move (.inl rfl) (by conv => lhs; whnf))) rfl (by decide) (by kernel_rfl) (by intro j b oj dj h1 h2 h3; cases h1; cases h2; cases h3; decide) ?_
                      refine Al_st (St_gd [98, 99] rfl rfl rfl rfl ⟨⟨_, rfl⟩, ⟨_, rfl⟩, trivial⟩ (fun hg100 => Pu_cmp rfl rfl rfl rfl)) rfl (by decide) (by kernel_rfl) (by intro j b oj dj h1 h2 h3; cases h1; cases h2; cases h3; decide) ?_
                      refine Al_p (Pu_and rfl rfl rfl rfl) ?_
                      refine Al_p Pu_mvr ?_
                      refine Al_nil ?_
                      first
                        | exact ⟨(p.write (J.word o.key) o.val o.gone o.pastP, g90), hp.write _ _ _ _, Le.ov ⟨Sub.bool (by simp), trivial⟩ ⟨Sub.rfl, Sub.rfl, Sub.rfl, Sub.rfl, Sub.rfl, Sub.rfl, trivial⟩ ⟨rfl, rfl, rfl, rfl, rfl, rfl, trivial⟩ trivial⟩
                        | exact ⟨(p.arrive o.ver, g), (hp.arrive _).mono (by omega), Le.ov ⟨Sub.bool (by simp), trivial⟩ ⟨Sub.rfl, Sub.rfl, Sub.rfl, Sub.rfl, Sub.rfl, Sub.rfl, trivial⟩ ⟨rfl, rfl, rfl, rfl, rfl, rfl, trivial⟩ trivial⟩
                        | exact ⟨(p.step, g124), hp.step, Le.ov ⟨Sub.bool (by simp), trivial⟩ ⟨Sub.rfl, Sub.rfl, Sub.rfl, Sub.rfl, Sub.rfl, Sub.rfl, trivial⟩ ⟨rfl, rfl, rfl, rfl, rfl, rfl, trivial⟩ trivial⟩
                        | exact ⟨(p.move (J.ranges o.n) [o.ver], g155), hp.move _ (hrz _) _, Le.ov ⟨Sub.rfl, trivial⟩ ⟨Sub.rfl, Sub.rfl, Sub.rfl, Sub.rfl, Sub.rfl, Sub.rfl, trivial⟩ ⟨rfl, rfl, rfl, rfl, rfl, rfl, trivial⟩ trivial⟩
                        | exact ⟨(p.clean o.n 0 o.pastP, g), (hp.clean _ _ _).mono (by omega), Le.ov ⟨Sub.rfl, trivial⟩ ⟨Sub.rfl, Sub.rfl, Sub.rfl, Sub.rfl, Sub.rfl, Sub.rfl, trivial⟩ ⟨rfl, rfl, rfl, rfl, rfl, rfl, trivial⟩ trivial⟩ -- join 1 next.13
                    · refine Al_alloc rfl rfl rfl (by decide) Tryz.zeroValue34 rfl (by kernel_rfl) (fun g22 => ?_)
                      refine Al_nil ?_
                      refine Ad_one 8 rfl (by kernel_rfl) ?_
                      refine Al_gcall [(1001, 48, g48), (1002, 480, g48), (1003, 481, g)] [(1004, 481)] (rtWrite_g p (J.word o.key) o.val o.gone o.pastP hp.rk (by omega)) rfl rfl rfl (by decide) (by kernel_rfl) ⟨rfl, rfl, rfl, trivial⟩ rfl ⟨Sub.rfl, Sub.rfl, Sub.rfl, Sub.rfl, Sub.rfl, trivial⟩ (fun g90 => ?_)
                      refine Al_nil ?_
                      refine Ad_take 9 rfl (PuI_move (.inl rfl) (by conv => lhs; whnf)) rfl rfl (by decide) (by kernel_rfl) (by kernel_rfl) (by kernel_rfl) (by kernel_rfl) (fun _ _ h => h) ?_
                      refine Ad_take 10 rfl (PuI_extract rfl rfl rfl) rfl rfl (by decide) (by kernel_rfl) (by kernel_rfl) (by kernel_rfl) (by kernel_rfl) (fun _ _ h => h) ?_
                      refine Ad_take 11 rfl (PuI_extract rfl rfl rfl) rfl rfl (by decide) (by kernel_rfl) (by kernel_rfl) (by kernel_rfl) (by kernel_rfl) (fun _ _ h => h) ?_
                      refine Ad_one 13 rfl (by kernel_rfl) ?_
                      refine Al_storeN rfl rfl rfl (by kernel_rfl) Tryz.isAgg34 Tryz.sizeOf34 rfl rfl rfl rfl (Nat.le_of_ble_eq_true rfl) ?_
                      refine Al_nil ?_
                      refine Ad_take 14 rfl (PuI_move (.inr rfl) (by conv => lhs; whnf)) rfl rfl (by decide) (by kernel_rfl) (by kernel_rfl) (by kernel_rfl) (by kernel_rfl) (fun _ _ h => h) ?_
                      refine Ad_done (by kernel_rfl) ?_
                      refine Aw_seq (Aw_region ?_)
                      refine Al_p (Pu_loadbN (r := [_, _, _, _, _, _]) rfl Tryz.isAgg34 Tryz.sizeOf34 rfl rfl rfl rfl) ?_
                      refine Al_p (Pu_loadbN (r := [_, _, _, _, _, _]) rfl Tryz.isAgg34 Tryz.sizeOf34 rfl rfl rfl rfl) ?_
                      refine Al_p (Pu_call (rvsame_a (p.writeV (J.word o.key) o.val o.gone o.pastP) (p.writeV (J.word o.key) o.val o.gone o.pastP)) rfl ⟨Sub.rfl, Sub.rfl, trivial⟩) ?_
                      refine Al_p Pu_mvr ?_
                      refine Al_nil (Aw_region ?_)
                      refine Al_p Pu_mvl ?_
                      refine Al_p Pu_mvl ?_
                      refine Al_st (St_gd [] rfl rfl rfl rfl trivial (fun hg98 => by exact Pu_move (.inl rfl) (by conv => lhs; whnf))) rfl (by decide) (by kernel_rfl) (by intro j b oj dj h1 h2 h3; cases h1; cases h2; cases h3; decide) ?_
                      refine Al_st (St_gd [] rfl rfl rfl rfl trivial (fun hg99 => by exact Pu_move (.inl rfl) (by conv => lhs; whnf))) rfl (by decide) (by kernel_rfl) (by intro j b oj dj h1 h2 h3; cases h1; cases h2; cases h3; decide) ?_
                      refine Al_st (St_gd [98, 99] rfl rfl rfl rfl ⟨⟨_, rfl⟩, ⟨_, rfl⟩, trivial⟩ (fun hg100 => Pu_cmp rfl rfl rfl rfl)) rfl (by decide) (by kernel_rfl) (by intro j b oj dj h1 h2 h3; cases h1; cases h2; cases h3; decide) ?_
                      refine Al_p (Pu_and rfl rfl rfl rfl) ?_
                      refine Al_p Pu_mvr ?_
                      refine Al_nil ?_
                      first
                        | exact ⟨(p.write (J.word o.key) o.val o.gone o.pastP, g90), hp.write _ _ _ _, Le.ov ⟨Sub.bool (by simp), trivial⟩ ⟨Sub.rfl, Sub.rfl, Sub.rfl, Sub.rfl, Sub.rfl, Sub.rfl, trivial⟩ ⟨rfl, rfl, rfl, rfl, rfl, rfl, trivial⟩ trivial⟩
                        | exact ⟨(p.arrive o.ver, g), (hp.arrive _).mono (by omega), Le.ov ⟨Sub.bool (by simp), trivial⟩ ⟨Sub.rfl, Sub.rfl, Sub.rfl, Sub.rfl, Sub.rfl, Sub.rfl, trivial⟩ ⟨rfl, rfl, rfl, rfl, rfl, rfl, trivial⟩ trivial⟩
                        | exact ⟨(p.step, g124), hp.step, Le.ov ⟨Sub.bool (by simp), trivial⟩ ⟨Sub.rfl, Sub.rfl, Sub.rfl, Sub.rfl, Sub.rfl, Sub.rfl, trivial⟩ ⟨rfl, rfl, rfl, rfl, rfl, rfl, trivial⟩ trivial⟩
                        | exact ⟨(p.move (J.ranges o.n) [o.ver], g155), hp.move _ (hrz _) _, Le.ov ⟨Sub.rfl, trivial⟩ ⟨Sub.rfl, Sub.rfl, Sub.rfl, Sub.rfl, Sub.rfl, Sub.rfl, trivial⟩ ⟨rfl, rfl, rfl, rfl, rfl, rfl, trivial⟩ trivial⟩
                        | exact ⟨(p.clean o.n 0 o.pastP, g), (hp.clean _ _ _).mono (by omega), Le.ov ⟨Sub.rfl, trivial⟩ ⟨Sub.rfl, Sub.rfl, Sub.rfl, Sub.rfl, Sub.rfl, Sub.rfl, trivial⟩ ⟨rfl, rfl, rfl, rfl, rfl, rfl, trivial⟩ trivial⟩ -- join 1 next.14
                  · refine Ad_one 8 rfl (by kernel_rfl) ?_
                    refine Al_gcall [(1001, 48, g48), (1002, 480, g48), (1003, 481, g)] [(1004, 481)] (rtWrite_g p (J.word o.key) o.val o.gone o.pastP hp.rk (by omega)) rfl rfl rfl (by decide) (by kernel_rfl) ⟨rfl, rfl, rfl, trivial⟩ rfl ⟨Sub.rfl, Sub.rfl, Sub.rfl, Sub.rfl, Sub.rfl, trivial⟩ (fun g90 => ?_)
                    refine Al_nil ?_
                    refine Ad_take 9 rfl (PuI_move (.inl rfl) (by conv => lhs; whnf)) rfl rfl (by decide) (by kernel_rfl) (by kernel_rfl) (by kernel_rfl) (by kernel_rfl) (fun _ _ h => h) ?_
                    refine Ad_take 10 rfl (PuI_extract rfl rfl rfl) rfl rfl (by decide) (by kernel_rfl) (by kernel_rfl) (by kernel_rfl) (by kernel_rfl) (fun _ _ h => h) ?_
                    refine Ad_take 11 rfl (PuI_extract rfl rfl rfl) rfl rfl (by decide) (by kernel_rfl) (by kernel_rfl) (by kernel_rfl) (by kernel_rfl) (fun _ _ h => h) ?_
                    refine Ad_one 13 rfl (by kernel_rfl) ?_
                    refine Al_storeN rfl rfl rfl (by kernel_rfl) Tryz.isAgg34 Tryz.sizeOf34 rfl rfl rfl rfl (Nat.le_of_ble_eq_true rfl) ?_
                    refine Al_nil ?_
                    refine Ad_take 14 rfl (PuI_move (.inr rfl) (by conv => lhs; whnf)) rfl rfl (by decide) (by kernel_rfl) (by kernel_rfl) (by kernel_rfl) (by kernel_rfl) (fun _ _ h => h) ?_
                    refine Ad_done (by kernel_rfl) ?_
                    refine Aw_seq (Aw_region ?_)
                    refine Al_p (Pu_loadbN (r := [_, _, _, _, _, _]) rfl Tryz.isAgg34 Tryz.sizeOf34 rfl rfl rfl rfl) ?_
                    refine Al_p (Pu_loadbN (r := [_, _, _, _, _, _]) rfl Tryz.isAgg34 Tryz.sizeOf34 rfl rfl rfl rfl) ?_
                    refine Al_p (Pu_call (rvsame_a (p.writeV (J.word o.key) o.val o.gone o.pastP) (p.writeV (J.word o.key) o.val o.gone o.pastP)) rfl ⟨Sub.rfl, Sub.rfl, trivial⟩) ?_
                    refine Al_p Pu_mvr ?_
                    refine Al_nil (Aw_region ?_)
                    refine Al_p Pu_mvl ?_
                    refine Al_p Pu_mvl ?_
                    refine Al_st (St_gd [] rfl rfl rfl rfl trivial (fun hg98 => by exact Pu_move (.inl rfl) (by conv => lhs; whnf))) rfl (by decide) (by kernel_rfl) (by intro j b oj dj h1 h2 h3; cases h1; cases h2; cases h3; decide) ?_
                    refine Al_st (St_gd [] rfl rfl rfl rfl trivial (fun hg99 => by exact Pu_move (.inl rfl) (by conv => lhs; whnf))) rfl (by decide) (by kernel_rfl) (by intro j b oj dj h1 h2 h3; cases h1; cases h2; cases h3; decide) ?_
                    refine Al_st (St_gd [98, 99] rfl rfl rfl rfl ⟨⟨_, rfl⟩, ⟨_, rfl⟩, trivial⟩ (fun hg100 => Pu_cmp rfl rfl rfl rfl)) rfl (by decide) (by kernel_rfl) (by intro j b oj dj h1 h2 h3; cases h1; cases h2; cases h3; decide) ?_
                    refine Al_p (Pu_and rfl rfl rfl rfl) ?_
                    refine Al_p Pu_mvr ?_
                    refine Al_nil ?_
                    first
                      | exact ⟨(p.write (J.word o.key) o.val o.gone o.pastP, g90), hp.write _ _ _ _, Le.ov ⟨Sub.bool (by simp), trivial⟩ ⟨Sub.rfl, Sub.rfl, Sub.rfl, Sub.rfl, Sub.rfl, Sub.rfl, trivial⟩ ⟨rfl, rfl, rfl, rfl, rfl, rfl, trivial⟩ trivial⟩
                      | exact ⟨(p.arrive o.ver, g), (hp.arrive _).mono (by omega), Le.ov ⟨Sub.bool (by simp), trivial⟩ ⟨Sub.rfl, Sub.rfl, Sub.rfl, Sub.rfl, Sub.rfl, Sub.rfl, trivial⟩ ⟨rfl, rfl, rfl, rfl, rfl, rfl, trivial⟩ trivial⟩
                      | exact ⟨(p.step, g124), hp.step, Le.ov ⟨Sub.bool (by simp), trivial⟩ ⟨Sub.rfl, Sub.rfl, Sub.rfl, Sub.rfl, Sub.rfl, Sub.rfl, trivial⟩ ⟨rfl, rfl, rfl, rfl, rfl, rfl, trivial⟩ trivial⟩
                      | exact ⟨(p.move (J.ranges o.n) [o.ver], g155), hp.move _ (hrz _) _, Le.ov ⟨Sub.rfl, trivial⟩ ⟨Sub.rfl, Sub.rfl, Sub.rfl, Sub.rfl, Sub.rfl, Sub.rfl, trivial⟩ ⟨rfl, rfl, rfl, rfl, rfl, rfl, trivial⟩ trivial⟩
                      | exact ⟨(p.clean o.n 0 o.pastP, g), (hp.clean _ _ _).mono (by omega), Le.ov ⟨Sub.rfl, trivial⟩ ⟨Sub.rfl, Sub.rfl, Sub.rfl, Sub.rfl, Sub.rfl, Sub.rfl, trivial⟩ ⟨rfl, rfl, rfl, rfl, rfl, rfl, trivial⟩ trivial⟩ -- join 1 next.15
    · rintro ⟨q, g'⟩ hq
      have hrc := PS.read_chk hq.chk (J.word o.key)
      have hcl : q.cs.length ≤ 1000 := (hq.rk.ok.sm.mono (show k + 1 ≤ 1000 by omega)).1
      have hm : k + 1 ≤ 1000 := by omega
      refine Aw_seq (Aw_region ?_)
      refine Al_p Pu_mvl ?_
      refine Al_p Pu_mvl ?_
      refine Al_p (Pu_gcall [(1001, 42, g42), (1002, 420, g42), (1003, 421, g42)] (stRead_g q b (J.word o.key) hq.rk.ok hm) (ST_in ..) rfl ⟨rfl, rfl, rfl, trivial⟩ rfl ⟨Sub.rfl, Sub.rfl, trivial⟩) ?_
      refine Al_p Pu_mvl ?_
      refine Al_p (Pu_extract rfl rfl rfl) ?_
      refine Al_p (Pu_extract rfl rfl rfl) ?_
      refine Al_p (Pu_extract rfl rfl rfl) ?_
      refine Al_alloc rfl rfl rfl (by decide) Tryz.zeroValue34 rfl (by kernel_rfl) (fun g25 => ?_)
      refine Al_storeN rfl rfl rfl (by kernel_rfl) Tryz.isAgg34 Tryz.sizeOf34 rfl rfl rfl rfl (Nat.le_of_ble_eq_true rfl) ?_
      refine Al_p Pu_mvr ?_
      refine Al_p Pu_mvr ?_
      refine Al_nil (Aw_seq (Aw_region ?_))
      refine Al_p Pu_mvl ?_
      refine Al_p Pu_mvl ?_
      refine Al_p (Pu_gcall [(1001, 48, g48), (1002, 480, g48), (1003, 481, g')] (rtRead_g q (J.word o.key) hq.rk hm) (RT_in ..) rfl ⟨rfl, rfl, rfl, trivial⟩ rfl ⟨Sub.rfl, Sub.rfl, trivial⟩) ?_
      refine Al_p Pu_mvl ?_
      refine Al_p (Pu_extract rfl rfl rfl) ?_
      refine Al_p (Pu_extract rfl rfl rfl) ?_
      refine Al_alloc rfl rfl rfl (by decide) Tryz.zeroValue34 rfl (by kernel_rfl) (fun g28 => ?_)
      refine Al_storeN rfl rfl rfl (by kernel_rfl) Tryz.isAgg34 Tryz.sizeOf34 rfl rfl rfl rfl (Nat.le_of_ble_eq_true rfl) ?_
      refine Al_p Pu_mvr ?_
      refine Al_nil (Aw_seq (Aw_region ?_))
      refine Al_p (Pu_loadbN (r := [_, _, _, _, _, _]) rfl Tryz.isAgg34 Tryz.sizeOf34 rfl rfl rfl rfl) ?_
      refine Al_p (Pu_loadbN (r := [_, _, _, _, _, _]) rfl Tryz.isAgg34 Tryz.sizeOf34 rfl rfl rfl rfl) ?_
      refine Al_p (Pu_call (rvsame_a ((q.readV (J.word o.key)).getD default) ((q.readV (J.word o.key)).getD default)) rfl ⟨Sub.rfl, Sub.rfl, trivial⟩) ?_
      refine Al_p Pu_mvr ?_
      refine Al_nil (Aw_seq ?_)
      refine Aw_draw 8 (by kernel_rfl) (by kernel_rfl) ?_
      refine Dr_p Pu_mvl ?_
      refine Dr_p (Pu_gcall [(1001, 42, g42), (1002, 420, g42), (1003, 421, g42)] (stHave_g q b hq.rk.ok hm) (ST_in ..) rfl ⟨rfl, rfl, rfl, trivial⟩ rfl ⟨Sub.rfl, trivial⟩) ?_
      refine Dr_p Pu_mvl ?_
      refine Dr_p (Pu_nilb rfl rfl) ?_
      refine Dr_p (Pu_fieldb 1 rfl Tryz.underlying68 rfl rfl Tryz.sizeOf66 rfl) ?_
      refine Dr_p (Pu_loadb rfl Tryz.isAgg66 rfl rfl rfl) ?_
      refine Dr_p (Pu_gcall [(1001, 480, g48), (1002, 481, g')] (rhave13_g q.rs q.cs hcl hq.rk.ok.rise) (RH_in ..) rfl ⟨rfl, rfl, trivial⟩ rfl ⟨Sub.rfl, trivial⟩) ?_
      refine Dr_p (Pu_call (dsame_a (J.have' q.cs) (J.have' q.cs)) rfl ⟨Sub.rfl, Sub.rfl, trivial⟩) ?_
      refine Dr_nil ?_
      refine Al_p Pu_mvr ?_
      refine Al_nil (Aw_seq ?_)
      refine Aw_draw 10 (by kernel_rfl) (by kernel_rfl) ?_
      refine Dr_p Pu_mvl ?_
      refine Dr_p Pu_mvl ?_
      refine Dr_p (Pu_gcall [(1001, 42, g42), (1002, 420, g42), (1003, 421, g42)] (stChain_g q b (J.word o.key) hq.rk.ok hm) (ST_in ..) rfl ⟨rfl, rfl, rfl, trivial⟩ rfl ⟨Sub.rfl, Sub.rfl, trivial⟩) ?_
      refine Dr_p Pu_mvl ?_
      refine Dr_p (Pu_nilb rfl rfl) ?_
      refine Dr_p (Pu_fieldb 1 rfl Tryz.underlying68 rfl rfl Tryz.sizeOf66 rfl) ?_
      refine Dr_p (Pu_loadb rfl Tryz.isAgg66 rfl rfl rfl) ?_
      refine Dr_p Pu_mvl ?_
      refine Dr_p (Pu_gcall [(1001, 480, g48), (1002, 481, g')] (rof13_g q.rs q.cs (J.word o.key) hcl) (RH_in ..) rfl ⟨rfl, rfl, trivial⟩ rfl ⟨Sub.rfl, Sub.rfl, trivial⟩) ?_
      refine Dr_p (Pu_call (rsame12_a (J.getC q.cs (J.word o.key)) (J.getC q.cs (J.word o.key))) rfl ⟨Sub.rfl, Sub.rfl, trivial⟩) ?_
      refine Dr_nil ?_
      refine Al_p Pu_mvr ?_
      refine Al_nil (Aw_seq ?_)
      refine Aw_draw 10 (by kernel_rfl) (by kernel_rfl) ?_
      refine Dr_p Pu_mvl ?_
      refine Dr_p (Pu_gcall [(1001, 42, g42), (1002, 420, g42), (1003, 421, g42)] (stOwn_g q b hq.rk.ok.rl) (ST_in ..) rfl ⟨rfl, rfl, rfl, trivial⟩ rfl ⟨Sub.rfl, trivial⟩) ?_
      refine Dr_p Pu_mvl ?_
      refine Dr_p (Pu_nilb rfl rfl) ?_
      refine Dr_p (Pu_fieldb 1 rfl Tryz.underlying68 rfl rfl Tryz.sizeOf66 rfl) ?_
      refine Dr_p (Pu_loadb rfl Tryz.isAgg66 rfl rfl rfl) ?_
      refine Dr_p (Pu_nilb rfl rfl) ?_
      refine Dr_p (Pu_fieldb 0 rfl Tryz.underlying76 rfl rfl Tryz.sizeOf26 rfl) ?_
      refine Dr_p (Pu_loadb rfl Tryz.isAgg26 rfl rfl rfl) ?_
      refine Dr_p (Pu_call (sameranges_a q.rs hq.rk.ok.rl) rfl ⟨Sub.rfl, Sub.rfl, trivial⟩) ?_
      refine Dr_nil ?_
      refine Al_p Pu_mvr ?_
      refine Al_nil (Aw_seq ?_)
      refine Aw_draw 50 (by kernel_rfl) (by kernel_rfl) ?_
      refine Dr_p Pu_mvl ?_
      refine Dr_p (Pu_not rfl rfl) ?_
      refine Dr_p Pu_mvl ?_
      refine Dr_st (St_gd [] rfl rfl rfl rfl trivial (fun hg220 => by exact Pu_move (.inl rfl) (by conv => lhs; whnf))) rfl ?_
      refine Dr_st (St_gd [220] rfl rfl rfl rfl ⟨⟨_, rfl⟩, trivial⟩ (fun hg221 => Pu_not rfl rfl)) rfl ?_
      refine Dr_p (Pu_or rfl rfl rfl rfl) ?_
      refine Dr_p Pu_mvl ?_
      refine Dr_st (St_gd [] rfl rfl rfl rfl trivial (fun hg224 => by exact Pu_move (.inl rfl) (by conv => lhs; whnf))) rfl ?_
      refine Dr_st (St_gd [] rfl rfl rfl rfl trivial (fun hg225 => by exact Pu_move (.inl rfl) (by conv => lhs; whnf))) rfl ?_
      refine Dr_st (St_gd [224, 225] rfl rfl rfl rfl ⟨⟨_, rfl⟩, ⟨_, rfl⟩, trivial⟩ (fun hg226 => Pu_cmp rfl rfl rfl rfl)) rfl ?_
      refine Dr_p (Pu_or rfl rfl rfl rfl) ?_
      refine Dr_p Pu_mvl ?_
      refine Dr_st (St_gd [] rfl rfl rfl rfl trivial (fun hg229 => by exact Pu_move (.inl rfl) (by conv => lhs; whnf))) rfl ?_
      refine Dr_st (St_gd [] rfl rfl rfl rfl trivial (fun hg230 => Pu_fieldb 3 rfl Tryz.underlying34 rfl rfl Tryz.sizeOf31 rfl)) rfl ?_
      refine Dr_st (St_gd [230] rfl rfl rfl rfl ⟨⟨_, rfl⟩, trivial⟩ (fun hg231 => Pu_fieldb 0 rfl Tryz.underlying31 rfl rfl Tryz.sizeOf3 rfl)) rfl ?_
      refine Dr_st (St_gd [231] rfl rfl rfl rfl ⟨⟨_, rfl⟩, trivial⟩ (fun hg232 => Pu_loadb rfl Tryz.isAgg3 rfl rfl rfl)) rfl ?_
      refine Dr_st (St_gd [232] rfl rfl rfl rfl ⟨⟨_, rfl⟩, trivial⟩ (fun hg233 => Pu_cmp rfl rfl rfl rfl)) rfl ?_
      refine Dr_st (St_gd [229, 233] rfl rfl rfl rfl ⟨⟨_, rfl⟩, ⟨_, rfl⟩, trivial⟩ (fun hg234 => Pu_bool rfl Tryz.underlying4 rfl rfl rfl)) rfl ?_
      refine Dr_p (Pu_or rfl rfl rfl rfl) ?_
      refine Dr_p Pu_mvl ?_
      refine Dr_st (St_gd [] rfl rfl rfl rfl trivial (fun hg237 => by exact Pu_move (.inl rfl) (by conv => lhs; whnf))) rfl ?_
      refine Dr_st (St_gd [237] rfl rfl rfl rfl ⟨⟨_, rfl⟩, trivial⟩ (fun hg238 => Pu_not rfl rfl)) rfl ?_
      refine Dr_p (Pu_or rfl rfl rfl rfl) ?_
      refine Dr_p Pu_mvl ?_
      refine Dr_st (St_gd [] rfl rfl rfl rfl trivial (fun hg241 => by exact Pu_move (.inl rfl) (by conv => lhs; whnf))) rfl ?_
      refine Dr_st (St_gd [241] rfl rfl rfl rfl ⟨⟨_, rfl⟩, trivial⟩ (fun hg242 => Pu_not rfl rfl)) rfl ?_
      refine Dr_p (Pu_or rfl rfl rfl rfl) ?_
      refine Dr_p Pu_mvl ?_
      refine Dr_st (St_gd [] rfl rfl rfl rfl trivial (fun hg245 => by exact Pu_move (.inl rfl) (by conv => lhs; whnf))) rfl ?_
      refine Dr_st (St_gd [245] rfl rfl rfl rfl ⟨⟨_, rfl⟩, trivial⟩ (fun hg246 => Pu_not rfl rfl)) rfl ?_
      refine Dr_p (Pu_or rfl rfl rfl rfl) ?_
      refine Dr_p Pu_mvl ?_
      refine Dr_st (St_gd [] rfl rfl rfl rfl trivial (fun hg249 => by exact Pu_move (.inl rfl) (by conv => lhs; whnf))) rfl ?_
      refine Dr_st (St_gd [249] rfl rfl rfl rfl ⟨⟨_, rfl⟩, trivial⟩ (fun hg250 => Pu_gcall [(1001, 42, g42), (1002, 420, g42), (1003, 421, g42)] (stClock_g q b) (ST_in ..) rfl ⟨rfl, rfl, rfl, trivial⟩ rfl ⟨Sub.rfl, trivial⟩)) rfl ?_
      refine Dr_st (St_gd [] rfl rfl rfl rfl trivial (fun hg251 => by exact Pu_move (.inl rfl) (by conv => lhs; whnf))) rfl ?_
      refine Dr_st (St_gd [251] rfl rfl rfl rfl ⟨⟨_, rfl⟩, trivial⟩ (fun hg252 => Pu_nilb rfl rfl)) rfl ?_
      refine Dr_st (St_gd [252] rfl rfl rfl rfl ⟨⟨_, rfl⟩, trivial⟩ (fun hg253 => Pu_fieldb 3 rfl Tryz.underlying68 rfl rfl Tryz.sizeOf31 rfl)) rfl ?_
      refine Dr_st (St_gd [253] rfl rfl rfl rfl ⟨⟨_, rfl⟩, trivial⟩ (fun hg254 => Pu_loadbN (r := [_, _]) rfl Tryz.isAgg31 Tryz.sizeOf31 rfl rfl rfl rfl)) rfl ?_
      refine Dr_st (St_gd [250, 254] rfl rfl rfl rfl ⟨⟨_, rfl⟩, ⟨_, rfl⟩, trivial⟩ (fun hg255 => Pu_eqrow [.int .i64 _, .int .i64 _] [.int .i64 _, .int .i64 _] (fun w => nev31 _ _ _ _ _ _ w) rfl rfl rfl)) rfl ?_
      refine Dr_p (Pu_or rfl rfl rfl rfl) ?_
      refine Dr_p Pu_mvl ?_
      refine Dr_st (St_gd [] rfl rfl rfl rfl trivial (fun hg258 => by exact Pu_move (.inl rfl) (by conv => lhs; whnf))) rfl ?_
      refine Dr_st (St_gd [258] rfl rfl rfl rfl ⟨⟨_, rfl⟩, trivial⟩ (fun hg259 => Pu_gcall [(1001, 42, g42), (1002, 420, g42), (1003, 421, g42)] (stWaiting_g q b) (ST_in ..) rfl ⟨rfl, rfl, rfl, trivial⟩ rfl ⟨Sub.rfl, trivial⟩)) rfl ?_
      refine Dr_st (St_gd [] rfl rfl rfl rfl trivial (fun hg260 => by exact Pu_move (.inl rfl) (by conv => lhs; whnf))) rfl ?_
      refine Dr_st (St_gd [260] rfl rfl rfl rfl ⟨⟨_, rfl⟩, trivial⟩ (fun hg261 => Pu_nilb rfl rfl)) rfl ?_
      refine Dr_st (St_gd [261] rfl rfl rfl rfl ⟨⟨_, rfl⟩, trivial⟩ (fun hg262 => Pu_fieldb 2 rfl Tryz.underlying68 rfl rfl Tryz.sizeOf65 rfl)) rfl ?_
      refine Dr_st (St_gd [262] rfl rfl rfl rfl ⟨⟨_, rfl⟩, trivial⟩ (fun hg263 => Pu_loadb rfl Tryz.isAgg65 rfl rfl rfl)) rfl ?_
      refine Dr_st (St_gd [263] rfl rfl rfl rfl ⟨⟨_, rfl⟩, trivial⟩ (fun hg264 => by exact Pu_len rfl Tryz.underlying65 rfl (by first | exact List.length_map .. | exact rfl))) rfl ?_
      refine Dr_st (St_gd [259, 264] rfl rfl rfl rfl ⟨⟨_, rfl⟩, ⟨_, rfl⟩, trivial⟩ (fun hg265 => Pu_cmp rfl rfl rfl rfl)) rfl ?_
      refine Dr_p (Pu_or rfl rfl rfl rfl) ?_
      refine Dr_nil (Al_nil ?_)
      refine Aw_cond rfl (fun h266 => ?_) (fun h266 => ?_)
      · skip
        exfalso
        rw [← hrc] at h266
        simp at h266
      · skip
        refine Aw_skip (Aw_region ?_)
        refine Al_p Pu_mvl ?_
        refine Al_p (Pu_add rfl rfl rfl (fun h1 h2 => by simp only [A.inI, A.maxI] at *; omega)) ?_
        refine Al_p Pu_mvr ?_
        refine Al_nil ?_
        exact ⟨(k + 1, q, g'), ⟨by omega, by omega, hq⟩, by simp only []; omega, Le.ov ⟨Sub.num (by omega), trivial⟩ ⟨Sub.rfl, Sub.rfl, Sub.rfl, Sub.rfl, trivial⟩ ⟨rfl, rfl, rfl, rfl, rfl, rfl, trivial⟩ trivial⟩ -- loop 0 next.0
  · (try simp only [decide_eq_true_eq, Bool.and_eq_true] at h56)
    refine Aw_exit (Aw_seq (Aw_region ?_))
    refine Al_p Pu_mvl ?_
    refine Al_p Pu_mvr ?_
    refine Al_nil ?_
    refine Aw_ret ?_
    exact Sub.rfl -- ret 0
end Go.Proofs.YtmbaeloiepjakaaGreat
end
