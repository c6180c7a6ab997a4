/- What the proofs need in common, laid together (5 of 5): no condition. -/
import Derived.Test.YtojehmkkbdedaaaGreatS4
set_option linter.unusedSimpArgs false
set_option linter.unusedVariables false
set_option linter.constructorNameAsVariable false

section
set_option maxRecDepth 100000
namespace Go.Proofs.YtojehmkkbdedaaaGreat.A
open Go Go.RowKit
/-- An element of an array that is a value. -/
theorem Pu_indexA {P : Program} {st : ASt} {o : Oper} {t e : TypeId} {x i : Operand} {m j : Nat} {z : Int} {cs : List AV} {c : AV} (ho : o.op = .index t x i) (ht : P.underlying t = some (.array m e)) (hg : ∀ w, (isAgg e).run P w = .ok false w) (hz : ∀ w, (sizeOf e).run P w = .ok 1 w) (hx : st.ev x = .d (.row cs)) (hi : st.ev i = .d (.v (.int .i64 z))) (hk : z = j) (hlt : j < m) (hc : cs[j]? = some c) : Pu P st o (.d c) := Pu_q fun B M ρ w a h2 _ => by
  subst hk
  have m' : x ∈ opsOf o ∧ i ∈ opsOf o := by simp [opsOf, ho, Op.operands]
  have hm := h2 x m'.1
  rw [hx] at hm
  obtain ⟨e2, _⟩ := ev_v h2 m'.2 hi
  generalize hax : a.eval x = y at hm
  cases hm with
  | row cs' vs hl h1 hr =>
    have hj : j < vs.length := by rw [hl]; exact (List.getElem?_eq_some_iff.1 hc).1
    refine ⟨vs[j], ?_, hr j c _ hc (by simp [hj])⟩
    have e3 : vs.toArray[(j : Int).toNat * 1]? = some vs[j] := by simp [hj]
    simp only [execOp, ho, hax, e2, Instr.index, Sem.run_bind, asIntOf, Sem.run_pure, Result.andThen_ok, run_underlying ht]
    rw [if_pos ⟨by omega, by omega⟩]
    simp only [part, Sem.run_bind, hg, hz, Result.andThen_ok, Bool.false_eq_true, if_false, e3, Sem.run_pure]
end Go.Proofs.YtojehmkkbdedaaaGreat.A
namespace Go.Proofs.YtojehmkkbdedaaaGreat
open Go Go.RowKit A R
open A.RowT
namespace H
def all5 (s : SSt) : List Bool := [owning s, covered s, heads s, causal s, meets s]
/-- The first that is not so; 0: there is none. -/
def firstNo (l : List Bool) : Int := match l.findIdx? (fun b => !b) with
  | some i => (i : Int) + 1
  | none => 0
theorem first_at {l : List Bool} {k : Nat} (hk : k < l.length) (h : ∀ a, a < k → l.getD a true = true) (hn : l.getD k true = false) : firstNo l = (k : Int) + 1 := by
  have : l.findIdx? (fun b => !b) = some k := by
    rw [List.findIdx?_eq_some_iff_getElem]
    refine ⟨hk, ?_, fun j hj => ?_⟩
    · have hg : l.getD k true = l[k] := by simp [hk]
      rw [hg] at hn; rw [hn]; rfl
    · have hg : l.getD j true = l[j]'(by omega) := by simp [show j < l.length by omega]
      have := h j hj
      rw [hg] at this; rw [this]; simp
  unfold firstNo; rw [this]
theorem first_none {l : List Bool} (h : ∀ a, a < l.length → l.getD a true = true) : firstNo l = 0 := by
  have : l.findIdx? (fun b => !b) = none := by
    rw [List.findIdx?_eq_none_iff]
    intro x hx
    obtain ⟨j, hj, rfl⟩ := List.getElem_of_mem hx
    have hg : l.getD j true = l[j] := by simp [hj]
    have := h j hj
    rw [hg] at this; rw [this]; rfl
  unfold firstNo; rw [this]
theorem row5 (a b c d e : Bool) {k : Nat} (hk : k < 5) : ([bv a, bv b, bv c, bv d, bv e] : List AV)[k]? = some (bv ([a, b, c, d, e].getD k true)) := by
  match k, hk with
  | 0, _ => rfl
  | 1, _ => rfl
  | 2, _ => rfl
  | 3, _ => rfl
  | 4, _ => rfl
theorem box5 (a b c d e : Bool) {k : Nat} (hk : k < 5) : ([SV.d (bv a), .d (bv b), .d (bv c), .d (bv d), .d (bv e)] : List SV)[0 + k * 1]? = some (.d (bv ([a, b, c, d, e].getD k true))) := by
  match k, hk with
  | 0, _ => rfl
  | 1, _ => rfl
  | 2, _ => rfl
  | 3, _ => rfl
  | 4, _ => rfl
theorem SOk.have1 {s : SSt} (h : SOk s) : ∀ p ∈ s.have', p.length ≤ 1000000 := fun p hp => by have := (h.hv p hp).2; omega
end H
theorem scheck_a (s : SSt) (hs : H.SOk s) : ACall Tryz.prog 12 [.row s.cells] (iv (H.firstNo (H.all5 s))) := by
  refine ACall_enter (fun _ _ => by kernel_rfl) Tryz.func12 rfl Tryz.ntmps12 Tryz.results12 (Nat.le_of_ble_eq_true rfl) (fun hok M0 w0 hnl => ?_)
  have hn := hs.hn
  refine Aw_seq (Aw_region ?_)
  refine Al_p (Pu_boxN rfl rfl) ?_
  refine Al_p Pu_mvr ?_
  refine Al_nil (Aw_seq (Aw_seq ?_))
  refine Aw_draw 12 (by kernel_rfl) (by kernel_rfl) ?_
  refine Dr_p (Pu_loadN rfl Tryz.isAgg32 Tryz.sizeOf32 rfl (Nat.le_of_ble_eq_true rfl)) ?_
  refine Dr_p (Pu_call (sowning_a s hs.have1) rfl ⟨Sub.rfl, trivial⟩) ?_
  refine Dr_p (Pu_loadN rfl Tryz.isAgg32 Tryz.sizeOf32 rfl (Nat.le_of_ble_eq_true rfl)) ?_
  refine Dr_p (Pu_call (scovered_a s hs) rfl ⟨Sub.rfl, trivial⟩) ?_
  refine Dr_p (Pu_loadN rfl Tryz.isAgg32 Tryz.sizeOf32 rfl (Nat.le_of_ble_eq_true rfl)) ?_
  refine Dr_p (Pu_call (sheads_a s hs.have1 (by omega)) rfl ⟨Sub.rfl, trivial⟩) ?_
  refine Dr_p (Pu_loadN rfl Tryz.isAgg32 Tryz.sizeOf32 rfl (Nat.le_of_ble_eq_true rfl)) ?_
  refine Dr_p (Pu_call (scausal_a s hs) rfl ⟨Sub.rfl, trivial⟩) ?_
  refine Dr_p (Pu_loadN rfl Tryz.isAgg32 Tryz.sizeOf32 rfl (Nat.le_of_ble_eq_true rfl)) ?_
  refine Dr_p (Pu_call (smeets_a s hs) rfl ⟨Sub.rfl, trivial⟩) ?_
  refine Dr_p (Pu_buildArr (aa := [(0, _), (1, _), (2, _), (3, _), (4, _)]) rfl Tryz.underlying37 Tryz.zeroValue37 Tryz.sizeOf4 (by kernel_rfl) ⟨rfl, rfl, rfl, rfl, rfl, rfl, rfl, rfl, rfl, rfl, rfl, rfl, rfl, rfl, rfl, trivial⟩ rfl) ?_
  refine Dr_p Pu_mvl ?_
  refine Dr_nil (Al_nil (Aw_block ?_))
  refine Aw_loopk (ι := Nat) [15] [] (fun k => [(16, .d (iv k))]) (fun k => []) (fun k => k ≤ 5 ∧ ∀ a, a < k → (H.all5 s).getD a true = true) (fun k => 5 - k) (0) (⟨Nat.zero_le _, fun i hi => absurd hi (Nat.not_lt_zero _)⟩) ⟨Sub.rfl, trivial⟩ trivial ?_
  rintro k ⟨hk0, hall⟩
  refine Aw_seq (Aw_region ?_)
  refine Al_p (Pu_cmp rfl rfl rfl rfl) ?_
  refine Al_nil (Aw_seq ?_)
  refine Aw_cond rfl (fun h17 => ?_) (fun h17 => ?_)
  · (try simp only [decide_eq_true_eq, decide_eq_false_iff_not, Bool.and_eq_true, Bool.or_eq_true, Bool.and_eq_false_iff, Bool.or_eq_false_iff, Bool.not_eq_true', Bool.not_eq_false', beq_iff_eq, Bool.not_eq_eq_eq_not, Bool.not_true, Bool.not_false, List.length_map, Bool.and_true, Bool.and_false, Bool.false_and, Bool.true_and, Bool.or_false, Bool.false_or] at h17)
    have hk5 : k < 5 := by omega
    refine Aw_skip (Aw_seq (Aw_block (Aw_seq (Aw_region ?_))))
    refine Al_p Pu_mvl ?_
    refine Al_p (Pu_indexA (j := k) rfl Tryz.underlying37 Tryz.isAgg4 Tryz.sizeOf4 rfl rfl rfl hk5 (H.row5 (H.owning s) (H.covered s) (H.heads s) (H.causal s) (H.meets s) hk5)) ?_
    refine Al_p Pu_mvr ?_
    refine Al_p Pu_mvr ?_
    refine Al_nil (Aw_seq (Aw_region ?_))
    refine Al_p Pu_mvl ?_
    refine Al_p (Pu_not rfl rfl) ?_
    refine Al_nil ?_
    refine Aw_cond rfl (fun h21 => ?_) (fun h21 => ?_)
    · skip
      have hno : (H.all5 s).getD k true = false := by
        have h0 : (!((H.all5 s).getD k true)) = true := h21
        revert h0; cases (H.all5 s).getD k true <;> simp
      refine Aw_seq (Aw_region ?_)
      refine Al_p Pu_mvl ?_
      refine Al_p (Pu_add rfl rfl rfl (fun h1 h2 => by simp only [A.inI, A.maxI] at *; omega)) ?_
      refine Al_p Pu_mvr ?_
      refine Al_nil ?_
      refine Aw_ret ?_
      exact Sub.num (H.first_at (l := H.all5 s) hk5 hall hno).symm -- ret 0
    · skip
      have hyes : (H.all5 s).getD k true = true := by
        have h0 : (!((H.all5 s).getD k true)) = false := h21
        revert h0; cases (H.all5 s).getD k true <;> simp
      refine Aw_skip (Aw_region ?_)
      refine Al_p (Pu_add rfl rfl rfl (fun h1 h2 => by simp only [A.inI, A.maxI] at *; omega)) ?_
      refine Al_p Pu_mvl ?_
      refine Al_nil ?_
      exact ⟨k + 1, ⟨by omega, fun a ha => by
        rcases Nat.lt_or_ge a k with h | h
        · exact hall a h
        · rw [show a = k from by omega]; exact hyes⟩, by omega, Le.ov ⟨Sub.num (by omega), trivial⟩ ⟨Sub.rfl, trivial⟩ trivial trivial⟩ -- loop 0 next.0
  · (try simp only [decide_eq_true_eq, decide_eq_false_iff_not, Bool.and_eq_true, Bool.or_eq_true, Bool.and_eq_false_iff, Bool.or_eq_false_iff, Bool.not_eq_true', Bool.not_eq_false', beq_iff_eq, Bool.not_eq_eq_eq_not, Bool.not_true, Bool.not_false, List.length_map, Bool.and_true, Bool.and_false, Bool.false_and, Bool.true_and, Bool.or_false, Bool.false_or] at h17)
    obtain rfl : k = 5 := by omega
    refine Aw_exit (Aw_seq (Aw_region ?_))
    refine Al_p Pu_mvr ?_
    refine Al_nil ?_
    refine Aw_ret ?_
    exact Sub.num (H.first_none (l := H.all5 s) hall).symm -- ret 1
namespace H
def cut (d : Dep) : Dep := ⟨d.key.extract 0 12, d.n, d.s⟩
def depsL (l : List Dep) : List Dep := D.addAll [] ((l.take 5).map cut)
def cutE (e : Event) : Event := ⟨e.kind, e.client, e.key.extract 0 12, e.n, e.s, depsL e.seen⟩
def few (s : SSt) : SSt := ⟨⟨[], [], []⟩, (s.have'.take 5).map depsL, s.wait.take 5, (s.sess.take 4).map fun c => (c.1, depsL c.2), (s.hist.take 8).map cutE, s.idle⟩
abbrev nilS : SV := .d (.v (.slice none 0 0))
theorem short (k : ByteArray) (h : k.size ≤ 12) : k.extract 0 12 = k := by
  apply ByteArray.ext
  rw [ByteArray.data_extract]
  exact Array.extract_eq_self_of_le (by exact h)
theorem depsL_len (l : List Dep) : (depsL l).length ≤ 5 := by
  have := D.addAll_len ((l.take 5).map cut) []
  rw [List.length_map, List.length_take] at this
  unfold depsL
  simp only [List.length_nil] at this
  omega
theorem depsL_good (l : List Dep) : D.Good (depsL l) := D.addAll_good1 _ _ D.nil_good
theorem few_ok (s : SSt) (r : SRow) : SOk { few s with row := r } := ⟨fun p hp => by
    obtain ⟨x, _, rfl⟩ := List.mem_map.1 hp
    exact ⟨depsL_good x, by have := depsL_len x; omega⟩, by show ((s.have'.take 5).map depsL).length ≤ 1000; simp; omega, fun e he => by
    obtain ⟨x, _, rfl⟩ := List.mem_map.1 he
    have := depsL_len x.seen
    show (depsL x.seen).length ≤ 900; omega, by show ((s.hist.take 8).map cutE).length ≤ 1000; simp; omega, fun c hc => by
    obtain ⟨x, _, rfl⟩ := List.mem_map.1 hc
    have := depsL_len x.2
    show (depsL x.2).length ≤ 1000000; omega⟩
end H
theorem hdeps_a (l : List Dep) : ACall Tryz.prog 13 [pastA l] (pastA (H.depsL l)) := by
  refine ACall_enter (fun _ _ => by kernel_rfl) Tryz.func13 rfl Tryz.ntmps13 Tryz.results13 (Nat.le_of_ble_eq_true rfl) (fun hok M0 w0 hnl => ?_)
  have hlen := (hok _ (List.mem_cons_self ..)).len
  rw [List.length_map] at hlen
  refine Aw_seq (Aw_region ?_)
  refine Al_p Pu_mvr ?_
  refine Al_nil (Aw_seq (Aw_region ?_))
  refine Al_p Pu_mvr ?_
  refine Al_nil (Aw_seq (Aw_seq (Aw_region ?_)))
  refine Al_p Pu_mvr ?_
  refine Al_nil (Aw_block ?_)
  refine Aw_loopk (ι := Nat) [0] [] (fun k => [(4, .d (iv k)), (3, .d (pastA (D.addAll [] ((l.take k).map H.cut))))]) (fun k => []) (fun k => k ≤ l.length ∧ k ≤ 5) (fun k => l.length - k) (0) (⟨Nat.zero_le _, by omega⟩) ⟨Sub.rfl, Sub.nil, trivial⟩ trivial ?_
  rintro k ⟨hk0, hk5⟩
  refine Aw_seq (Aw_seq (Aw_region ?_))
  refine Al_p Pu_mvl ?_
  refine Al_p Pu_mvl ?_
  refine Al_p (Pu_len rfl Tryz.underlying46 rfl (by first | exact List.length_map .. | exact rfl)) ?_
  refine Al_p (Pu_cmp rfl rfl rfl rfl) ?_
  refine Al_p Pu_mvl ?_
  refine Al_st (St_gd [] rfl rfl rfl rfl trivial (fun hg11 => by exact Pu_move (.inl rfl) (by conv => lhs; whnf))) rfl (by decide) (by kernel_rfl) (by intro j b oj dj h1 h2 h3; cases h1; cases h2; cases h3; decide) ?_
  refine Al_st (St_gd [11] rfl rfl rfl rfl ⟨⟨_, rfl⟩, trivial⟩ (fun hg12 => Pu_cmp rfl rfl rfl rfl)) rfl (by decide) (by kernel_rfl) (by intro j b oj dj h1 h2 h3; cases h1; cases h2; cases h3; decide) ?_
  refine Al_p (Pu_and rfl rfl rfl rfl) ?_
  refine Al_nil ?_
  refine Aw_cond rfl (fun h13 => ?_) (fun h13 => ?_)
  · (try simp only [decide_eq_true_eq, decide_eq_false_iff_not, Bool.and_eq_true, Bool.or_eq_true, Bool.and_eq_false_iff, Bool.or_eq_false_iff, Bool.not_eq_true', Bool.not_eq_false', beq_iff_eq, Bool.not_eq_eq_eq_not, Bool.not_true, Bool.not_false, List.length_map, Bool.and_true, Bool.and_false, Bool.false_and, Bool.true_and, Bool.or_false, Bool.false_or] at h13)
    obtain ⟨hk, hk4⟩ := h13
    have hk : k < l.length := by omega
    have hal := D.addAll_len ((l.take k).map H.cut) []
    rw [List.length_map, List.length_take] at hal
    simp only [List.length_nil] at hal
    have hadd := dadd_a (D.addAll [] ((l.take k).map H.cut)) (H.cut (l[k]'hk)) (by omega)
    have hsn : D.addAll [] ((l.take (k + 1)).map H.cut) = D.add (D.addAll [] ((l.take k).map H.cut)) (H.cut (l[k]'hk)) := by
      unfold D.addAll
      rw [List.take_succ_eq_append_getElem hk, List.map_append, List.foldl_append]; rfl
    refine Aw_skip ?_
    -- join 0: live [0, 3, 4], turned [3]
    refine Aw_seq (Aw_block (Aw_seq (Aw_region ?_)))
    refine Al_p Pu_mvl ?_
    refine Al_p Pu_mvl ?_
    refine Al_p (Pu_index rfl Tryz.underlying46 Tryz.sizeOf45 rfl rfl (rfl) (mapget hk)) ?_
    refine Al_p (Pu_loadN rfl Tryz.isAgg45 Tryz.sizeOf45 rfl (Nat.le_of_ble_eq_true rfl)) ?_
    refine Al_alloc rfl rfl rfl (by decide) Tryz.zeroValue45 rfl (by kernel_rfl) (fun g5 => ?_)
    refine Al_storeN rfl rfl rfl (by kernel_rfl) Tryz.isAgg45 Tryz.sizeOf45 rfl rfl rfl rfl (Nat.le_of_ble_eq_true rfl) ?_
    refine Al_nil ?_
    -- join 1: live [0, 3, 4, 5], turned []
    refine Aw_seq (Aw_seq (Aw_region ?_))
    refine Al_p (Pu_fieldb 0 rfl Tryz.underlying45 rfl rfl Tryz.sizeOf9 rfl) ?_
    refine Al_p (Pu_loadb rfl Tryz.isAgg9 rfl rfl rfl) ?_
    refine Al_p (Pu_lenS rfl Tryz.underlying9 rfl) ?_
    refine Al_p (Pu_cmp rfl rfl rfl rfl) ?_
    refine Al_nil ?_
    refine Aw_cond rfl (fun h23 => ?_) (fun h23 => ?_)
    · (try simp only [decide_eq_true_eq, decide_eq_false_iff_not, Bool.and_eq_true, Bool.or_eq_true, Bool.and_eq_false_iff, Bool.or_eq_false_iff, Bool.not_eq_true', Bool.not_eq_false', beq_iff_eq, Bool.not_eq_eq_eq_not, Bool.not_true, Bool.not_false, List.length_map, Bool.and_true, Bool.and_false, Bool.false_and, Bool.true_and, Bool.or_false, Bool.false_or] at h23)
      refine Aw_region ?_
      refine Al_p (Pu_fieldb 0 rfl Tryz.underlying45 rfl rfl Tryz.sizeOf9 rfl) ?_
      refine Al_p (Pu_loadb rfl Tryz.isAgg9 rfl rfl rfl) ?_
      refine Al_p (Pu_subS (0) (12) rfl Tryz.underlying9 rfl rfl ⟨_, rfl, by omega⟩ ⟨by omega, by omega⟩) ?_
      refine Al_p (Pu_fieldb 0 rfl Tryz.underlying45 rfl rfl Tryz.sizeOf9 rfl) ?_
      refine Al_store1 rfl rfl rfl (by kernel_rfl) Tryz.isAgg9 Tryz.sizeOf9 rfl rfl (Nat.le_of_ble_eq_true rfl) (by conv => lhs; whnf) rfl ?_
      refine Al_nil (Aw_region ?_)
      refine Al_p Pu_mvl ?_
      refine Al_p (Pu_loadbN (r := [_, _, _]) rfl Tryz.isAgg45 Tryz.sizeOf45 rfl rfl rfl rfl) ?_
      refine Al_p (Pu_call (hadd) rfl ⟨Sub.rfl, Sub.rfl, trivial⟩) ?_
      refine Al_p Pu_mvr ?_
      refine Al_nil (Aw_region ?_)
      refine Al_p Pu_mvl ?_
      refine Al_p (Pu_add rfl rfl rfl (fun h1 h2 => by simp only [A.inI, A.maxI] at *; omega)) ?_
      refine Al_p Pu_mvr ?_
      refine Al_nil ?_
      exact ⟨k + 1, ⟨by omega, by omega⟩, by omega, Le.ov ⟨Sub.num (by omega), Sub.d (by rw [hsn]), trivial⟩ ⟨Sub.rfl, trivial⟩ trivial trivial⟩ -- loop 0 next.0
    · (try simp only [decide_eq_true_eq, decide_eq_false_iff_not, Bool.and_eq_true, Bool.or_eq_true, Bool.and_eq_false_iff, Bool.or_eq_false_iff, Bool.not_eq_true', Bool.not_eq_false', beq_iff_eq, Bool.not_eq_eq_eq_not, Bool.not_true, Bool.not_false, List.length_map, Bool.and_true, Bool.and_false, Bool.false_and, Bool.true_and, Bool.or_false, Bool.false_or] at h23)
      have hce : H.cut (l[k]'hk) = l[k]'hk := by unfold H.cut; rw [H.short _ (by omega)]
      rw [hce] at hadd
      refine Aw_skip (Aw_region ?_)
      refine Al_p Pu_mvl ?_
      refine Al_p (Pu_loadbN (r := [_, _, _]) rfl Tryz.isAgg45 Tryz.sizeOf45 rfl rfl rfl rfl) ?_
      refine Al_p (Pu_call (hadd) rfl ⟨Sub.rfl, Sub.rfl, trivial⟩) ?_
      refine Al_p Pu_mvr ?_
      refine Al_nil (Aw_region ?_)
      refine Al_p Pu_mvl ?_
      refine Al_p (Pu_add rfl rfl rfl (fun h1 h2 => by simp only [A.inI, A.maxI] at *; omega)) ?_
      refine Al_p Pu_mvr ?_
      refine Al_nil ?_
      exact ⟨k + 1, ⟨by omega, by omega⟩, by omega, Le.ov ⟨Sub.num (by omega), Sub.d (by rw [hsn, hce]), trivial⟩ ⟨Sub.rfl, trivial⟩ trivial trivial⟩ -- loop 0 next.1
  · (try simp only [decide_eq_true_eq, decide_eq_false_iff_not, Bool.and_eq_true, Bool.or_eq_true, Bool.and_eq_false_iff, Bool.or_eq_false_iff, Bool.not_eq_true', Bool.not_eq_false', beq_iff_eq, Bool.not_eq_eq_eq_not, Bool.not_true, Bool.not_false, List.length_map, Bool.and_true, Bool.and_false, Bool.false_and, Bool.true_and, Bool.or_false, Bool.false_or] at h13)
    have hkk : l.take k = l.take 5 := by
      rcases Nat.lt_or_ge k 5 with h | h
      · rw [List.take_of_length_le (by omega), List.take_of_length_le (by omega)]
      · rw [show k = 5 from by omega]
    refine Aw_exit (Aw_seq (Aw_region ?_))
    refine Al_p Pu_mvl ?_
    refine Al_p Pu_mvr ?_
    refine Al_nil ?_
    refine Aw_ret ?_
    exact Sub.d (by unfold H.depsL; rw [hkk]) -- ret 0
set_option maxHeartbeats 4000000 in
theorem hfew_a (s : SSt) : ACall Tryz.prog 5 [.row s.cells] (.row (H.few s).cells) := by
  refine ACall_enterG (fun _ _ => by kernel_rfl) Tryz.func5 rfl Tryz.ntmps5 (Reads.cN Tryz.results5 Tryz.isAgg32 Tryz.sizeOf32) (Nat.le_of_ble_eq_true rfl) (fun hok M0 w0 hnl => ?_)
  have hlh := ((hok _ (List.mem_cons_self ..)).row (.sl 1 (s.have'.map fun p => [pastA p])) (by simp [SSt.cells])).len
  have hlw := ((hok _ (List.mem_cons_self ..)).row (.sl 1 (s.wait.map fun x => [iv x])) (by simp [SSt.cells])).len
  have hls := ((hok _ (List.mem_cons_self ..)).row (.sl 2 (s.sess.map sesA)) (by simp [SSt.cells])).len
  have hle := ((hok _ (List.mem_cons_self ..)).row (.sl 6 (s.hist.map Event.row)) (by simp [SSt.cells])).len
  rw [List.length_map] at hlh hlw hls hle
  have t5 : ∀ {α : Type} (l : List α) (k n : Nat), k ≤ n → ¬ (k < l.length ∧ k < n) → l.take k = l.take n := fun l k n h1 h2 => by
    rcases Nat.lt_or_ge k n with h | h
    · rw [List.take_of_length_le (by omega), List.take_of_length_le (by omega)]
    · rw [show k = n from by omega]
  refine Aw_seq (Aw_region ?_)
  refine Al_p (Pu_boxN rfl rfl) ?_
  refine Al_alloc rfl rfl rfl (by decide) Tryz.zeroValue32 rfl (by kernel_rfl) (fun g2 => ?_)
  refine Al_nil (Aw_seq (Aw_region ?_))
  refine Al_alloc rfl rfl rfl (by decide) Tryz.zeroValue32 rfl (by kernel_rfl) (fun g3 => ?_)
  refine Al_nil (Aw_seq (Aw_region ?_))
  refine Al_p (Pu_field 7 rfl Tryz.underlying32 rfl rfl Tryz.sizeOf4 rfl) ?_
  refine Al_p (Pu_load1 rfl Tryz.isAgg4 rfl rfl) ?_
  refine Al_p (Pu_fieldb 7 rfl Tryz.underlying32 rfl rfl Tryz.sizeOf4 rfl) ?_
  refine Al_store1 rfl rfl rfl (by kernel_rfl) Tryz.isAgg4 Tryz.sizeOf4 rfl rfl (Nat.le_of_ble_eq_true rfl) (by conv => lhs; whnf) rfl ?_
  refine Al_nil (Aw_seq (Aw_seq (Aw_region ?_)))
  refine Al_p Pu_mvr ?_
  refine Al_nil (Aw_block ?_)
  refine Aw_owncell 3 (k := 3) (k2 := 30) (e := 46) (n := 1) rfl rfl rfl (fun g30 => ?_)
  refine Aw_loopk (ι := Nat × Nat) [1, 2, 3] [2] (fun (k0, g) => [(4, .d (iv k0))]) (fun (k0, g) => [(30, g, .arr 46 1 (((s.have'.take k0).map H.depsL).map fun p => [pastA p])), (3, g3, .box 32 [H.nilS, H.nilS, H.nilS, .ow 30 g, H.nilS, H.nilS, H.nilS, .d (bv s.idle)])]) (fun (k0, g) => k0 ≤ s.have'.length ∧ k0 ≤ 5) (fun (k0, g) => s.have'.length - k0) ((0, g30)) (⟨Nat.zero_le _, by omega⟩) ⟨Sub.rfl, trivial⟩ ⟨rfl, rfl, trivial⟩ ?_
  rintro ⟨k0, g⟩ ⟨hk0, hk5⟩
  refine Aw_seq (Aw_seq (Aw_region ?_))
  refine Al_p Pu_mvl ?_
  refine Al_p (Pu_field 3 rfl Tryz.underlying32 rfl rfl Tryz.sizeOf28 rfl) ?_
  refine Al_p (Pu_load1 rfl Tryz.isAgg28 rfl rfl) ?_
  refine Al_p (Pu_len rfl Tryz.underlying28 rfl (by first | exact List.length_map .. | exact rfl)) ?_
  refine Al_p (Pu_cmp rfl rfl rfl rfl) ?_
  refine Al_p Pu_mvl ?_
  refine Al_st (St_gd [] rfl rfl rfl rfl trivial (fun hg18 => by exact Pu_move (.inl rfl) (by conv => lhs; whnf))) rfl (by decide) (by kernel_rfl) (by intro j b oj dj h1 h2 h3; cases h1; cases h2; cases h3; decide) ?_
  refine Al_st (St_gd [18] rfl rfl rfl rfl ⟨⟨_, rfl⟩, trivial⟩ (fun hg19 => Pu_cmp rfl rfl rfl rfl)) rfl (by decide) (by kernel_rfl) (by intro j b oj dj h1 h2 h3; cases h1; cases h2; cases h3; decide) ?_
  refine Al_p (Pu_and rfl rfl rfl rfl) ?_
  refine Al_nil ?_
  refine Aw_cond rfl (fun h20 => ?_) (fun h20 => ?_)
  · (try simp only [decide_eq_true_eq, decide_eq_false_iff_not, Bool.and_eq_true, Bool.or_eq_true, Bool.and_eq_false_iff, Bool.or_eq_false_iff, Bool.not_eq_true', Bool.not_eq_false', beq_iff_eq, Bool.not_eq_eq_eq_not, Bool.not_true, Bool.not_false, List.length_map, Bool.and_true, Bool.and_false, Bool.false_and, Bool.true_and, Bool.or_false, Bool.false_or] at h20)
    obtain ⟨h20a, h20b⟩ := h20
    have hk : k0 < s.have'.length := by omega
    have hdp := hdeps_a (s.have'[k0]'hk)
    refine Aw_skip ?_
    -- join 0: live [1, 2, 3, 4], turned []
    refine Aw_seq (Aw_block ?_)
    refine Aw_drawP 9 3 (by kernel_rfl) (by kernel_rfl) rfl ?_
    refine Dr_p (Pu_fieldb 3 rfl Tryz.underlying32 rfl rfl Tryz.sizeOf28 rfl) ?_
    refine Dr_p (Pu_loadb rfl Tryz.isAgg28 rfl rfl rfl) ?_
    refine Dr_p (Pu_field 3 rfl Tryz.underlying32 rfl rfl Tryz.sizeOf28 rfl) ?_
    refine Dr_p (Pu_load1 rfl Tryz.isAgg28 rfl rfl) ?_
    refine Dr_p Pu_mvl ?_
    refine Dr_p (Pu_index rfl Tryz.underlying28 Tryz.sizeOf46 rfl rfl (rfl) (mapget hk)) ?_
    refine Dr_p (Pu_load1 rfl Tryz.isAgg46 rfl rfl) ?_
    refine Dr_p (Pu_call (hdp) rfl ⟨Sub.rfl, trivial⟩) ?_
    refine Dr_p (Pu_slice1 rfl Tryz.underlying28 Tryz.sizeOf46 Tryz.zeroValue46 rfl (by decide) (by decide) (by kernel_rfl) rfl rfl rfl) ?_
    refine Dr_nil ?_
    refine Ad_one 9 rfl (by kernel_rfl) ?_
    refine Al_append rfl rfl rfl (by decide) (by kernel_rfl) elem28 (by decide) Tryz.sizeOf46 rfl rfl rfl (by simp; omega) (by decide) (fun g32 => ?_)
    refine Al_nil ?_
    refine Ad_take 10 rfl (PuI_fieldb 3 rfl Tryz.underlying32 rfl rfl Tryz.sizeOf28 rfl) rfl rfl (by decide) (by kernel_rfl) (by kernel_rfl) (by kernel_rfl) (by kernel_rfl) (fun _ _ h => h) ?_
    refine Ad_one 11 rfl (by kernel_rfl) ?_
    refine Al_store1 rfl rfl rfl (by kernel_rfl) Tryz.isAgg28 Tryz.sizeOf28 rfl rfl (Nat.le_of_ble_eq_true rfl) (by conv => lhs; whnf) rfl ?_
    refine Al_nil ?_
    refine Ad_done (by kernel_rfl) ?_
    refine Aw_region ?_
    refine Al_p Pu_mvl ?_
    refine Al_p (Pu_add rfl rfl rfl (fun h1 h2 => by simp only [A.inI, A.maxI] at *; omega)) ?_
    refine Al_p Pu_mvr ?_
    refine Al_nil ?_
    exact ⟨(k0 + 1, g32), ⟨by omega, by omega⟩, by simp only []; omega, Le.ov ⟨Sub.num (by omega), trivial⟩ ⟨Sub.rfl, Sub.rfl, Sub.rfl, trivial⟩ ⟨obeq (by rw [List.take_succ_eq_append_getElem hk, List.map_append, List.map_append]; rfl), rfl, trivial⟩ ⟨rfl, trivial⟩⟩ -- loop 0 next.0
  · (try simp only [decide_eq_true_eq, decide_eq_false_iff_not, Bool.and_eq_true, Bool.or_eq_true, Bool.and_eq_false_iff, Bool.or_eq_false_iff, Bool.not_eq_true', Bool.not_eq_false', beq_iff_eq, Bool.not_eq_eq_eq_not, Bool.not_true, Bool.not_false, List.length_map, Bool.and_true, Bool.and_false, Bool.false_and, Bool.true_and, Bool.or_false, Bool.false_or] at h20)
    have e0 := t5 s.have' k0 5 hk5 (by omega)
    refine Aw_frzc 3 (k := 30) (kb := 3) hnl [] rfl rfl rfl rfl trivial ?_
    refine Aw_exit (Aw_seq (Aw_seq (Aw_region ?_)))
    refine Al_p Pu_mvr ?_
    refine Al_nil (Aw_block ?_)
    refine Aw_owncell 4 (k := 3) (k2 := 40) (e := 3) (n := 1) rfl rfl rfl (fun g40 => ?_)
    refine Aw_loopk (ι := Nat × Nat) [1, 2, 3] [2] (fun (k1, g1) => [(5, .d (iv k1))]) (fun (k1, g1) => [(40, g1, .arr 3 1 ((s.wait.take k1).map fun x => [iv x])), (3, g3, .box 32 [H.nilS, H.nilS, H.nilS, .d (.sl 1 (((s.have'.take k0).map H.depsL).map fun p => [pastA p])), .ow 40 g1, H.nilS, H.nilS, .d (bv s.idle)])]) (fun (k1, g1) => k1 ≤ s.wait.length ∧ k1 ≤ 5) (fun (k1, g1) => s.wait.length - k1) ((0, g40)) (⟨Nat.zero_le _, by omega⟩) ⟨Sub.rfl, trivial⟩ ⟨rfl, rfl, trivial⟩ ?_
    rintro ⟨k1, g1⟩ ⟨hk1, hk51⟩
    refine Aw_seq (Aw_seq (Aw_region ?_))
    refine Al_p Pu_mvl ?_
    refine Al_p (Pu_field 4 rfl Tryz.underlying32 rfl rfl Tryz.sizeOf22 rfl) ?_
    refine Al_p (Pu_load1 rfl Tryz.isAgg22 rfl rfl) ?_
    refine Al_p (Pu_len rfl Tryz.underlying22 rfl (by first | exact List.length_map .. | exact rfl)) ?_
    refine Al_p (Pu_cmp rfl rfl rfl rfl) ?_
    refine Al_p Pu_mvl ?_
    refine Al_st (St_gd [] rfl rfl rfl rfl trivial (fun hg40 => by exact Pu_move (.inl rfl) (by conv => lhs; whnf))) rfl (by decide) (by kernel_rfl) (by intro j b oj dj h1 h2 h3; cases h1; cases h2; cases h3; decide) ?_
    refine Al_st (St_gd [40] rfl rfl rfl rfl ⟨⟨_, rfl⟩, trivial⟩ (fun hg41 => Pu_cmp rfl rfl rfl rfl)) rfl (by decide) (by kernel_rfl) (by intro j b oj dj h1 h2 h3; cases h1; cases h2; cases h3; decide) ?_
    refine Al_p (Pu_and rfl rfl rfl rfl) ?_
    refine Al_nil ?_
    refine Aw_cond rfl (fun h42 => ?_) (fun h42 => ?_)
    · (try simp only [decide_eq_true_eq, decide_eq_false_iff_not, Bool.and_eq_true, Bool.or_eq_true, Bool.and_eq_false_iff, Bool.or_eq_false_iff, Bool.not_eq_true', Bool.not_eq_false', beq_iff_eq, Bool.not_eq_eq_eq_not, Bool.not_true, Bool.not_false, List.length_map, Bool.and_true, Bool.and_false, Bool.false_and, Bool.true_and, Bool.or_false, Bool.false_or] at h42)
      obtain ⟨h42a, h42b⟩ := h42
      have hk : k1 < s.wait.length := by omega
      refine Aw_skip ?_
      -- join 1: live [1, 2, 3, 5], turned []
      refine Aw_seq (Aw_block ?_)
      refine Aw_drawP 8 3 (by kernel_rfl) (by kernel_rfl) rfl ?_
      refine Dr_p (Pu_fieldb 4 rfl Tryz.underlying32 rfl rfl Tryz.sizeOf22 rfl) ?_
      refine Dr_p (Pu_loadb rfl Tryz.isAgg22 rfl rfl rfl) ?_
      refine Dr_p (Pu_field 4 rfl Tryz.underlying32 rfl rfl Tryz.sizeOf22 rfl) ?_
      refine Dr_p (Pu_load1 rfl Tryz.isAgg22 rfl rfl) ?_
      refine Dr_p Pu_mvl ?_
      refine Dr_p (Pu_index rfl Tryz.underlying22 Tryz.sizeOf3 rfl rfl (rfl) (mapget hk)) ?_
      refine Dr_p (Pu_load1 rfl Tryz.isAgg3 rfl rfl) ?_
      refine Dr_p (Pu_slice1 rfl Tryz.underlying22 Tryz.sizeOf3 Tryz.zeroValue3 rfl (by decide) (by decide) (by kernel_rfl) rfl rfl rfl) ?_
      refine Dr_nil ?_
      refine Ad_one 8 rfl (by kernel_rfl) ?_
      refine Al_append rfl rfl rfl (by decide) (by kernel_rfl) elem22 (by decide) Tryz.sizeOf3 rfl rfl rfl (by simp; omega) (by decide) (fun g53 => ?_)
      refine Al_nil ?_
      refine Ad_take 9 rfl (PuI_fieldb 4 rfl Tryz.underlying32 rfl rfl Tryz.sizeOf22 rfl) rfl rfl (by decide) (by kernel_rfl) (by kernel_rfl) (by kernel_rfl) (by kernel_rfl) (fun _ _ h => h) ?_
      refine Ad_one 10 rfl (by kernel_rfl) ?_
      refine Al_store1 rfl rfl rfl (by kernel_rfl) Tryz.isAgg22 Tryz.sizeOf22 rfl rfl (Nat.le_of_ble_eq_true rfl) (by conv => lhs; whnf) rfl ?_
      refine Al_nil ?_
      refine Ad_done (by kernel_rfl) ?_
      refine Aw_region ?_
      refine Al_p Pu_mvl ?_
      refine Al_p (Pu_add rfl rfl rfl (fun h1 h2 => by simp only [A.inI, A.maxI] at *; omega)) ?_
      refine Al_p Pu_mvr ?_
      refine Al_nil ?_
      exact ⟨(k1 + 1, g53), ⟨by omega, by omega⟩, by simp only []; omega, Le.ov ⟨Sub.num (by omega), trivial⟩ ⟨Sub.rfl, Sub.rfl, Sub.rfl, trivial⟩ ⟨obeq (by rw [List.take_succ_eq_append_getElem hk, List.map_append]; rfl), rfl, trivial⟩ ⟨rfl, trivial⟩⟩ -- loop 1 next.0
    · (try simp only [decide_eq_true_eq, decide_eq_false_iff_not, Bool.and_eq_true, Bool.or_eq_true, Bool.and_eq_false_iff, Bool.or_eq_false_iff, Bool.not_eq_true', Bool.not_eq_false', beq_iff_eq, Bool.not_eq_eq_eq_not, Bool.not_true, Bool.not_false, List.length_map, Bool.and_true, Bool.and_false, Bool.false_and, Bool.true_and, Bool.or_false, Bool.false_or] at h42)
      have e1 := t5 s.wait k1 5 hk51 (by omega)
      refine Aw_frzc 4 (k := 40) (kb := 3) hnl [] rfl rfl rfl rfl trivial ?_
      refine Aw_exit (Aw_seq (Aw_seq (Aw_region ?_)))
      refine Al_p Pu_mvr ?_
      refine Al_nil (Aw_block ?_)
      refine Aw_owncell 5 (k := 3) (k2 := 50) (e := 49) (n := 2) rfl rfl rfl (fun g50 => ?_)
      refine Aw_loopk (ι := Nat × Nat) [1, 2, 3] [2] (fun (k2, g2) => [(6, .d (iv k2))]) (fun (k2, g2) => [(50, g2, .arr 49 2 (((s.sess.take k2).map fun c => (c.1, H.depsL c.2)).map sesA)), (3, g3, .box 32 [H.nilS, H.nilS, H.nilS, .d (.sl 1 (((s.have'.take k0).map H.depsL).map fun p => [pastA p])), .d (.sl 1 ((s.wait.take k1).map fun x => [iv x])), .ow 50 g2, H.nilS, .d (bv s.idle)])]) (fun (k2, g2) => k2 ≤ s.sess.length ∧ k2 ≤ 4) (fun (k2, g2) => s.sess.length - k2) ((0, g50)) (⟨Nat.zero_le _, by omega⟩) ⟨Sub.rfl, trivial⟩ ⟨rfl, rfl, trivial⟩ ?_
      rintro ⟨k2, g2⟩ ⟨hk2, hk52⟩
      refine Aw_seq (Aw_seq (Aw_region ?_))
      refine Al_p Pu_mvl ?_
      refine Al_p (Pu_field 5 rfl Tryz.underlying32 rfl rfl Tryz.sizeOf29 rfl) ?_
      refine Al_p (Pu_load1 rfl Tryz.isAgg29 rfl rfl) ?_
      refine Al_p (Pu_len rfl Tryz.underlying29 rfl (by first | exact List.length_map .. | exact rfl)) ?_
      refine Al_p (Pu_cmp rfl rfl rfl rfl) ?_
      refine Al_p Pu_mvl ?_
      refine Al_st (St_gd [] rfl rfl rfl rfl trivial (fun hg61 => by exact Pu_move (.inl rfl) (by conv => lhs; whnf))) rfl (by decide) (by kernel_rfl) (by intro j b oj dj h1 h2 h3; cases h1; cases h2; cases h3; decide) ?_
      refine Al_st (St_gd [61] rfl rfl rfl rfl ⟨⟨_, rfl⟩, trivial⟩ (fun hg62 => Pu_cmp rfl rfl rfl rfl)) rfl (by decide) (by kernel_rfl) (by intro j b oj dj h1 h2 h3; cases h1; cases h2; cases h3; decide) ?_
      refine Al_p (Pu_and rfl rfl rfl rfl) ?_
      refine Al_nil ?_
      refine Aw_cond rfl (fun h63 => ?_) (fun h63 => ?_)
      · (try simp only [decide_eq_true_eq, decide_eq_false_iff_not, Bool.and_eq_true, Bool.or_eq_true, Bool.and_eq_false_iff, Bool.or_eq_false_iff, Bool.not_eq_true', Bool.not_eq_false', beq_iff_eq, Bool.not_eq_eq_eq_not, Bool.not_true, Bool.not_false, List.length_map, Bool.and_true, Bool.and_false, Bool.false_and, Bool.true_and, Bool.or_false, Bool.false_or] at h63)
        obtain ⟨h63a, h63b⟩ := h63
        have hk : k2 < s.sess.length := by omega
        have hdp := hdeps_a (s.sess[k2]'hk).2
        refine Aw_skip ?_
        -- join 2: live [1, 2, 3, 6], turned []
        refine Aw_seq (Aw_block ?_)
        refine Aw_drawP 17 3 (by kernel_rfl) (by kernel_rfl) rfl ?_
        refine Dr_p (Pu_fieldb 5 rfl Tryz.underlying32 rfl rfl Tryz.sizeOf29 rfl) ?_
        refine Dr_p (Pu_loadb rfl Tryz.isAgg29 rfl rfl rfl) ?_
        refine Dr_p (Pu_field 5 rfl Tryz.underlying32 rfl rfl Tryz.sizeOf29 rfl) ?_
        refine Dr_p (Pu_load1 rfl Tryz.isAgg29 rfl rfl) ?_
        refine Dr_p Pu_mvl ?_
        refine Dr_p (Pu_index rfl Tryz.underlying29 Tryz.sizeOf49 rfl rfl (rfl) (mapget hk)) ?_
        refine Dr_p (Pu_field 0 rfl Tryz.underlying49 rfl rfl Tryz.sizeOf3 rfl) ?_
        refine Dr_p (Pu_load1 rfl Tryz.isAgg3 rfl rfl) ?_
        refine Dr_p (Pu_field 5 rfl Tryz.underlying32 rfl rfl Tryz.sizeOf29 rfl) ?_
        refine Dr_p (Pu_load1 rfl Tryz.isAgg29 rfl rfl) ?_
        refine Dr_p Pu_mvl ?_
        refine Dr_p (Pu_index rfl Tryz.underlying29 Tryz.sizeOf49 rfl rfl (rfl) (mapget hk)) ?_
        refine Dr_p (Pu_field 1 rfl Tryz.underlying49 rfl rfl Tryz.sizeOf46 rfl) ?_
        refine Dr_p (Pu_load1 rfl Tryz.isAgg46 rfl rfl) ?_
        refine Dr_p (Pu_call (hdp) rfl ⟨Sub.rfl, trivial⟩) ?_
        refine Dr_p (Pu_build (aa := [(0, _), (1, _)]) rfl Tryz.underlying49 Tryz.zeroValue49 (places49 Tryz.underlying49) (by kernel_rfl) ⟨rfl, rfl, rfl, rfl, rfl, rfl, trivial⟩ rfl) ?_
        refine Dr_p (Pu_slice1 rfl Tryz.underlying29 Tryz.sizeOf49 Tryz.zeroValue49 rfl (by decide) (by decide) (by kernel_rfl) rfl rfl rfl) ?_
        refine Dr_nil ?_
        refine Ad_one 17 rfl (by kernel_rfl) ?_
        refine Al_append rfl rfl rfl (by decide) (by kernel_rfl) elem29 (by decide) Tryz.sizeOf49 rfl rfl rfl (by simp; omega) (by decide) (fun g83 => ?_)
        refine Al_nil ?_
        refine Ad_take 18 rfl (PuI_fieldb 5 rfl Tryz.underlying32 rfl rfl Tryz.sizeOf29 rfl) rfl rfl (by decide) (by kernel_rfl) (by kernel_rfl) (by kernel_rfl) (by kernel_rfl) (fun _ _ h => h) ?_
        refine Ad_one 19 rfl (by kernel_rfl) ?_
        refine Al_store1 rfl rfl rfl (by kernel_rfl) Tryz.isAgg29 Tryz.sizeOf29 rfl rfl (Nat.le_of_ble_eq_true rfl) (by conv => lhs; whnf) rfl ?_
        refine Al_nil ?_
        refine Ad_done (by kernel_rfl) ?_
        refine Aw_region ?_
        refine Al_p Pu_mvl ?_
        refine Al_p (Pu_add rfl rfl rfl (fun h1 h2 => by simp only [A.inI, A.maxI] at *; omega)) ?_
        refine Al_p Pu_mvr ?_
        refine Al_nil ?_
        exact ⟨(k2 + 1, g83), ⟨by omega, by omega⟩, by simp only []; omega, Le.ov ⟨Sub.num (by omega), trivial⟩ ⟨Sub.rfl, Sub.rfl, Sub.rfl, trivial⟩ ⟨obeq (by rw [List.take_succ_eq_append_getElem hk, List.map_append, List.map_append]; rfl), rfl, trivial⟩ ⟨rfl, trivial⟩⟩ -- loop 2 next.0
      · (try simp only [decide_eq_true_eq, decide_eq_false_iff_not, Bool.and_eq_true, Bool.or_eq_true, Bool.and_eq_false_iff, Bool.or_eq_false_iff, Bool.not_eq_true', Bool.not_eq_false', beq_iff_eq, Bool.not_eq_eq_eq_not, Bool.not_true, Bool.not_false, List.length_map, Bool.and_true, Bool.and_false, Bool.false_and, Bool.true_and, Bool.or_false, Bool.false_or] at h63)
        have e2 := t5 s.sess k2 4 hk52 (by omega)
        refine Aw_frzc 5 (k := 50) (kb := 3) hnl [] rfl rfl rfl rfl trivial ?_
        refine Aw_exit (Aw_seq (Aw_seq (Aw_region ?_)))
        refine Al_p Pu_mvr ?_
        refine Al_nil (Aw_block ?_)
        refine Aw_owncell 6 (k := 3) (k2 := 60) (e := 51) (n := 6) rfl rfl rfl (fun g60 => ?_)
        refine Aw_loopk (ι := Nat × Nat) [1, 2, 3] [2] (fun (k3, g4) => [(7, .d (iv k3))]) (fun (k3, g4) => [(60, g4, .arr 51 6 (((s.hist.take k3).map H.cutE).map Event.row)), (3, g3, .box 32 [H.nilS, H.nilS, H.nilS, .d (.sl 1 (((s.have'.take k0).map H.depsL).map fun p => [pastA p])), .d (.sl 1 ((s.wait.take k1).map fun x => [iv x])), .d (.sl 2 (((s.sess.take k2).map fun c => (c.1, H.depsL c.2)).map sesA)), .ow 60 g4, .d (bv s.idle)])]) (fun (k3, g4) => k3 ≤ s.hist.length ∧ k3 ≤ 8) (fun (k3, g4) => s.hist.length - k3) ((0, g60)) (⟨Nat.zero_le _, by omega⟩) ⟨Sub.rfl, trivial⟩ ⟨rfl, rfl, trivial⟩ ?_
        rintro ⟨k3, g4⟩ ⟨hk3, hk53⟩
        refine Aw_seq (Aw_seq (Aw_region ?_))
        refine Al_p Pu_mvl ?_
        refine Al_p (Pu_field 6 rfl Tryz.underlying32 rfl rfl Tryz.sizeOf30 rfl) ?_
        refine Al_p (Pu_load1 rfl Tryz.isAgg30 rfl rfl) ?_
        refine Al_p (Pu_len rfl Tryz.underlying30 rfl (by first | exact List.length_map .. | exact rfl)) ?_
        refine Al_p (Pu_cmp rfl rfl rfl rfl) ?_
        refine Al_p Pu_mvl ?_
        refine Al_st (St_gd [] rfl rfl rfl rfl trivial (fun hg91 => by exact Pu_move (.inl rfl) (by conv => lhs; whnf))) rfl (by decide) (by kernel_rfl) (by intro j b oj dj h1 h2 h3; cases h1; cases h2; cases h3; decide) ?_
        refine Al_st (St_gd [91] rfl rfl rfl rfl ⟨⟨_, rfl⟩, trivial⟩ (fun hg92 => Pu_cmp rfl rfl rfl rfl)) rfl (by decide) (by kernel_rfl) (by intro j b oj dj h1 h2 h3; cases h1; cases h2; cases h3; decide) ?_
        refine Al_p (Pu_and rfl rfl rfl rfl) ?_
        refine Al_nil ?_
        refine Aw_cond rfl (fun h93 => ?_) (fun h93 => ?_)
        · (try simp only [decide_eq_true_eq, decide_eq_false_iff_not, Bool.and_eq_true, Bool.or_eq_true, Bool.and_eq_false_iff, Bool.or_eq_false_iff, Bool.not_eq_true', Bool.not_eq_false', beq_iff_eq, Bool.not_eq_eq_eq_not, Bool.not_true, Bool.not_false, List.length_map, Bool.and_true, Bool.and_false, Bool.false_and, Bool.true_and, Bool.or_false, Bool.false_or] at h93)
          obtain ⟨h93a, h93b⟩ := h93
          have hk : k3 < s.hist.length := by omega
          have hdp := hdeps_a (s.hist[k3]'hk).seen
          have hsn : ((s.hist.take (k3 + 1)).map H.cutE).map Event.row = ((s.hist.take k3).map H.cutE).map Event.row ++ [(H.cutE (s.hist[k3]'hk)).row] := by rw [List.take_succ_eq_append_getElem hk, List.map_append, List.map_append]; rfl
          refine Aw_skip ?_
          -- join 3: live [1, 2, 3, 7], turned []
          refine Aw_seq (Aw_block (Aw_seq (Aw_region ?_)))
          refine Al_p (Pu_field 6 rfl Tryz.underlying32 rfl rfl Tryz.sizeOf30 rfl) ?_
          refine Al_p (Pu_load1 rfl Tryz.isAgg30 rfl rfl) ?_
          refine Al_p Pu_mvl ?_
          refine Al_p (Pu_index rfl Tryz.underlying30 Tryz.sizeOf51 rfl rfl (rfl) (mapget hk)) ?_
          refine Al_p (Pu_loadN rfl Tryz.isAgg51 Tryz.sizeOf51 rfl (Nat.le_of_ble_eq_true rfl)) ?_
          refine Al_alloc rfl rfl rfl (by decide) Tryz.zeroValue51 rfl (by kernel_rfl) (fun g8 => ?_)
          refine Al_storeN rfl rfl rfl (by kernel_rfl) Tryz.isAgg51 Tryz.sizeOf51 rfl rfl rfl rfl (Nat.le_of_ble_eq_true rfl) ?_
          refine Al_nil ?_
          -- join 4: live [1, 2, 3, 7, 8], turned []
          refine Aw_seq (Aw_seq (Aw_region ?_))
          refine Al_p (Pu_fieldb 2 rfl Tryz.underlying51 rfl rfl Tryz.sizeOf9 rfl) ?_
          refine Al_p (Pu_loadb rfl Tryz.isAgg9 rfl rfl rfl) ?_
          refine Al_p (Pu_lenS rfl Tryz.underlying9 rfl) ?_
          refine Al_p (Pu_cmp rfl rfl rfl rfl) ?_
          refine Al_nil ?_
          refine Aw_cond rfl (fun h104 => ?_) (fun h104 => ?_)
          · (try simp only [decide_eq_true_eq, decide_eq_false_iff_not, Bool.and_eq_true, Bool.or_eq_true, Bool.and_eq_false_iff, Bool.or_eq_false_iff, Bool.not_eq_true', Bool.not_eq_false', beq_iff_eq, Bool.not_eq_eq_eq_not, Bool.not_true, Bool.not_false, List.length_map, Bool.and_true, Bool.and_false, Bool.false_and, Bool.true_and, Bool.or_false, Bool.false_or] at h104)
            refine Aw_region ?_
            refine Al_p (Pu_fieldb 2 rfl Tryz.underlying51 rfl rfl Tryz.sizeOf9 rfl) ?_
            refine Al_p (Pu_loadb rfl Tryz.isAgg9 rfl rfl rfl) ?_
            refine Al_p (Pu_subS (0) (12) rfl Tryz.underlying9 rfl rfl ⟨_, rfl, by omega⟩ ⟨by omega, by omega⟩) ?_
            refine Al_p (Pu_fieldb 2 rfl Tryz.underlying51 rfl rfl Tryz.sizeOf9 rfl) ?_
            refine Al_store1 rfl rfl rfl (by kernel_rfl) Tryz.isAgg9 Tryz.sizeOf9 rfl rfl (Nat.le_of_ble_eq_true rfl) (by conv => lhs; whnf) rfl ?_
            refine Al_nil (Aw_seq (Aw_region ?_))
            refine Al_p (Pu_fieldb 5 rfl Tryz.underlying51 rfl rfl Tryz.sizeOf46 rfl) ?_
            refine Al_p (Pu_loadb rfl Tryz.isAgg46 rfl rfl rfl) ?_
            refine Al_p (Pu_call (hdp) rfl ⟨Sub.rfl, trivial⟩) ?_
            refine Al_p (Pu_fieldb 5 rfl Tryz.underlying51 rfl rfl Tryz.sizeOf46 rfl) ?_
            refine Al_store1 rfl rfl rfl (by kernel_rfl) Tryz.isAgg46 Tryz.sizeOf46 rfl rfl (Nat.le_of_ble_eq_true rfl) (by conv => lhs; whnf) rfl ?_
            refine Al_nil (Aw_region ?_)
            refine Al_p (Pu_fieldb 6 rfl Tryz.underlying32 rfl rfl Tryz.sizeOf30 rfl) ?_
            refine Al_p (Pu_loadb rfl Tryz.isAgg30 rfl rfl rfl) ?_
            refine Al_p (Pu_loadbN (r := [_, _, _, _, _, _]) rfl Tryz.isAgg51 Tryz.sizeOf51 rfl rfl rfl rfl) ?_
            refine Al_p (Pu_slice1 rfl Tryz.underlying30 Tryz.sizeOf51 Tryz.zeroValue51 rfl (by decide) (by decide) (by kernel_rfl) rfl rfl rfl) ?_
            refine Al_append rfl rfl rfl (by decide) (by kernel_rfl) elem30 (by decide) Tryz.sizeOf51 rfl rfl rfl (by simp; omega) (by decide) (fun g117 => ?_)
            refine Al_p (Pu_fieldb 6 rfl Tryz.underlying32 rfl rfl Tryz.sizeOf30 rfl) ?_
            refine Al_store1 rfl rfl rfl (by kernel_rfl) Tryz.isAgg30 Tryz.sizeOf30 rfl rfl (Nat.le_of_ble_eq_true rfl) (by conv => lhs; whnf) rfl ?_
            refine Al_nil (Aw_region ?_)
            refine Al_p Pu_mvl ?_
            refine Al_p (Pu_add rfl rfl rfl (fun h1 h2 => by simp only [A.inI, A.maxI] at *; omega)) ?_
            refine Al_p Pu_mvr ?_
            refine Al_nil ?_
            exact ⟨(k3 + 1, g117), ⟨by omega, by omega⟩, by simp only []; omega, Le.ov ⟨Sub.num (by omega), trivial⟩ ⟨Sub.rfl, Sub.rfl, Sub.rfl, trivial⟩ ⟨obeq (by rw [hsn]; rfl), rfl, trivial⟩ ⟨rfl, trivial⟩⟩ -- loop 3 next.0
          · (try simp only [decide_eq_true_eq, decide_eq_false_iff_not, Bool.and_eq_true, Bool.or_eq_true, Bool.and_eq_false_iff, Bool.or_eq_false_iff, Bool.not_eq_true', Bool.not_eq_false', beq_iff_eq, Bool.not_eq_eq_eq_not, Bool.not_true, Bool.not_false, List.length_map, Bool.and_true, Bool.and_false, Bool.false_and, Bool.true_and, Bool.or_false, Bool.false_or] at h104)
            have hce : (s.hist[k3]'hk).key.extract 0 12 = (s.hist[k3]'hk).key := H.short _ (by omega)
            refine Aw_skip (Aw_seq (Aw_region ?_))
            refine Al_p (Pu_fieldb 5 rfl Tryz.underlying51 rfl rfl Tryz.sizeOf46 rfl) ?_
            refine Al_p (Pu_loadb rfl Tryz.isAgg46 rfl rfl rfl) ?_
            refine Al_p (Pu_call (hdp) rfl ⟨Sub.rfl, trivial⟩) ?_
            refine Al_p (Pu_fieldb 5 rfl Tryz.underlying51 rfl rfl Tryz.sizeOf46 rfl) ?_
            refine Al_store1 rfl rfl rfl (by kernel_rfl) Tryz.isAgg46 Tryz.sizeOf46 rfl rfl (Nat.le_of_ble_eq_true rfl) (by conv => lhs; whnf) rfl ?_
            refine Al_nil (Aw_region ?_)
            refine Al_p (Pu_fieldb 6 rfl Tryz.underlying32 rfl rfl Tryz.sizeOf30 rfl) ?_
            refine Al_p (Pu_loadb rfl Tryz.isAgg30 rfl rfl rfl) ?_
            refine Al_p (Pu_loadbN (r := [_, _, _, _, _, _]) rfl Tryz.isAgg51 Tryz.sizeOf51 rfl rfl rfl rfl) ?_
            refine Al_p (Pu_slice1 rfl Tryz.underlying30 Tryz.sizeOf51 Tryz.zeroValue51 rfl (by decide) (by decide) (by kernel_rfl) rfl rfl rfl) ?_
            refine Al_append rfl rfl rfl (by decide) (by kernel_rfl) elem30 (by decide) Tryz.sizeOf51 rfl rfl rfl (by simp; omega) (by decide) (fun g117 => ?_)
            refine Al_p (Pu_fieldb 6 rfl Tryz.underlying32 rfl rfl Tryz.sizeOf30 rfl) ?_
            refine Al_store1 rfl rfl rfl (by kernel_rfl) Tryz.isAgg30 Tryz.sizeOf30 rfl rfl (Nat.le_of_ble_eq_true rfl) (by conv => lhs; whnf) rfl ?_
            refine Al_nil (Aw_region ?_)
            refine Al_p Pu_mvl ?_
            refine Al_p (Pu_add rfl rfl rfl (fun h1 h2 => by simp only [A.inI, A.maxI] at *; omega)) ?_
            refine Al_p Pu_mvr ?_
            refine Al_nil ?_
            exact ⟨(k3 + 1, g117), ⟨by omega, by omega⟩, by simp only []; omega, Le.ov ⟨Sub.num (by omega), trivial⟩ ⟨Sub.rfl, Sub.rfl, Sub.rfl, trivial⟩ ⟨obeq (by rw [hsn]; unfold H.cutE; rw [hce]; rfl), rfl, trivial⟩ ⟨rfl, trivial⟩⟩ -- loop 3 next.1
        · (try simp only [decide_eq_true_eq, decide_eq_false_iff_not, Bool.and_eq_true, Bool.or_eq_true, Bool.and_eq_false_iff, Bool.or_eq_false_iff, Bool.not_eq_true', Bool.not_eq_false', beq_iff_eq, Bool.not_eq_eq_eq_not, Bool.not_true, Bool.not_false, List.length_map, Bool.and_true, Bool.and_false, Bool.false_and, Bool.true_and, Bool.or_false, Bool.false_or] at h93)
          have e3 := t5 s.hist k3 8 hk53 (by omega)
          refine Aw_frzc 6 (k := 60) (kb := 3) hnl [] rfl rfl rfl rfl trivial ?_
          refine Aw_boxle (k := 3) (.d (.sl 2 []) :: .d (.sl 1 []) :: .d (.sl 1 []) :: [_, _, _, _, _]) rfl ⟨Sub.nil, Sub.nil, Sub.nil, Sub.rfl, Sub.rfl, Sub.rfl, Sub.rfl, Sub.rfl, trivial⟩ ?_
          refine Aw_exit (Aw_seq (Aw_region ?_))
          refine Al_p (Pu_loadbN (r := [_, _, _, _, _, _, _, _]) rfl Tryz.isAgg32 Tryz.sizeOf32 rfl rfl rfl rfl) ?_
          refine Al_storeN rfl rfl rfl (by kernel_rfl) Tryz.isAgg32 Tryz.sizeOf32 rfl rfl rfl rfl (Nat.le_of_ble_eq_true rfl) ?_
          refine Al_nil ?_
          refine Aw_ret ?_
          exact ⟨_, _, _, _, _, [_, _, _, _, _, _, _, _], rfl, rfl, rfl, rfl, by unfold H.few SSt.cells SRow.row; rw [← e0, ← e1, ← e2, ← e3]; rfl⟩ -- ret 0
theorem hspec_a (q : QSpec) : ACall Tryz.prog 6 [.row q.row] (.row (q.mkR 0).row) := by
  refine ACall_enterG (fun _ _ => by kernel_rfl) Tryz.func6 rfl Tryz.ntmps6 (Reads.cN Tryz.results6 Tryz.isAgg27 Tryz.sizeOf27) (Nat.le_of_ble_eq_true rfl) (fun hok M0 w0 hnl => ?_)
  refine Aw_seq (Aw_region ?_)
  refine Al_p (Pu_boxN rfl rfl) ?_
  refine Al_alloc rfl rfl rfl (by decide) Tryz.zeroValue27 rfl (by kernel_rfl) (fun g2 => ?_)
  refine Al_nil (Aw_seq (Aw_region ?_))
  refine Al_p (Pu_loadN rfl Tryz.isAgg24 Tryz.sizeOf24 rfl (Nat.le_of_ble_eq_true rfl)) ?_
  refine Al_alloc rfl rfl rfl (by decide) Tryz.zeroValue52 rfl (by kernel_rfl) (fun g3 => ?_)
  refine Al_storeN rfl rfl rfl (by kernel_rfl) Tryz.isAgg52 Tryz.sizeOf52 rfl rfl rfl rfl (Nat.le_of_ble_eq_true rfl) ?_
  refine Al_nil (Aw_seq (Aw_region ?_))
  refine Al_p (Pu_loadbN (r := [_, _, _]) rfl Tryz.isAgg52 Tryz.sizeOf52 rfl rfl rfl rfl) ?_
  refine Al_p (Pu_call (qrow_a q 0 (by omega)) rfl ⟨Sub.rfl, Sub.rfl, trivial⟩) ?_
  refine Al_storeN rfl rfl rfl (by kernel_rfl) Tryz.isAgg27 Tryz.sizeOf27 rfl rfl rfl rfl (Nat.le_of_ble_eq_true rfl) ?_
  refine Al_nil ?_
  refine Aw_ret ?_
  exact ⟨_, _, _, _, _, [_, _, _], rfl, rfl, rfl, rfl, rfl⟩ -- ret 0
namespace H
def rowX : SRow := ⟨[⟨⟨#[]⟩, ⟨#[]⟩⟩], [2], [-1, 0]⟩
def st1 : SSt := ⟨rowX, [[⟨⟨#[97]⟩, 1, 0⟩]], [], [], [], false⟩
def st2 : SSt := ⟨⟨[], [], []⟩, [], [], [], [], false⟩
def st3 : SSt := ⟨rowX, [[⟨⟨#[97]⟩, 0, 0⟩]], [], [], [], false⟩
theorem st1_no : owning st1 = false := by decide +kernel
theorem st3_no : owning st3 = false := by decide +kernel
theorem st2_all : all5 st2 = [true, true, true, true, true] := by decide +kernel
theorem st1_first : firstNo (all5 st1) = 1 := by
  unfold all5
  rw [st1_no]; rfl
theorem st2_first : firstNo (all5 st2) = 0 := by rw [st2_all]; rfl
theorem st1_ok : SOk st1 := ⟨fun p hp => by
    obtain rfl : p = [⟨⟨#[97]⟩, 1, 0⟩] := List.mem_singleton.1 hp
    exact ⟨⟨List.pairwise_singleton .., fun x hx => by
      obtain rfl : x = ⟨⟨#[97]⟩, 1, 0⟩ := List.mem_singleton.1 hx
      decide +kernel⟩, by decide⟩, by decide, (fun e (he : e ∈ ([] : List Event)) => by cases he), by decide, (fun c (hc : c ∈ ([] : List (Int × List Dep))) => by cases hc)⟩
theorem st2_ok : SOk st2 := ⟨(fun p (hp : p ∈ ([] : List (List Dep))) => by cases hp), by decide, (fun e (he : e ∈ ([] : List Event)) => by cases he), by decide, (fun c (hc : c ∈ ([] : List (Int × List Dep))) => by cases hc)⟩
/-- The first that is not so, of those from a place on. -/
def firstFrom (l : List Bool) (k : Nat) : Int := if k < 5 then (if l.getD k true then firstFrom l (k + 1) else (k : Int) + 1) else 0
termination_by 5 - k
theorem from_step (l : List Bool) {k : Nat} (hk : k < 5) : firstFrom l k = if l.getD k true then firstFrom l (k + 1) else (k : Int) + 1 := by
  rw [firstFrom, if_pos hk]
theorem from_zero (a b c d e : Bool) : firstFrom [a, b, c, d, e] 0 = firstNo [a, b, c, d, e] := by
  cases a <;> cases b <;> cases c <;> cases d <;> cases e <;> (simp [firstFrom, firstNo, List.findIdx?_cons])
end H
theorem hawake27_a : ACall Tryz.prog 4 [] (bv true) := by
  refine ACall_enter (fun _ _ => by kernel_rfl) Tryz.func4 rfl Tryz.ntmps4 Tryz.results4 (Nat.le_of_ble_eq_true rfl) (fun hok M0 w0 hnl => ?_)
  refine Aw_seq (Aw_region ?_)
  refine Al_p Pu_mvr ?_
  refine Al_nil (Aw_seq (Aw_region ?_))
  refine Al_p (Pu_build (aa := []) rfl Tryz.underlying41 Tryz.zeroValue41 (places41 Tryz.underlying41) (by kernel_rfl) trivial rfl) ?_
  refine Al_p (Pu_slice1 rfl Tryz.underlying25 Tryz.sizeOf41 Tryz.zeroValue41 rfl (by decide) (by decide) (by kernel_rfl) rfl rfl rfl) ?_
  refine Al_p (Pu_slice1 rfl Tryz.underlying22 Tryz.sizeOf3 Tryz.zeroValue3 rfl (by decide) (by decide) (by kernel_rfl) rfl rfl rfl) ?_
  refine Al_p (Pu_buildSlice (aa := [(0, _), (1, _)]) rfl Tryz.underlying22 Tryz.sizeOf3 Tryz.zeroValue3 rfl (by decide) (by decide) (by decide) (by kernel_rfl) ⟨rfl, rfl, rfl, rfl, rfl, rfl, trivial⟩ ((rfl : _ = some [[iv (-1)], [iv 0]].flatten)) rfl rfl) ?_
  refine Al_p (Pu_build (aa := [(0, _), (1, _), (2, _)]) rfl Tryz.underlying27 Tryz.zeroValue27 (places27 Tryz.underlying27) (by kernel_rfl) ⟨rfl, rfl, rfl, rfl, rfl, rfl, rfl, rfl, rfl, trivial⟩ rfl) ?_
  refine Al_alloc rfl rfl rfl (by decide) Tryz.zeroValue27 rfl (by kernel_rfl) (fun g1 => ?_)
  refine Al_storeN rfl rfl rfl (by kernel_rfl) Tryz.isAgg27 Tryz.sizeOf27 rfl rfl rfl rfl (Nat.le_of_ble_eq_true rfl) ?_
  refine Al_nil (Aw_seq (Aw_region ?_))
  refine Al_p (Pu_loadbN (r := [_, _, _]) rfl Tryz.isAgg27 Tryz.sizeOf27 rfl rfl rfl rfl) ?_
  refine Al_p (Pu_build (aa := [(0, _)]) rfl Tryz.underlying43 Tryz.zeroValue43 (places43 Tryz.underlying43) (by kernel_rfl) ⟨rfl, rfl, rfl, trivial⟩ rfl) ?_
  refine Al_p (Pu_build (aa := [(0, _), (1, _)]) rfl Tryz.underlying45 Tryz.zeroValue45 (places45 Tryz.underlying45) (by kernel_rfl) ⟨rfl, rfl, rfl, rfl, rfl, rfl, trivial⟩ rfl) ?_
  refine Al_p (Pu_slice1 rfl Tryz.underlying46 Tryz.sizeOf45 Tryz.zeroValue45 rfl (by decide) (by decide) (by kernel_rfl) rfl rfl rfl) ?_
  refine Al_p (Pu_slice1 rfl Tryz.underlying28 Tryz.sizeOf46 Tryz.zeroValue46 rfl (by decide) (by decide) (by kernel_rfl) rfl rfl rfl) ?_
  refine Al_p (Pu_build (aa := [(0, _), (1, _)]) rfl Tryz.underlying32 Tryz.zeroValue32 (places32 Tryz.underlying32) (by kernel_rfl) ⟨rfl, rfl, rfl, rfl, rfl, rfl, trivial⟩ rfl) ?_
  refine Al_p (Pu_call (scheck_a H.st1 H.st1_ok) rfl ⟨ASub.sub (.row ⟨.rfl, .rfl, .rfl, .rfl, .nil, .nil, .nil, .rfl, trivial⟩), trivial⟩) ?_
  refine Al_p (Pu_cmp rfl rfl rfl rfl) ?_
  refine Al_p Pu_mvl ?_
  refine Al_st (St_gd [] rfl rfl rfl rfl trivial (fun hg16 => by exact Pu_build (aa := []) rfl Tryz.underlying32 Tryz.zeroValue32 (places32 Tryz.underlying32) (by kernel_rfl) trivial rfl)) rfl (by decide) (by kernel_rfl) (by intro j b oj dj h1 h2 h3; cases h1; cases h2; cases h3; decide) ?_
  refine Al_st (St_gd [16] rfl rfl rfl rfl ⟨⟨_, rfl⟩, trivial⟩ (fun hg17 => Pu_call (scheck_a H.st2 H.st2_ok) rfl ⟨ASub.sub (.row ⟨.nil, .nil, .nil, .nil, .nil, .nil, .nil, .rfl, trivial⟩), trivial⟩)) rfl (by decide) (by kernel_rfl) (by intro j b oj dj h1 h2 h3; cases h1; cases h2; cases h3; decide) ?_
  refine Al_st (St_gd [17] rfl rfl rfl rfl ⟨⟨_, rfl⟩, trivial⟩ (fun hg18 => Pu_cmp rfl rfl rfl rfl)) rfl (by decide) (by kernel_rfl) (by intro j b oj dj h1 h2 h3; cases h1; cases h2; cases h3; decide) ?_
  refine Al_p (Pu_and rfl rfl rfl rfl) ?_
  refine Al_p Pu_mvl ?_
  refine Al_st (St_gd [] rfl rfl rfl rfl trivial (fun hg21 => Pu_loadbN (r := [_, _, _]) rfl Tryz.isAgg27 Tryz.sizeOf27 rfl rfl rfl rfl)) rfl (by decide) (by kernel_rfl) (by intro j b oj dj h1 h2 h3; cases h1; cases h2; cases h3; decide) ?_
  refine Al_st (St_gd [] rfl rfl rfl rfl trivial (fun hg22 => by exact Pu_build (aa := [(0, _)]) rfl Tryz.underlying45 Tryz.zeroValue45 (places45 Tryz.underlying45) (by kernel_rfl) ⟨rfl, rfl, rfl, trivial⟩ rfl)) rfl (by decide) (by kernel_rfl) (by intro j b oj dj h1 h2 h3; cases h1; cases h2; cases h3; decide) ?_
  refine Al_st (St_gd [22] rfl rfl rfl rfl ⟨⟨_, rfl⟩, trivial⟩ (fun hg23 => by exact Pu_slice1 rfl Tryz.underlying46 Tryz.sizeOf45 Tryz.zeroValue45 rfl (by decide) (by decide) (by kernel_rfl) rfl rfl rfl)) rfl (by decide) (by kernel_rfl) (by intro j b oj dj h1 h2 h3; cases h1; cases h2; cases h3; decide) ?_
  refine Al_st (St_gd [23] rfl rfl rfl rfl ⟨⟨_, rfl⟩, trivial⟩ (fun hg24 => by exact Pu_slice1 rfl Tryz.underlying28 Tryz.sizeOf46 Tryz.zeroValue46 rfl (by decide) (by decide) (by kernel_rfl) rfl rfl rfl)) rfl (by decide) (by kernel_rfl) (by intro j b oj dj h1 h2 h3; cases h1; cases h2; cases h3; decide) ?_
  refine Al_st (St_gd [21, 24] rfl rfl rfl rfl ⟨⟨_, rfl⟩, ⟨_, rfl⟩, trivial⟩ (fun hg25 => by exact Pu_build (aa := [(0, _), (1, _)]) rfl Tryz.underlying32 Tryz.zeroValue32 (places32 Tryz.underlying32) (by kernel_rfl) ⟨rfl, rfl, rfl, rfl, rfl, rfl, trivial⟩ rfl)) rfl (by decide) (by kernel_rfl) (by intro j b oj dj h1 h2 h3; cases h1; cases h2; cases h3; decide) ?_
  refine Al_st (St_gd [25] rfl rfl rfl rfl ⟨⟨_, rfl⟩, trivial⟩ (fun hg26 => Pu_call (sowning_a H.st3 (fun p hp => by
    obtain rfl : p = [⟨⟨#[97]⟩, 0, 0⟩] := List.mem_singleton.1 hp
    decide)) rfl ⟨ASub.sub (.row ⟨.rfl, .rfl, .rfl, .rfl, .nil, .nil, .nil, .rfl, trivial⟩), trivial⟩)) rfl (by decide) (by kernel_rfl) (by intro j b oj dj h1 h2 h3; cases h1; cases h2; cases h3; decide) ?_
  refine Al_st (St_gd [26] rfl rfl rfl rfl ⟨⟨_, rfl⟩, trivial⟩ (fun hg27 => Pu_not rfl rfl)) rfl (by decide) (by kernel_rfl) (by intro j b oj dj h1 h2 h3; cases h1; cases h2; cases h3; decide) ?_
  refine Al_p (Pu_and rfl rfl rfl rfl) ?_
  refine Al_p Pu_mvr ?_
  refine Al_nil ?_
  refine Aw_ret ?_
  exact Sub.bool (by rw [H.st1_first, H.st2_first, H.st3_no]; rfl) -- ret 0
set_option maxHeartbeats 4000000 in
theorem sfirst_law (q : QSpec) (s : SSt) : ACall Tryz.prog 3 [.row q.row, .row s.cells] (bv true) := by
  refine ACall_enter (fun _ _ => by kernel_rfl) Tryz.func3 rfl Tryz.ntmps3 Tryz.results3 (Nat.le_of_ble_eq_true rfl) (fun hok M0 w0 hnl => ?_)
  obtain ⟨x, hx⟩ : ∃ x : SSt, x = { H.few s with row := q.mkR 0 } := ⟨_, rfl⟩
  have hok2 : H.SOk x := by rw [hx]; exact H.few_ok s _
  have hn := hok2.hn
  obtain ⟨y, hy⟩ : ∃ y : SSt, y = { x with idle := false } := ⟨_, rfl⟩
  have hoky : H.SOk y := by rw [hy]; exact ⟨hok2.hv, hok2.hl, hok2.ev, hok2.hn, hok2.ses⟩
  have hmy : H.meets y = true := by rw [hy]; rfl
  have hxc : x.cells = (q.mkR 0).row ++ (H.few s).cells.drop 3 := by rw [hx]; rfl
  have hyc : y.cells = x.cells.take 7 ++ [bv false] := by rw [hy]; rfl
  refine Aw_seq (Aw_region ?_)
  refine Al_p (Pu_boxN rfl rfl) ?_
  refine Al_boxN rfl rfl rfl (by decide) (by kernel_rfl) rfl (fun g3 => ?_)
  refine Al_p Pu_mvr ?_
  refine Al_nil (Aw_seq (Aw_region ?_))
  refine Al_p (Pu_call (hawake27_a) rfl trivial) ?_
  refine Al_p Pu_mvr ?_
  refine Al_nil (Aw_seq (Aw_region ?_))
  refine Al_p (Pu_loadbN (r := [_, _, _, _, _, _, _, _]) rfl Tryz.isAgg32 Tryz.sizeOf32 rfl rfl rfl rfl) ?_
  refine Al_p (Pu_call (hfew_a s) rfl ⟨Sub.rfl, trivial⟩) ?_
  refine Al_storeN rfl rfl rfl (by kernel_rfl) Tryz.isAgg32 Tryz.sizeOf32 rfl rfl rfl rfl (Nat.le_of_ble_eq_true rfl) ?_
  refine Al_nil (Aw_seq (Aw_region ?_))
  refine Al_p (Pu_loadN rfl Tryz.isAgg24 Tryz.sizeOf24 rfl (Nat.le_of_ble_eq_true rfl)) ?_
  refine Al_p (Pu_call (hspec_a q) rfl ⟨Sub.rfl, trivial⟩) ?_
  refine Al_p (Pu_fieldb 0 rfl Tryz.underlying32 rfl rfl Tryz.sizeOf27 rfl) ?_
  refine Al_storeN rfl rfl rfl (by kernel_rfl) Tryz.isAgg27 Tryz.sizeOf27 rfl rfl rfl rfl (Nat.le_of_ble_eq_true rfl) ?_
  refine Al_nil (Aw_seq ?_)
  refine Aw_drawA 11 (by kernel_rfl) (by kernel_rfl) rfl rfl rfl rfl (by decide) Tryz.zeroValue37 rfl (by kernel_rfl) rfl ?_
  refine Dr_p (Pu_loadbN (r := [_, _, _, _, _, _, _, _]) rfl Tryz.isAgg32 Tryz.sizeOf32 rfl rfl rfl rfl) ?_
  refine Dr_p (Pu_call (sowning_a x hok2.have1) rfl ⟨Sub.d (by rw [hxc]; rfl), trivial⟩) ?_
  refine Dr_p (Pu_loadbN (r := [_, _, _, _, _, _, _, _]) rfl Tryz.isAgg32 Tryz.sizeOf32 rfl rfl rfl rfl) ?_
  refine Dr_p (Pu_call (scovered_a x hok2) rfl ⟨Sub.d (by rw [hxc]; rfl), trivial⟩) ?_
  refine Dr_p (Pu_loadbN (r := [_, _, _, _, _, _, _, _]) rfl Tryz.isAgg32 Tryz.sizeOf32 rfl rfl rfl rfl) ?_
  refine Dr_p (Pu_call (sheads_a x hok2.have1 (by omega)) rfl ⟨Sub.d (by rw [hxc]; rfl), trivial⟩) ?_
  refine Dr_p (Pu_loadbN (r := [_, _, _, _, _, _, _, _]) rfl Tryz.isAgg32 Tryz.sizeOf32 rfl rfl rfl rfl) ?_
  refine Dr_p (Pu_call (scausal_a x hok2) rfl ⟨Sub.d (by rw [hxc]; rfl), trivial⟩) ?_
  refine Dr_p (Pu_loadbN (r := [_, _, _, _, _, _, _, _]) rfl Tryz.isAgg32 Tryz.sizeOf32 rfl rfl rfl rfl) ?_
  refine Dr_p (Pu_call (smeets_a x hok2) rfl ⟨Sub.d (by rw [hxc]; rfl), trivial⟩) ?_
  refine Dr_p (Pu_buildArr (aa := [(0, _), (1, _), (2, _), (3, _), (4, _)]) rfl Tryz.underlying37 Tryz.zeroValue37 Tryz.sizeOf4 (by kernel_rfl) ⟨rfl, rfl, rfl, rfl, rfl, rfl, rfl, rfl, rfl, rfl, rfl, rfl, rfl, rfl, rfl, trivial⟩ rfl) ?_
  refine Dr_nil ?_
  intro g6
  refine Al_storeN rfl rfl rfl (by kernel_rfl) Tryz.isAgg37 Tryz.sizeOf37 rfl rfl rfl rfl (Nat.le_of_ble_eq_true rfl) ?_
  refine Al_nil (Aw_seq (Aw_region ?_))
  refine Al_p Pu_mvr ?_
  refine Al_nil (Aw_seq (Aw_seq (Aw_region ?_)))
  refine Al_p Pu_mvr ?_
  refine Al_nil (Aw_block ?_)
  refine Aw_loopk (ι := Nat) [3, 5, 6] [3, 6] (fun k => [(8, .d (iv ((k : Int) - 1))), (7, .d (iv (H.firstFrom (H.all5 x) k)))]) (fun k => []) (fun k => k ≤ 5) (fun k => k) (5) (by omega) ⟨Sub.num (by omega), Sub.num (by rw [H.firstFrom]; rfl), trivial⟩ trivial ?_
  rintro k hk5
  refine Aw_seq (Aw_seq (Aw_region ?_))
  refine Al_p Pu_mvl ?_
  refine Al_p (Pu_cmp rfl rfl rfl rfl) ?_
  refine Al_nil ?_
  refine Aw_cond rfl (fun h28 => ?_) (fun h28 => ?_)
  · (try simp only [decide_eq_true_eq, decide_eq_false_iff_not, Bool.and_eq_true, Bool.or_eq_true, Bool.and_eq_false_iff, Bool.or_eq_false_iff, Bool.not_eq_true', Bool.not_eq_false', beq_iff_eq, Bool.not_eq_eq_eq_not, Bool.not_true, Bool.not_false, List.length_map, Bool.and_true, Bool.and_false, Bool.false_and, Bool.true_and, Bool.or_false, Bool.false_or] at h28)
    obtain ⟨k, rfl⟩ : ∃ j, k = j + 1 := ⟨k - 1, by omega⟩
    have hk : k < 5 := by omega
    refine Aw_skip ?_
    -- join 0: live [3, 5, 6, 7, 8], turned [7]
    refine Aw_seq (Aw_block (Aw_seq (Aw_region ?_)))
    refine Al_p Pu_mvl ?_
    refine Al_p (Pu_indexArrb (j := k) rfl Tryz.underlying37 Tryz.sizeOf4 rfl rfl (by omega) hk) ?_
    refine Al_p (Pu_loadb rfl Tryz.isAgg4 rfl rfl (H.box5 (H.owning x) (H.covered x) (H.heads x) (H.causal x) (H.meets x) hk)) ?_
    refine Al_p (Pu_not rfl rfl) ?_
    refine Al_nil ?_
    refine Aw_cond rfl (fun h34 => ?_) (fun h34 => ?_)
    · skip
      have hno : (H.all5 x).getD k true = false := by
        have h0 : (!((H.all5 x).getD k true)) = true := h34
        revert h0; cases (H.all5 x).getD k true <;> simp
      refine Aw_region ?_
      refine Al_p Pu_mvl ?_
      refine Al_p (Pu_add rfl rfl rfl (fun h1 h2 => by simp only [A.inI, A.maxI] at *; omega)) ?_
      refine Al_p Pu_mvr ?_
      refine Al_nil (Aw_region ?_)
      refine Al_p Pu_mvl ?_
      refine Al_p (Pu_sub rfl rfl rfl (fun h1 h2 => by simp only [A.inI, A.maxI] at *; omega)) ?_
      refine Al_p Pu_mvr ?_
      refine Al_nil ?_
      exact ⟨k, by omega, by omega, Le.ov ⟨Sub.num (by omega), Sub.num (by rw [H.from_step (H.all5 x) hk, hno]; simp), trivial⟩ ⟨Sub.rfl, Sub.rfl, Sub.rfl, trivial⟩ trivial ⟨rfl, rfl, trivial⟩⟩ -- loop 0 next.0
    · skip
      have hyes : (H.all5 x).getD k true = true := by
        have h0 : (!((H.all5 x).getD k true)) = false := h34
        revert h0; cases (H.all5 x).getD k true <;> simp
      refine Aw_skip (Aw_region ?_)
      refine Al_p Pu_mvl ?_
      refine Al_p (Pu_sub rfl rfl rfl (fun h1 h2 => by simp only [A.inI, A.maxI] at *; omega)) ?_
      refine Al_p Pu_mvr ?_
      refine Al_nil ?_
      exact ⟨k, by omega, by omega, Le.ov ⟨Sub.num (by omega), Sub.num (by rw [H.from_step (H.all5 x) hk, hyes]; simp), trivial⟩ ⟨Sub.rfl, Sub.rfl, Sub.rfl, trivial⟩ trivial ⟨rfl, rfl, trivial⟩⟩ -- loop 0 next.1
  · (try simp only [decide_eq_true_eq, decide_eq_false_iff_not, Bool.and_eq_true, Bool.or_eq_true, Bool.and_eq_false_iff, Bool.or_eq_false_iff, Bool.not_eq_true', Bool.not_eq_false', beq_iff_eq, Bool.not_eq_eq_eq_not, Bool.not_true, Bool.not_false, List.length_map, Bool.and_true, Bool.and_false, Bool.false_and, Bool.true_and, Bool.or_false, Bool.false_or] at h28)
    obtain rfl : k = 0 := by omega
    have hff : H.firstFrom (H.all5 x) 0 = H.firstNo (H.all5 x) := H.from_zero _ _ _ _ _
    refine Aw_exit (Aw_seq (Aw_region ?_))
    refine Al_p (Pu_loadbN (r := [_, _, _, _, _, _, _, _]) rfl Tryz.isAgg32 Tryz.sizeOf32 rfl rfl rfl rfl) ?_
    refine Al_alloc rfl rfl rfl (by decide) Tryz.zeroValue32 rfl (by kernel_rfl) (fun g9 => ?_)
    refine Al_storeN rfl rfl rfl (by kernel_rfl) Tryz.isAgg32 Tryz.sizeOf32 rfl rfl rfl rfl (Nat.le_of_ble_eq_true rfl) ?_
    refine Al_nil (Aw_seq (Aw_region ?_))
    refine Al_p (Pu_fieldb 7 rfl Tryz.underlying32 rfl rfl Tryz.sizeOf4 rfl) ?_
    refine Al_store1 rfl rfl rfl (by kernel_rfl) Tryz.isAgg4 Tryz.sizeOf4 rfl rfl (Nat.le_of_ble_eq_true rfl) (by conv => lhs; whnf) rfl ?_
    refine Al_nil (Aw_seq (Aw_region ?_))
    refine Al_p Pu_mvl ?_
    refine Al_p Pu_mvl ?_
    refine Al_st (St_gd [] rfl rfl rfl rfl trivial (fun hg41 => Pu_loadbN (r := [_, _, _, _, _, _, _, _]) rfl Tryz.isAgg32 Tryz.sizeOf32 rfl rfl rfl rfl)) rfl (by decide) (by kernel_rfl) (by intro j b oj dj h1 h2 h3; cases h1; cases h2; cases h3; decide) ?_
    refine Al_st (St_gd [41] rfl rfl rfl rfl ⟨⟨_, rfl⟩, trivial⟩ (fun hg42 => by exact Pu_call (scheck_a x hok2) rfl ⟨Sub.d (by rw [hxc]; rfl), trivial⟩)) rfl (by decide) (by kernel_rfl) (by intro j b oj dj h1 h2 h3; cases h1; cases h2; cases h3; decide) ?_
    refine Al_st (St_gd [] rfl rfl rfl rfl trivial (fun hg43 => by exact Pu_move (.inl rfl) (by conv => lhs; whnf))) rfl (by decide) (by kernel_rfl) (by intro j b oj dj h1 h2 h3; cases h1; cases h2; cases h3; decide) ?_
    refine Al_st (St_gd [42, 43] rfl rfl rfl rfl ⟨⟨_, rfl⟩, ⟨_, rfl⟩, trivial⟩ (fun hg44 => Pu_cmp rfl rfl rfl rfl)) rfl (by decide) (by kernel_rfl) (by intro j b oj dj h1 h2 h3; cases h1; cases h2; cases h3; decide) ?_
    refine Al_p (Pu_and rfl rfl rfl rfl) ?_
    refine Al_p Pu_mvl ?_
    refine Al_st (St_gd [] rfl rfl rfl rfl trivial (fun hg47 => Pu_loadbN (r := [_, _, _, _, _, _, _, _]) rfl Tryz.isAgg32 Tryz.sizeOf32 rfl rfl rfl rfl)) rfl (by decide) (by kernel_rfl) (by intro j b oj dj h1 h2 h3; cases h1; cases h2; cases h3; decide) ?_
    refine Al_st (St_gd [47] rfl rfl rfl rfl ⟨⟨_, rfl⟩, trivial⟩ (fun hg48 => by exact Pu_call (smeets_a y hoky) rfl ⟨Sub.d (by rw [hyc, hxc]; rfl), trivial⟩)) rfl (by decide) (by kernel_rfl) (by intro j b oj dj h1 h2 h3; cases h1; cases h2; cases h3; decide) ?_
    refine Al_p (Pu_and rfl rfl rfl rfl) ?_
    refine Al_p Pu_mvr ?_
    refine Al_nil ?_
    refine Aw_ret ?_
    exact Sub.bool (by rw [hff, hmy]; simp) -- ret 0
end Go.Proofs.YtojehmkkbdedaaaGreat
end
